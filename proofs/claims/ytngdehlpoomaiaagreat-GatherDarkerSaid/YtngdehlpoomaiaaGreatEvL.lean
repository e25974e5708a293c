/- Functions of typed values, out of 'fnE': blocks, loops. -/
import Derived.Test.YtngdehlpoomaiaaGreatEvK
noncomputable section
set_option linter.unusedSectionVars false
set_option linter.unusedVariables false
set_option linter.unusedSimpArgs false
namespace Go.Ev
open Go.RowKit
abbrev au (n:Int):Int:=IntKind.wrap .i64 n
abbrev ci (n:Int):Cell:= .raw (.int .i64 n)
abbrev vi (n:Int):AV:= .v (.one (.raw (.int .i64 n)))
abbrev vb (b:Bool):AV:= .v (.one (.raw (.bool b)))
abbrev D:AV:= .dead
theorem aC {n:Int} (h1: -9223372036854775808<=n) (h2:n<=9223372036854775807):au n=n:=by rw [au,IntKind.wrap_i64];omega
def cL:Code->Code| .seq a _=>a|c=>c
def cR:Code->Code| .seq _ b=>b|c=>c
def cI:Code->Code| .block _ c=>c| .loop c=>c|c=>c
def aG (fn:Func):Code:=match fn.body with|some c=>c|none=> .skip
def ids:Code->List Nat
 | .seq a b=>ids a++ids b
 | .cond _ a b=>ids a++ids b
 | .loop c=>ids c
 | .block id c=>id::ids c
 | .rangeFunc _ _ a b=>ids a++ids b
 |_=> []
def bE (id:Nat):Code->Option Code
 | .seq a b=>match bE id a with|some c=>some c|none=>bE id b
 | .cond _ a b=>match bE id a with|some c=>some c|none=>bE id b
 | .loop c=>bE id c
 | .block i c=>if i=id then some c else bE id c
 | .rangeFunc _ _ a b=>match bE id a with|some c=>some c|none=>bE id b
 |_=>none
def blk (id:Nat) (c:Code):Code:=match bE id c with|some c=>c|none=> .skip
def dy:List Nat->Bool
 | []=>true
 |x::r=> !r.contains x&&dy r
theorem dQ: ∀ {l:List Nat},dy l=true->l.Nodup
 | [],_=>List.nodup_nil
 |x::r,h=>by
  simp only [dy,Bool.and_eq_true,Bool.not_eq_true',List.contains_eq_mem,decide_eq_false_iff_not] at h
  exact List.nodup_cons.2 ⟨h.1,dQ h.2⟩
section
variable {P:Program} {tt:List (Nat×TI)} {specs:List (Nat×Spec)} {X:Addr->Value->Prop}
def ax (P:Program) (X:Addr->Value->Prop) (c:Code) (lp:List (Nat×bC)):Prop:=
 ∀aq W ro n,ru aq W X-> ∀id sp,aI lp id=some sp->((ro=none/\ aq.bd= [])\/ lz (blk id c)=true)-> ∀st K,sp st K-> ∀ρ a w,D6 aq W st ρ a w->(Code.block id (blk id c)).wpIn (fw ro) n P (Post aq W K) a w
theorem cN: ∀ {c:Code} {id:Nat},id∉ids c->bE id c=none
 | .seq a b,id,h=>by
  simp only [ids,List.mem_append,not_or] at h
  simp only [bE,cN h.1,cN h.2]
 | .cond _ a b,id,h=>by
  simp only [ids,List.mem_append,not_or] at h
  simp only [bE,cN h.1,cN h.2]
 | .rangeFunc _ _ a b,id,h=>by
  simp only [ids,List.mem_append,not_or] at h
  simp only [bE,cN h.1,cN h.2]
 | .loop c,id,h=>by simp only [ids] at h;simp only [bE,cN h]
 | .block i c,id,h=>by
  simp only [ids,List.mem_cons,not_or] at h
  simp only [bE,if_neg (Ne.symm h.1),cN h.2]
 | .skip,_,_=>rfl
 | .region ..,_,_=>rfl
 | .exit _,_,_=>rfl
 | .scope _,_,_=>rfl
 | .label _,_,_=>rfl
 | .goto _,_,_=>rfl
 | .ret,_,_=>rfl
 | .refuse _,_,_=>rfl
theorem iI {lp:List (Nat×bC)} {ys:List (Nat×Spec)} {its:List (Nat×cX)} : ∀(c:Code),(ids c).Nodup->
  (∀id∈ids c,∀sp,aI lp id=some sp-> ∀b,bE id c=some b-> ∀aq W ro n,ru aq W X->((ro=none/\ aq.bd= [])\/ lz b=true)-> ∀st K,sp st K-> ∀ρ a w,D6 aq W st ρ a w->(Code.block id b).wpIn (fw ro) n P (Post aq W K) a w)->
  qy P ⟨tt,specs,X,lp,ys,its⟩ c
 | .seq a b,hn,h=>by
  simp only [ids,List.nodup_append] at hn
  refine ⟨iI a hn.1 fun id hi sp hs c hc=>h id (by simp [ids,hi]) sp hs c (by simp only [bE,hc]),iI b hn.2.1 fun id hi sp hs c hc=>h id (by simp [ids,hi]) sp hs c ?_⟩
  have:id∉ids a:=fun h1=>hn.2.2 id h1 id hi rfl
  simp only [bE,cN this,hc]
 | .cond _ a b,hn,h=>by
  simp only [ids,List.nodup_append] at hn
  refine ⟨iI a hn.1 fun id hi sp hs c hc=>h id (by simp [ids,hi]) sp hs c (by simp only [bE,hc]),iI b hn.2.1 fun id hi sp hs c hc=>h id (by simp [ids,hi]) sp hs c ?_⟩
  have:id∉ids a:=fun h1=>hn.2.2 id h1 id hi rfl
  simp only [bE,cN this,hc]
 | .rangeFunc _ _ a b,hn,h=>by
  simp only [ids,List.nodup_append] at hn
  refine ⟨iI a hn.1 fun id hi sp hs c hc=>h id (by simp [ids,hi]) sp hs c (by simp only [bE,hc]),iI b hn.2.1 fun id hi sp hs c hc=>h id (by simp [ids,hi]) sp hs c ?_⟩
  have:id∉ids a:=fun h1=>hn.2.2 id h1 id hi rfl
  simp only [bE,cN this,hc]
 | .loop c,hn,h=>iI c hn fun id hi sp hs b hb=>h id hi sp hs b hb
 | .block i c,hn,h=>by
  simp only [ids,List.nodup_cons] at hn
  unfold qy
  split
  ·rename_i hs
   refine iI c hn.2 fun id hi sp hs' b hb=>h id (by simp [ids,hi]) sp hs' b ?_
   have:i≠id:=fun e=>hn.1 (e▸hi)
   simp only [bE,if_neg this,hb]
  ·rename_i sp hs
   exact h i (by simp [ids]) sp hs c (by simp [bE])
 | .skip,_,_=>trivial
 | .region ..,_,_=>trivial
 | .exit _,_,_=>trivial
 | .scope _,_,_=>trivial
 | .label _,_,_=>trivial
 | .goto _,_,_=>trivial
 | .ret,_,_=>trivial
 | .refuse _,_,_=>trivial
theorem ax.nil {c:Code} :ax P X c []:=fun _ _ _ _ _ _ _ h=>by cases h
theorem gJ: ∀ {c b:Code} {id:Nat},bE id c=some b->(ids c).Nodup->(ids b).Nodup/\ ∀j∈ids b,bE j c=bE j b
 | .seq a b,d,id,h,hn=>by
  simp only [ids,List.nodup_append] at hn
  simp only [bE] at h
  split at h
  ·rename_i hc
   cases h
   obtain ⟨h1,h2⟩:=gJ hc hn.1
   refine ⟨h1,fun j hj=> ?_⟩
   have:=h2 j hj
   simp only [bE]
   rw [this]
   cases hb:bE j d with
   |some _=>rfl
   |none=>exact absurd hb (fy hj)
  ·rename_i hc
   obtain ⟨h1,h2⟩:=gJ h hn.2.1
   refine ⟨h1,fun j hj=> ?_⟩
   have hjb:j∈ids b:=eK h j hj
   have:j∉ids a:=fun h1=>hn.2.2 j h1 j hjb rfl
   simp only [bE,cN this,h2 j hj]
 | .cond _ a b,d,id,h,hn=>by
  simp only [ids,List.nodup_append] at hn
  simp only [bE] at h
  split at h
  ·rename_i hc
   cases h
   obtain ⟨h1,h2⟩:=gJ hc hn.1
   refine ⟨h1,fun j hj=> ?_⟩
   have:=h2 j hj
   simp only [bE]
   rw [this]
   cases hb:bE j d with
   |some _=>rfl
   |none=>exact absurd hb (fy hj)
  ·rename_i hc
   obtain ⟨h1,h2⟩:=gJ h hn.2.1
   refine ⟨h1,fun j hj=> ?_⟩
   have hjb:j∈ids b:=eK h j hj
   have:j∉ids a:=fun h1=>hn.2.2 j h1 j hjb rfl
   simp only [bE,cN this,h2 j hj]
 | .rangeFunc _ _ a b,d,id,h,hn=>by
  simp only [ids,List.nodup_append] at hn
  simp only [bE] at h
  split at h
  ·rename_i hc
   cases h
   obtain ⟨h1,h2⟩:=gJ hc hn.1
   refine ⟨h1,fun j hj=> ?_⟩
   have:=h2 j hj
   simp only [bE]
   rw [this]
   cases hb:bE j d with
   |some _=>rfl
   |none=>exact absurd hb (fy hj)
  ·rename_i hc
   obtain ⟨h1,h2⟩:=gJ h hn.2.1
   refine ⟨h1,fun j hj=> ?_⟩
   have hjb:j∈ids b:=eK h j hj
   have:j∉ids a:=fun h1=>hn.2.2 j h1 j hjb rfl
   simp only [bE,cN this,h2 j hj]
 | .loop c,d,id,h,hn=>by
  simp only [bE] at h
  obtain ⟨h1,h2⟩:=gJ h hn
  exact ⟨h1,fun j hj=>by simp only [bE];exact h2 j hj⟩
 | .block i c,d,id,h,hn=>by
  simp only [ids,List.nodup_cons] at hn
  simp only [bE] at h
  split at h
  ·cases h
   refine ⟨hn.2,fun j hj=> ?_⟩
   have:i≠j:=fun e=>hn.1 (e▸hj)
   simp only [bE,if_neg this]
  ·obtain ⟨h1,h2⟩:=gJ h hn.2
   refine ⟨h1,fun j hj=> ?_⟩
   have:i≠j:=fun e=>hn.1 (e▸eK h j hj)
   simp only [bE,if_neg this];exact h2 j hj
 | .skip,_,_,h,_=>by cases h
 | .region ..,_,_,h,_=>by cases h
 | .exit _,_,_,h,_=>by cases h
 | .scope _,_,_,h,_=>by cases h
 | .label _,_,_,h,_=>by cases h
 | .goto _,_,_,h,_=>by cases h
 | .ret,_,_,h,_=>by cases h
 | .refuse _,_,_,h,_=>by cases h
where
 fy: ∀ {c:Code} {j:Nat},j∈ids c->bE j c≠none
  | .seq a b,j,h=>by
   simp only [ids,List.mem_append] at h
   simp only [bE]
   rcases h with h|h
   ·have:=fy h
    split<;>simp_all
   ·have:=fy h
    split<;>simp_all
  | .cond _ a b,j,h=>by
   simp only [ids,List.mem_append] at h
   simp only [bE]
   rcases h with h|h
   ·have:=fy h
    split<;>simp_all
   ·have:=fy h
    split<;>simp_all
  | .rangeFunc _ _ a b,j,h=>by
   simp only [ids,List.mem_append] at h
   simp only [bE]
   rcases h with h|h
   ·have:=fy h
    split<;>simp_all
   ·have:=fy h
    split<;>simp_all
  | .loop c,j,h=>by simp only [ids] at h;simp only [bE];exact fy h
  | .block i c,j,h=>by
   simp only [ids,List.mem_cons] at h
   simp only [bE]
   split
   ·simp
   ·rename_i hi;exact fy (h.resolve_left (Ne.symm hi))
  | .skip,_,h=>by simp [ids] at h
  | .region ..,_,h=>by simp [ids] at h
  | .exit _,_,h=>by simp [ids] at h
  | .scope _,_,h=>by simp [ids] at h
  | .label _,_,h=>by simp [ids] at h
  | .goto _,_,h=>by simp [ids] at h
  | .ret,_,h=>by simp [ids] at h
  | .refuse _,_,h=>by simp [ids] at h
 eK: ∀ {c b:Code} {id:Nat},bE id c=some b-> ∀j∈ids b,j∈ids c
  | .seq a b,d,id,h=>by
   intro j hj
   simp only [bE] at h
   simp only [ids,List.mem_append]
   split at h
   ·rename_i hc;cases h;exact .inl (eK hc j hj)
   ·exact .inr (eK h j hj)
  | .cond _ a b,d,id,h=>by
   intro j hj
   simp only [bE] at h
   simp only [ids,List.mem_append]
   split at h
   ·rename_i hc;cases h;exact .inl (eK hc j hj)
   ·exact .inr (eK h j hj)
  | .rangeFunc _ _ a b,d,id,h=>by
   intro j hj
   simp only [bE] at h
   simp only [ids,List.mem_append]
   split at h
   ·rename_i hc;cases h;exact .inl (eK hc j hj)
   ·exact .inr (eK h j hj)
  | .loop c,d,id,h=>by intro j hj;simp only [bE] at h;simp only [ids];exact eK h j hj
  | .block i c,d,id,h=>by
   intro j hj
   simp only [bE] at h
   simp only [ids,List.mem_cons]
   split at h
   ·cases h;exact .inr hj
   ·exact .inr (eK h j hj)
  | .skip,_,_,h=>by cases h
  | .region ..,_,_,h=>by cases h
  | .exit _,_,_,h=>by cases h
  | .scope _,_,_,h=>by cases h
  | .label _,_,_,h=>by cases h
  | .goto _,_,_,h=>by cases h
  | .ret,_,_,h=>by cases h
  | .refuse _,_,_,h=>by cases h
theorem vZ {lp:List (Nat×bC)} {ys:List (Nat×Spec)} {its:List (Nat×cX)} {c:Code} (hn:(ids c).Nodup) (h:ax P X c lp):qy P ⟨tt,specs,X,lp,ys,its⟩ c:=
 iI c hn fun id _ sp hs b hb aq W ro n hX hro st K hk ρ a w aR=>by
  have:=h aq W ro n hX id sp hs (by simpa only [blk,hb] using hro) st K hk ρ a w aR
  simp only [blk,hb] at this;exact this
theorem ax.aeA {c b:Code} {lp:List (Nat×bC)} {ys:List (Nat×Spec)} {its:List (Nat×cX)} {id:Nat} {sp:bC} (hl:ax P X c lp) (hn':dy (ids c)=true) (hb:bE id c=some b)
  (h:qy P ⟨tt,specs,X,lp,ys,its⟩ b-> ∀aq W ro n,ru aq W X->((ro=none/\ aq.bd= [])\/ lz b=true)-> ∀st K,sp st K-> ∀ρ a w,D6 aq W st ρ a w->b.wpIn (fw ro) n P (Post aq W (jU id (jE K))) a w):ax P X c ((id,sp)::lp):=by
 have hn:=dQ hn'
 intro aq W ro n hX id' sp' hs hro st K hk ρ a w aR
 unfold aI at hs
 split at hs
 ·rename_i e;subst e;cases hs
  obtain ⟨h1,h2⟩:=gJ hb hn
  have:qy P ⟨tt,specs,X,lp,ys,its⟩ b:=iI b h1 fun j hj sp hs d hd aq W ro n hX hro st K hk ρ a w aR=>by
   have:=hl aq W ro n hX j sp hs (by simpa only [blk,h2 j hj,hd] using hro) st K hk ρ a w aR
   simp only [blk,h2 j hj,hd] at this;exact this
  simp only [blk,hb] at hro ⊢
  exact wpIn_mono (th (h this aq W ro n hX hro st K hk ρ a w aR)) fun e a w h=>Wu h
 ·exact hl aq W ro n hX id' sp' hs hro st K hk ρ a w aR
theorem ax.cons (hT:aK P tt) {lp:List (Nat×bC)} {ys:List (Nat×Spec)} {its:List (Nat×cX)} (hC:fq P ⟨tt,specs,X,lp,ys,its⟩) (hm:P.follows .mixedOrders=true) {c b:Code} {id:Nat} {sp:bC} (hl:ax P X c lp) (hn':dy (ids c)=true) (hb:bE id c=some b)
  (h: ∀st K,sp st K->cJ ⟨tt,specs,X,lp,ys,its⟩ b st (jU id (jE K))):ax P X c ((id,sp)::lp):=
 hl.aeA (tt:=tt) (specs:=specs) (ys:=ys) (its:=its) hn' hb fun mL aq W ro n hX hro st K hk ρ a w aR=>oT (ctx:=⟨tt,specs,X,lp,ys,its⟩) hT hC hm b mL aq W ro n hX hro st _ (h st K hk) ρ a w aR
def PE (tt:List (Nat×TI)) (specs:List (Nat×Spec)) (X:Addr->Value->Prop) (lp:List (Nat×bC)) (ys:List (Nat×Spec)) (its:List (Nat×cX)) (id:Nat) (c:Code) (N:Nat):bC:=fun st K=>BW ⟨tt,specs,X,lp,ys,its⟩ c N st (jU id K)
theorem ax.BW (hT:aK P tt) {lp:List (Nat×bC)} {ys:List (Nat×Spec)} {its:List (Nat×cX)} (hC:fq P ⟨tt,specs,X,lp,ys,its⟩) (hm:P.follows .mixedOrders=true) {c b:Code} {id:Nat} (N:Nat) (hl:ax P X c lp) (hn':dy (ids c)=true) (hb:bE id c=some (.loop b)):
  ax P X c ((id,PE tt specs X lp ys its id b N)::lp):=by
 have hn:=dQ hn'
 intro aq W ro n hX id' sp' hs hro st K hk ρ a w aR
 unfold aI at hs
 split at hs
 ·rename_i e;subst e;cases hs
  obtain ⟨h1,h2⟩:=gJ hb hn
  have mL:qy P ⟨tt,specs,X,lp,ys,its⟩ (.loop b):=iI (.loop b) h1 fun j hj sp hs d hd aq W ro n hX hro st K hk ρ a w aR=>by
   have:=hl aq W ro n hX j sp hs (by simpa only [blk,h2 j hj,hd] using hro) st K hk ρ a w aR
   simp only [blk,h2 j hj,hd] at this;exact this
  simp only [blk,hb] at hro ⊢
  exact th (WW (ctx:=⟨tt,specs,X,lp,ys,its⟩) hT hC hm b hX hro mL N st _ hk ρ a w aR)
 ·exact hl aq W ro n hX id' sp' hs hro st K hk ρ a w aR
def uw (tt:List (Nat×TI)) (specs:List (Nat×Spec)) (X:Addr->Value->Prop) (lp:List (Nat×Spec)->List (Nat×bC)) (its:List (Nat×cX)) (fn:Func):cX:=fun ys args heap R=>HB ⟨tt,specs,X,lp ys,ys,its⟩ fn args heap R
theorem fQ.fn (hT:aK P tt) (hS:af P specs) (hm:P.follows .mixedOrders=true) {f:FuncId} {fn:Func} (hf:P.funcs[f]? =some fn) (hn:dy (ids (aG fn))=true) {lp:List (Nat×Spec)->List (Nat×bC)} {its:List (Nat×cX)} (hits:av P X its)
  (mL: ∀ys,nW P ys->ax P X (aG fn) (lp ys)):fQ P X f (uw tt specs X lp its fn):=by
 intro ys args heap R h hy aq W ρ w hX hargs hst
 refine iS (ctx:=⟨tt,specs,X,lp ys,ys,its⟩) hT ⟨hS,hy,hits⟩ hX hm hf (fun c hc=> ?_) h hargs hst
 have:aG fn=c:=by unfold aG;rw [hc]
 subst this
 exact vZ (dQ hn) (mL ys hy)
end
section
variable {P:Program}
theorem aK.nil:aK P []:=fun _ _ h=>by cases h
theorem aK.cons {t:TypeId} {i:TI} {l:List (Nat×TI)} (hu:P.underlying t=some i.desc) (hs:0<i.size) (hi:(P.info? t).map (fun q=>(q.size,q.bytes,q.zero))=some (i.size,i.bytes,some i.zero))
  (ha:(!dc i.desc||(!P.stoodInHeld t&& !P.eqGuardType P.depth t))=true) (hl:aK P l):aK P ((t,i)::l):=by
 intro u j h
 unfold aI at h
 split at h
 ·rename_i e;subst e;cases h
  refine ⟨hu,hs,?_⟩
  cases hq:P.info? t with
  |none=>rw [hq] at hi;cases hi
  |some q=>
   rw [hq] at hi
   simp only [Option.map_some,Option.some.injEq,Prod.mk.injEq] at hi
   refine ⟨q,rfl,hi.1,hi.2.1,hi.2.2,fun pZ=> ?_⟩
   rw [pZ] at ha
   simpa using ha
 ·exact hl u j h
theorem cr.of {f:FuncId} {fn:Func} (hf:P.funcs[f]? =some fn) (h1:(fn.name== "runtime.NumGoroutine")=false) (h2:fn.body.isNone=false):cr P f:=by
 intro args w
 simp only [callFunc,Sem.run_bind,run_program,Result.andThen_ok,hf,h1,h2,Bool.false_eq_true,if_false,Sem.run_pure]
theorem av.cons {X:Addr->Value->Prop} {f:FuncId} {Rh:cX} {l:List (Nat×cX)} (he:cr P f) (h:fQ P X f Rh) (hl:av P X l):av P X ((f,Rh)::l):=by
 intro g q hg
 unfold aI at hg
 split at hg
 ·rename_i e;subst e;cases hg;exact ⟨he,h⟩
 ·exact hl g q hg
end
instance alM {A B:Type} [Inhabited A]:Inhabited (A⊕B):=⟨.inl default⟩
inductive Term {S R:Type} (step:S->S⊕R) (pre:S->Prop):S->Prop
 |mk (s:S) (hp:pre s) (h: ∀s',step s= .inl s'->Term step pre s'):Term step pre s
def c6 {S R:Type} (step:S->S⊕R):Nat->S->Option R
 |0,_=>none
 |n+1,s=>match step s with
  | .inl s'=>c6 step n s'
  | .inr r=>some r
theorem Ft {S R:Type} {step:S->S⊕R} : ∀(n:Nat) (s:S) (r:R),c6 step n s=some r->c6 step (n+1) s=some r
 |0,_,_,h=>by cases h
 |n+1,s,r,h=>by
  simp only [c6] at h
  show (match step s with| .inl s'=>c6 step (n+1) s'| .inr r=>some r)=some r
  cases hs:step s with
  |inl s'=>rw [hs] at h;exact Ft n s' r h
  |inr r'=>rw [hs] at h;exact h
theorem NS {S R:Type} {step:S->S⊕R} {n m:Nat} {s:S} {r:R} (h:c6 step n s=some r) (hm:n<=m):c6 step m s=some r:=by
  induction m with
  |zero=>   have:n=0:=by omega
            subst this;exact h
  | succ m ih=>
    rcases Nat.lt_or_ge m n with h1|h1
    · have:n=m+1:=by omega
      subst this;exact h
    · exact Ft m s r (ih h1)
open Classical in
def run {S R:Type} [Inhabited R] (step:S->S⊕R) (s:S):R:=if h: ∃r n,c6 step n s=some r then Classical.choose h else default
theorem BO {S R:Type} [Inhabited R] {step:S->S⊕R} {n:Nat} {s:S} {r:R} (h:c6 step n s=some r):run step s=r:=by
 have hx: ∃r n,c6 step n s=some r:=⟨r,n,h⟩
 unfold run
 rw [dif_pos hx]
 obtain ⟨m,hm⟩:=Classical.choose_spec hx
 have h1:=NS h (Nat.le_max_left n m)
 have h2:=NS hm (Nat.le_max_right n m)
 rw [h1] at h2
 exact (Option.some.inj h2).symm
theorem run_eq {S R:Type} [Inhabited R] (step:S->S⊕R) (s:S):run step s=match step s with| .inl s'=>run step s'| .inr r=>r:=by
 cases hs:step s with
 |inr r=>exact BO (n:=1) (by simp only [c6,hs])
 |inl s'=>
  dsimp only
  by_cases h: ∃r n,c6 step n s'=some r
  ·obtain ⟨r,n,h⟩:=h
   rw [BO h]
   exact BO (n:=n+1) (by simp only [c6,hs,h])
  ·have h2: ¬ ∃r n,c6 step n s=some r:=by
    rintro ⟨r,n,hn⟩
    cases n with
    |zero=>cases hn
    |succ n=>simp only [c6,hs] at hn;exact h ⟨r,n,hn⟩
   unfold run
   rw [dif_neg h,dif_neg h2]
theorem Term.iter {S R:Type} {step:S->S⊕R} {pre:S->Prop} {s:S} (h:Term step pre s): ∃r n,c6 step n s=some r:=by
 induction h with
 |mk s hp h ih=>
  cases hs:step s with
  |inr r=>exact ⟨r,1,by simp only [c6,hs]⟩
  |inl s'=>
   obtain ⟨r,n,hn⟩:=ih s' hs
   exact ⟨r,n+1,by simp only [c6,hs,hn]⟩
theorem Term.of {S R:Type} {step:S->S⊕R} {pre:S->Prop} (J:S->Prop) (μ:S->Nat) (h: ∀s,J s->pre s/\ ∀s',step s= .inl s'->J s'/\ μ s'<μ s): ∀s,J s->Term step pre s:=by
 intro s hs
 obtain ⟨n,hn⟩: ∃n,n=μ s:=⟨_,rfl⟩
 induction n using Nat.strongRecOn generalizing s with
 |_ n ih=>
  obtain ⟨h1,h2⟩:=h s hs
  exact ⟨s,h1,fun s' hs'=>by
   obtain ⟨h3,h4⟩:=h2 s' hs'
   exact ih (μ s') (by omega) s' h3 rfl⟩
def cS {A B:Type} (r:A⊕B) (p:A->Prop) (q:B->Prop):Prop:=match r with
 | .inl a=>p a
 | .inr b=>q b
def Rq {S R:Type} [Inhabited R] (tm:S->AS) (step:S->S⊕R) (pre:S->Prop) (out:R->(Exit->AS->Prop)->Prop):bC:=fun st K=> ∃s0,rq st (tm s0)/\ Term step pre s0/\ ∀r,r=run step s0->out r K
def KB (id:Nat) (K:Exit->AS->Prop) (KN:AS->Prop) (e:Exit) (st:AS):Prop:=match e with
 | .normal=> ∃st',rq st st'/\ KN st'
 |e=>jU id (jE K) e st
def Uo {S R:Type} (tm:S->AS) (out:R->(Exit->AS->Prop)->Prop) (K:Exit->AS->Prop) (KN:AS->Prop) (v:S⊕R):Prop:=match v with
 | .inl s=>KN (tm s)
 | .inr r=>out r K
theorem V1 {S R:Type} [Inhabited R] {ctx:Ctx} {c:Code} {id:Nat} {tm:S->AS} {step:S->S⊕R} {pre:S->Prop} {out:R->(Exit->AS->Prop)->Prop}
  (hr: ∀s K KN,pre s->Uo tm out K KN (step s)->cJ ctx c (tm s) (KB id K KN)) (st:AS) (K:Exit->AS->Prop) (h:Rq tm step pre out st K):cJ ctx (.loop c) st (jU id (jE K)):=by
 obtain ⟨s0,hw,ht,hk⟩:=h
 obtain ⟨r,n,hn⟩:=ht.iter
 have HV:=BO hn
 refine ⟨fun m st=> ∃s,st=tm s/\ Term step pre s/\ c6 step m s=some r,⟨n,_,hw,s0,rfl,ht,hn⟩,?_⟩
 rintro m lC ⟨s,rfl,hts,hm⟩
 have e:(fun (e:Exit) (qx:AS)=>match e with| .normal=> ∃m' st',m'<m/\ rq qx st'/\ ∃s,st'=tm s/\ Term step pre s/\ c6 step m' s=some r|e=>jU id (jE K) e qx)=
   KB id K fun st'=> ∃m',m'<m/\ ∃s,st'=tm s/\ Term step pre s/\ c6 step m' s=some r:=by
  funext e qx
  cases e<;>try rfl
  refine propext ⟨?_,?_⟩
  ·rintro ⟨m',st',h1,h2,h3⟩;exact ⟨st',h2,m',h1,h3⟩
  ·rintro ⟨st',h2,m',h1,h3⟩;exact ⟨m',st',h1,h2,h3⟩
 refine e▸hr s K _ ?_ ?_
 ·cases hts with|mk _ hp _=>exact hp
 ·match m,hm with
  |0,hm=>cases hm
  |m+1,hm=>
   simp only [c6] at hm
   cases hs:step s with
   |inl s'=>
    rw [hs] at hm
    cases hts with|mk _ _ h=>exact ⟨m,by omega,s',rfl,h s' hs,hm⟩
   |inr r'=>
    rw [hs] at hm
    have:r'=run step s0:=by rw [HV];exact Option.some.inj hm
    exact hk r' this
def cy:Addr->Value->Prop:=fun _ _=>False
theorem cy.ok (aq:e8) (W:World):ru aq W cy:=fun _ _ h=>h.elim
theorem rI (rk:Nat) {ρ ρ':Env} {d:Nat} : ∀(cs:List cm) (nm:Nat),(∀i,i<(ct rk nm cs).2.length->ρ' (nm+i+d)=ρ (nm+i))->(ct rk (nm+d) cs).1.map (Cell.ae ρ')=(ct rk nm cs).1.map (Cell.ae ρ)/\ (ct rk (nm+d) cs).2=(ct rk nm cs).2
 | [],nm,_=>⟨rfl,rfl⟩
 | .flat v::r,nm,h=>by
  obtain ⟨h1,h2⟩:=rI rk (d:=d) r nm h
  simp only [ct,List.map_cons,h1,h2];exact ⟨rfl,trivial⟩
 | .sl u l::r,nm,h=>by
  have h0:=h 0 (by simp [ct])
  obtain ⟨h1,h2⟩:=rI rk (ρ:=ρ) (ρ':=ρ') (d:=d) r (nm+1) fun i hi=>by
   have:=h (i+1) (by simpa [ct] using hi)
   rwa [show nm+(i+1)+d=nm+1+i+d by omega,show nm+(i+1)=nm+1+i by omega] at this
  rw [Nat.add_zero] at h0
  rw [show nm+1+d=nm+d+1 by omega] at h1 h2
  simp only [ct,List.map_cons,h1,h2,Cell.ae,h0];exact ⟨trivial,trivial⟩
theorem yV (rk:Nat): ∀(cs:List cm) (nm:Nat),∀c∈(ct rk nm cs).1,c.ok fun m=>nm<=m/\ m<nm+(ct rk nm cs).2.length
 | [],nm,c,h=>by simp [ct] at h
 | .flat v::r,nm,c,h=>by
  simp only [ct,List.mem_cons] at h
  rcases h with rfl|h
  ·trivial
  ·exact yV rk r nm c h
 | .sl u l::r,nm,c,h=>by
  simp only [ct,List.mem_cons] at h
  rcases h with rfl|h
  ·simp only [ct,List.length_cons,Cell.ok];omega
  ·exact Cell.aV (fun m hm=>by simp only [ct,List.length_cons];omega) c (yV rk r (nm+1) c h)
theorem vH (rk:Nat): ∀(cs:List cm) (nm:Nat),∀o∈(ct rk nm cs).2,∃u,∃l:List u.T,o= .row u l rk
 | [],nm,o,h=>by simp [ct] at h
 | .flat v::r,nm,o,h=>vH rk r nm o h
 | .sl u l::r,nm,o,h=>by
  simp only [ct,List.mem_cons] at h
  rcases h with rfl|h
  ·exact ⟨u,l,rfl⟩
  ·exact vH rk r (nm+1) o h
theorem IE {a:Bool} {cs cs':List Cell} {ρ ρ':Env} (h:cs'.map (Cell.ae ρ')=cs.map (Cell.ae ρ)):(s7 a cs').ae ρ'=(s7 a cs).ae ρ:=by
 have hl:cs'.length=cs.length:=by simpa using congrArg List.length h
 cases a with
 |true=>simp only [s7,A0.ae,h]
 |false=>
  match cs,cs',hl with
  | [],[],_=>rfl
  | [c],[c'],_=>simp only [List.map_cons,List.map_nil,List.cons.injEq,and_true] at h;simp only [s7,A0.ae,h]
  |_::_::_,_::_::_,_=>simp only [s7,A0.ae,h]
theorem SU {a:Bool} {cs:List Cell} {Kn:Nat->Prop} (h: ∀c∈cs,c.ok Kn):(s7 a cs).ok Kn:=by
 cases a with
 |true=>exact h
 |false=>
  match cs,h with
  | [],h=>exact h
  | [c],h=>exact h c (by simp)
  |_::_::_,h=>exact h
def lF.res:lF->Bool
 | .ptr _=>false
 | .iT _ _=>false
 | .mv _ _ _=>false
 | .pair a b=>a.res&&b.res
 |_=>true
theorem iA (rk:Nat) {ρ ρ':Env} {d:Nat} : ∀(p:lF) (x:p.ty.T) (nm:Nat),p.res=true->(∀i,i<(bf rk nm p x).2.length->ρ' (nm+i+d)=ρ (nm+i))->(bf rk (nm+d) p x).1.map (A0.ae ρ')=(bf rk nm p x).1.map (A0.ae ρ)/\ (bf rk (nm+d) p x).2=(bf rk nm p x).2
 | .one t,x,nm,_,h=>by
  obtain ⟨h1,h2⟩:=rI rk (ρ:=ρ) (ρ':=ρ') (d:=d) (t.aU x) nm h
  simp only [bf,List.map_cons,List.map_nil,IE h1,h2];exact ⟨trivial,trivial⟩
 | .agg t,x,nm,_,h=>by
  obtain ⟨h1,h2⟩:=rI rk (ρ:=ρ) (ρ':=ρ') (d:=d) (t.aU x) nm h
  simp only [bf,List.map_cons,List.map_nil,IE h1,h2];exact ⟨trivial,trivial⟩
 | .ptr t,x,nm,hr,h=>by cases hr
 | .iT f p,x,nm,hr,h=>by cases hr
 | .mv f agg t,x,nm,hr,h=>by cases hr
 | .pair a b,x,nm,hr,h=>by
  simp only [lF.res,Bool.and_eq_true] at hr
  obtain ⟨h1,h2⟩:=iA rk (ρ:=ρ) (ρ':=ρ') (d:=d) a x.1 nm hr.1 fun i hi=>h i (by simp only [bf,List.length_append];omega)
  obtain ⟨h3,h4⟩:=iA rk (ρ:=ρ) (ρ':=ρ') (d:=d) b x.2 (nm+(bf rk nm a x.1).2.length) hr.2 fun i hi=>by
   have:=h ((bf rk nm a x.1).2.length+i) (by simp only [bf,List.length_append];omega)
   rwa [<- Nat.add_assoc nm] at this
  rw [show nm+(bf rk nm a x.1).2.length+d=nm+d+(bf rk nm a x.1).2.length by omega] at h3 h4
  simp only [bf,List.map_append,h1,h2,h3,h4];exact ⟨trivial,trivial⟩
 | .none,x,nm,_,h=>⟨rfl,rfl⟩
theorem iU (rk:Nat): ∀(p:lF) (x:p.ty.T) (nm:Nat),∀c∈(bf rk nm p x).1,c.ok fun m=>nm<=m/\ m<nm+(bf rk nm p x).2.length
 | .one t,x,nm,c,h=>by
  simp only [bf,List.mem_singleton] at h
  subst h;exact SU (yV rk _ nm)
 | .agg t,x,nm,c,h=>by
  simp only [bf,List.mem_singleton] at h
  subst h;exact SU (yV rk _ nm)
 | .ptr t,x,nm,c,h=>by
  simp only [bf,List.mem_singleton] at h
  subst h;simp only [bf,List.length_singleton,A0.ok,Cell.ok];omega
 | .mv f agg t,x,nm,c,h=>by
  simp only [bf,List.mem_singleton] at h
  subst h
  intro q hq
  obtain ⟨a,ha,rfl⟩:=List.mem_map.1 hq
  have:=yV rk (t.aU x) nm a ha
  unfold aao
  split
  ·trivial
  ·exact this
  ·trivial
 | .iT f p,x,nm,c,h=>by
  simp only [bf,List.mem_singleton] at h
  subst h
  intro q hq
  obtain ⟨a,ha,rfl⟩:=List.mem_map.1 hq
  have:=iU rk p x nm a ha
  unfold Ox
  split
  ·exact this
  ·trivial
 | .pair a b,x,nm,c,h=>by
  simp only [bf,List.mem_append] at h
  rcases h with h|h
  ·exact A0.aV (fun m hm=>by simp only [bf,List.length_append];omega) c (iU rk a x.1 nm c h)
  ·exact A0.aV (fun m hm=>by simp only [bf,List.length_append];omega) c (iU rk b x.2 _ c h)
 | .none,x,nm,c,h=>by simp [bf] at h
theorem qE (rk:Nat): ∀(p:lF) (x:p.ty.T) (nm:Nat),p.res=true-> ∀o∈(bf rk nm p x).2,∃u,∃l:List u.T,o= .row u l rk
 | .one t,x,nm,_,o,h=>vH rk _ nm o h
 | .agg t,x,nm,_,o,h=>vH rk _ nm o h
 | .ptr t,x,nm,hr,o,h=>by cases hr
 | .iT f p,x,nm,hr,o,h=>by cases hr
 | .mv f agg t,x,nm,hr,o,h=>by cases hr
 | .pair a b,x,nm,hr,o,h=>by
  simp only [lF.res,Bool.and_eq_true] at hr
  simp only [bf,List.mem_append] at h
  rcases h with h|h
  ·exact qE rk a x.1 nm hr.1 o h
  ·exact qE rk b x.2 _ hr.2 o h
 | .none,x,nm,_,o,h=>by simp [bf] at h
theorem wz {l l':List A0} {ρ ρ':Env} (h:l'.map (A0.ae ρ')=l.map (A0.ae ρ)):(jo l').ae ρ'=(jo l).ae ρ:=by
 have hl:l'.length=l.length:=by simpa using congrArg List.length h
 match l,l',hl with
 | [],[],_=>rfl
 | [c],[c'],_=>simp only [List.map_cons,List.map_nil,List.cons.injEq,and_true] at h;simp only [jo,AV.ae,h]
 |_::_::_,_::_::_,_=>simp only [jo,AV.ae,h]
theorem DR {l:List A0} {Kn:Nat->Prop} (h: ∀c∈l,c.ok Kn):(jo l).ok Kn:=by
 match l,h with
 | [],h=>exact h
 | [c],h=>exact h c (by simp)
 |_::_::_,h=>exact h
theorem St.grow {aq:e8} {W:World} {ρ aX:Env} {Kn:Nat->Prop} {Γ:HP} {w w':World} {nm:Nat} {os:List aF} {v:AV} {tc:List Nat} (h:St aq W ρ Kn Γ w) (hn: ∀i,i<os.length-> ¬Kn (nm+i)) (hrow: ∀o∈os,∃u,∃l:List u.T,o= .row u l 2) (h1:St yB w aX (· <os.length) (ai os) w'):
  ∃ρ',(∀m,Kn m->ρ' m=ρ m)/\ (∀n,n<os.length->ρ' (n+nm)=aX n)/\ St aq W ρ' (mH Kn nm {val:=v,fresh:=os,aD:=tc}) (bU {val:=v,fresh:=os,aD:=tc} nm Γ) w':=by
 let ρ':Env:=fun m=>if nm<=m/\ m<nm+os.length then aX (m- nm) else ρ m
 have hold: ∀m,Kn m->ρ' m=ρ m:=fun m hm=>by
  simp only [ρ']
  rw [if_neg]
  rintro ⟨h2,h3⟩
  exact hn (m- nm) (by omega) (by rw [show nm+(m- nm)=m by omega];exact hm)
 have hnew: ∀n,n<os.length->ρ' (n+nm)=aX n:=fun n hn=>by
  simp only [ρ']
  rw [if_pos (by omega),show n+nm- nm=n by omega]
 have bQ: ∀m o,bU {val:=v,fresh:=os,aD:=tc} nm Γ m=some o->(∃n,m=n+nm/\ n<os.length/\ ai os n=some o/\ ∃u,∃l:List u.T,o= .row u l 2)\/ (Γ m=some o/\ Kn m):=by
  intro m o ho
  simp only [bU,bZ] at ho
  split at ho
  ·rename_i hc
   have hlt:m- nm<os.length:=by omega
   refine .inl ⟨m- nm,by omega,hlt,by rw [bu];exact ho,?_⟩
   rw [List.getElem?_eq_getElem hlt] at ho
   obtain ⟨u,l,e⟩:=hrow _ (List.getElem_mem hlt)
   rw [e] at ho
   simp only [live,Option.some.injEq] at ho
   exact ⟨u,l,ho.symm⟩
  ·exact .inr ⟨ho,(h.kn m o ho).1⟩
 have hf1: ∀b,b<w.heap.size->w'.heap[b]? =w.heap[b]? :=fun b hb=>h1.fr.block b hb id
 have hnb: ∀n b,n<os.length->(ai os n).isSome=true->(aX n).has b->w.heap.size<=b:=fun n b _ hs hb=>by
  rcases h1.jX n b hs hb with h2|h2
  ·exact h2
  ·exact h2.elim
 have mG: ∀m o b,Γ m=some o->(ρ m).has b->b<w.heap.size:=fun m o b ho hb=>h.lt m b (by rw [ho];rfl) hb
 have Vs: ∀b,LOb ρ' (bU {val:=v,fresh:=os,aD:=tc} nm Γ) b->(w.heap.size<=b/\ LOb aX (ai os) b)\/ (b<w.heap.size/\ LOb ρ Γ b):=by
  rintro b ⟨m,h2,h3⟩
  obtain ⟨o,ho⟩:=Option.isSome_iff_exists.1 h2
  rcases bQ m o ho with ⟨n,rfl,kQ,hp,_⟩|⟨hg,hk⟩
  ·rw [hnew n kQ] at h3
   exact .inl ⟨hnb n b kQ (by rw [hp];rfl) h3,n,by rw [hp];rfl,h3⟩
  ·rw [hold m hk] at h3
   exact .inr ⟨mG m o b hg h3,m,by rw [hg];rfl,h3⟩
 have vU: ∀b,HI (bU {val:=v,fresh:=os,aD:=tc} nm Γ) b->HI Γ b:=fun b ⟨m,S,h2,h3⟩=>by
  rcases bQ m _ h2 with ⟨n,_,_,_,u,l,e⟩|⟨hg,hk⟩
  ·cases e
  ·exact ⟨m,S,hg,h3⟩
 have hLO: ∀b,LO ρ' (bU {val:=v,fresh:=os,aD:=tc} nm Γ) b->(w.heap.size<=b/\ LO aX (ai os) b)\/ (b<w.heap.size/\ LO ρ Γ b):=by
  rintro b (h2|h2)
  ·exact (Vs b h2).imp (fun h=>⟨h.1,.inl h.2⟩) (fun h=>⟨h.1,.inl h.2⟩)
  ·exact .inr ⟨(h.oK b (vU b h2)).1,.inr (vU b h2)⟩
 have hsz:=h.fr.size
 have VC:=h1.fr.size
 have hfz: ∀b,dM ρ Γ w b->dM ρ' (bU {val:=v,fresh:=os,aD:=tc} nm Γ) w' b/\ w'.heap[b]? =w.heap[b]? :=fun b hb=>by
  have hlt:=hb.1.lt
  refine ⟨⟨hb.1.same (hf1 b hlt),fun hl=> ?_⟩,hf1 b hlt⟩
  rcases hLO b hl with ⟨h2,_⟩|⟨_,h2⟩
  ·omega
  ·exact hb.2 h2
 have QM: ∀b,dM aX (ai os) w' b->qU yB w b->dM ρ' (bU {val:=v,fresh:=os,aD:=tc} nm Γ) w' b/\ qU aq W b:=fun b hb hp=>by
  have hge:w.heap.size<=b:=by
   rcases hp with h2|h2|h2
   ·exact h2
   ·exact h2.elim
   ·exact h2.elim
  refine ⟨⟨hb.1,fun hl=> ?_⟩,.inl (by omega)⟩
  rcases hLO b hl with ⟨_,h2⟩|⟨h2,_⟩
  ·exact hb.2 h2
  ·omega
 have af5: ∀m:Nat,m<os.length->mH Kn nm {val:=v,fresh:=os,aD:=tc} (m+nm):=fun m hm=> .inr (by simp only [];omega)
 refine ⟨ρ',hold,hnew,⟨?_,fun m o ho=> ?_,fun m o ho=> ?_,fun m m' b hm hm' fK dI=> ?_,fun m b hm hb=> ?_,fun b hh=> ?_,fun m o ho=> ?_⟩⟩
 rotate_right
 ·rcases bQ m o ho with ⟨n,rfl,kQ,hp,_⟩|⟨hg,hk⟩
  ·rw [hnew n kQ];exact h1.sR n o hp
  ·rw [hold m hk];exact h.sR m o hg
 rotate_right
 ·obtain ⟨h2,h3⟩:=h.oK b (vU b hh)
  refine ⟨by omega,fun h4=> ?_⟩
  rcases Vs b h4 with ⟨h5,_⟩|⟨_,h5⟩
  ·omega
  ·exact h3 h5
 ·exact h.fr.trans h1.fr.Tx
 ·rcases bQ m o ho with ⟨n,rfl,kQ,hp,u,l,rfl⟩|⟨hg,hk⟩
  ·obtain ⟨g1,g2,g3,sub,g4,g5,g6,g7⟩:=h1.at_ n _ hp
   rw [br,hnew n kQ]
   exact ⟨g1,g2,g3,sub,fun i x hi=>by
    obtain ⟨a,e1,e2,_⟩:=g4 i x hi
    exact ⟨a,e1,e2,fun h=>by cases h⟩,fun q u' l' hq=>(g5 q u' l' hq).weak fun b hb=>by
     obtain ⟨e1,e2⟩:=QM b hb.1 (hb.2 rfl).1
     exact ⟨e1,fun _=>⟨e2,(hb.2 rfl).2⟩⟩,g6,g7⟩
  ·exact cq (Kn:=Kn) (h.at_ m o hg) hold hk (h.kn m o hg).2 hfz (fun _ _ h=>h) fun b hb=>hf1 b (mG m o b hg hb)
 ·rcases bQ m o ho with ⟨n,rfl,kQ,hp,u,l,rfl⟩|⟨hg,hk⟩
  ·exact ⟨af5 n kQ,trivial⟩
  ·exact ⟨.inl hk,aF.aV (fun _=> .inl) o (h.kn m o hg).2⟩
 ·obtain ⟨o,ho⟩:=Option.isSome_iff_exists.1 hm
  obtain ⟨o',AZ⟩:=Option.isSome_iff_exists.1 hm'
  rcases bQ m o ho with ⟨n,rfl,kQ,hp,_⟩|⟨hg,hk⟩
  ·rw [hnew n kQ] at fK
   rcases bQ m' o' AZ with ⟨n',rfl,ac4,eW,_⟩|⟨hg',hk'⟩
   ·rw [hnew n' ac4] at dI
    rw [h1.dK n n' b (by rw [hp];rfl) (by rw [eW];rfl) fK dI]
   ·rw [hold m' hk'] at dI
    have:=hnb n b kQ (by rw [hp];rfl) fK
    have:=mG m' o' b hg' dI
    omega
  ·rw [hold m hk] at fK
   rcases bQ m' o' AZ with ⟨n',rfl,ac4,eW,_⟩|⟨hg',hk'⟩
   ·rw [hnew n' ac4] at dI
    have:=hnb n' b ac4 (by rw [eW];rfl) dI
    have:=mG m o b hg fK
    omega
   ·rw [hold m' hk'] at dI
    exact h.dK m m' b (by rw [hg];rfl) (by rw [hg'];rfl) fK dI
 ·obtain ⟨o,ho⟩:=Option.isSome_iff_exists.1 hm
  rcases bQ m o ho with ⟨n,rfl,kQ,hp,_⟩|⟨hg,hk⟩
  ·rw [hnew n kQ] at hb
   have:=hnb n b kQ (by rw [hp];rfl) hb
   exact .inl (by omega)
  ·rw [hold m hk] at hb
   exact h.jX m b (by rw [hg];rfl) hb
section
variable {P:Program} {tt:List (Nat×TI)} {specs:List (Nat×Spec)}
theorem ah.fnT (hT:aK P tt) (hS:af P specs) (hm:P.follows .mixedOrders=true) {f:FuncId} {fn:Func} (hf:P.funcs[f]? =some fn) (hn:dy (ids (aG fn))=true) {s:cf} (hres:s.r.res=true)
  (h: ∀x,s.pre x-> ∃lp its,av P cy its/\ ax P cy (aG fn) lp/\ HB ⟨tt,specs,cy,lp,[],its⟩ fn (cY s.p x) (dz s.p x) (qk s.r (· =s.f x))):ah P f (ak s):=by
 intro X args hp nm k hs
 unfold ak at hs
 split at hs
 rotate_left
 ·exact hs.elim
 rename_i x tc b hd
 obtain ⟨rfl,hpre,hk⟩:=bk hs
 have hk:=hk _ rfl
 obtain ⟨as,e,hargs⟩:=nK s.p _ _ _ _ hd
 rw [List.append_nil] at e
 subst e
 refine ⟨_,⟨fun p eW=>absurd eW (by simp),?_⟩,hk⟩
 intro aq W ρ Kn Γ w _ _ ht hfr hst
 obtain ⟨xs,hg,hc⟩:=hargs aq W ρ Kn Γ w ht hst 0
 have hb:=St.begin hg
 obtain ⟨lp,its,hi,hl,hfn⟩:=h x hpre
 have hcs:=hc (fun n=>xs.getD n {}) fun i y hy=>by simp [hy]
 have key:=iS (ctx:=⟨tt,specs,cy,lp,[],its⟩) hT ⟨hS,nW.nil P,hi⟩ (cy.ok yB w) hm hf (fun c hc=>by
  have:aG fn=c:=by unfold aG;rw [hc]
  subst this
  exact vZ (dQ hn) hl) hfn (fun y hy=>by
   obtain ⟨a,ha,rfl⟩:=List.mem_map.1 hy
   exact A0.aV (fun m hm=>by simpa [dz] using hm.2) a (iU 0 s.p x 0 a ha)) hb
 have ea:(cY s.p x).map (AV.ae fun n=>xs.getD n {})=args.map (AV.ae ρ):=by
  rw [hcs];simp [cY,AV.ae,Function.comp_def]
 rw [ea] at key
 refine key.mono ?_
 rintro e w' ⟨st,aX,v,rfl,hv,hR,m8⟩
 obtain ⟨y,rfl,hw⟩:=JI hR
 have aR:lV yB w [] ⟨[v],st.heap⟩ aX {tmps:= #[v.ae aX],defers:= []} w':=by
  refine ⟨fun t _=> ?_,rfl,rfl,fun t=> ?_,m8⟩
  ·match t with
   |0=>rfl
   |t+1=>rfl
  ·match t with
   |0=>exact hv
   |t+1=>exact sM _
 obtain ⟨jb,fF⟩:=aR.weak hw
 have NG:=qE 2 s.r (s.f x) 0 hres
 have IS:=fun d=>(iA 2 (ρ:=jb) (ρ':=fun m=>jb (m- d)) (d:=d) s.r (s.f x) 0 hres fun i _=>by simp).2
 have hlen:(bf 2 nm s.r (s.f x)).2=(bf 2 0 s.r (s.f x)).2:=by simpa using IS nm
 obtain ⟨ρ',r1,r2,r3⟩:=St.grow (v:=jo (bf 2 nm s.r (s.f x)).1) (tc:=tc) (nm:=nm) hst (fun i hi=>hfr i (by rw [hlen];exact hi)) NG fF.st
 have hsh:=(iA 2 (ρ:=jb) (ρ':=ρ') (d:=nm) s.r (s.f x) 0 hres fun i hi=>by rw [Nat.zero_add];exact r2 i hi).1
 rw [Nat.zero_add] at hsh
 refine ⟨ρ',?_,r1,?_,?_⟩
 ·congr 1
  have h1:=fF.tmps 0 (by
   show jo _≠_
   generalize (bf 2 0 s.r (s.f x)).1=l
   match l with
   | []=>exact fun h=>by cases h
   | [_]=>exact fun h=>by cases h
   |_::_::_=>exact fun h=>by cases h)
  have h2:v.ae aX=(jo (bf 2 0 s.r (s.f x)).1).ae jb:=h1
  rw [h2]
  exact (wz hsh).symm
 ·exact DR fun c hc=>A0.aV (fun m hm=> .inr (by simpa using hm)) c (iU 2 s.r (s.f x) nm c hc)
 ·rw [hlen];exact r3
end
end Go.Ev
