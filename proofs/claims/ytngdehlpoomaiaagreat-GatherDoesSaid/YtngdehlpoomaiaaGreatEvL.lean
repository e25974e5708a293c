/- Functions of typed values, out of 'fnE': blocks, loops. -/
import Derived.Test.YtngdehlpoomaiaaGreatEvK
noncomputable section
set_option linter.unusedSectionVars false
set_option linter.unusedVariables false
set_option linter.unusedSimpArgs false
namespace Go.Ev
open Go.RowKit
abbrev au (n:Int):Int:=IntKind.wrap .i64 n
abbrev ci (n:Int):Cell:= .raw (.int .i64 n)
abbrev vi (n:Int):AV:= .v (.one (.raw (.int .i64 n)))
abbrev vb (b:Bool):AV:= .v (.one (.raw (.bool b)))
abbrev D:AV:= .dead
theorem ax {n:Int} (h1: -9223372036854775808<=n) (h2:n<=9223372036854775807):au n=n:=by rw [au,IntKind.wrap_i64];omega
def cL:Code->Code| .seq a _=>a|c=>c
def cR:Code->Code| .seq _ b=>b|c=>c
def cI:Code->Code| .block _ c=>c| .loop c=>c|c=>c
def aC (fn:Func):Code:=match fn.body with|some c=>c|none=> .skip
def ids:Code->List Nat
 | .seq a b=>ids a++ids b
 | .cond _ a b=>ids a++ids b
 | .loop c=>ids c
 | .block id c=>id::ids c
 | .rangeFunc _ _ a b=>ids a++ids b
 |_=> []
def bD (id:Nat):Code->Option Code
 | .seq a b=>match bD id a with|some c=>some c|none=>bD id b
 | .cond _ a b=>match bD id a with|some c=>some c|none=>bD id b
 | .loop c=>bD id c
 | .block i c=>if i=id then some c else bD id c
 | .rangeFunc _ _ a b=>match bD id a with|some c=>some c|none=>bD id b
 |_=>none
def blk (id:Nat) (c:Code):Code:=match bD id c with|some c=>c|none=> .skip
def cZ:List Nat->Bool
 | []=>true
 |x::r=> !r.contains x&&cZ r
theorem ef: ∀ {l:List Nat},cZ l=true->l.Nodup
 | [],_=>List.nodup_nil
 |x::r,h=>by
  simp only [cZ,Bool.and_eq_true,Bool.not_eq_true',List.contains_eq_mem,decide_eq_false_iff_not] at h
  exact List.nodup_cons.2 ⟨h.1,ef h.2⟩
section
variable {P:Program} {tt:List (Nat×TI)} {specs:List (Nat×Spec)} {X:Addr->Value->Prop}
def aK (P:Program) (X:Addr->Value->Prop) (c:Code) (lp:List (Nat×br)):Prop:=
 ∀av W ro n,uR av W X-> ∀id sp,aL lp id=some sp->((ro=none/\ av.bd= [])\/ mZ (blk id c)=true)-> ∀st K,sp st K-> ∀ρ a w,Ki av W st ρ a w->(Code.block id (blk id c)).wpIn (fw ro) n P (Post av W K) a w
theorem cX: ∀ {c:Code} {id:Nat},id∉ids c->bD id c=none
 | .seq a b,id,h=>by
  simp only [ids,List.mem_append,not_or] at h
  simp only [bD,cX h.1,cX h.2]
 | .cond _ a b,id,h=>by
  simp only [ids,List.mem_append,not_or] at h
  simp only [bD,cX h.1,cX h.2]
 | .rangeFunc _ _ a b,id,h=>by
  simp only [ids,List.mem_append,not_or] at h
  simp only [bD,cX h.1,cX h.2]
 | .loop c,id,h=>by simp only [ids] at h;simp only [bD,cX h]
 | .block i c,id,h=>by
  simp only [ids,List.mem_cons,not_or] at h
  simp only [bD,if_neg (Ne.symm h.1),cX h.2]
 | .skip,_,_=>rfl
 | .region ..,_,_=>rfl
 | .exit _,_,_=>rfl
 | .scope _,_,_=>rfl
 | .label _,_,_=>rfl
 | .goto _,_,_=>rfl
 | .ret,_,_=>rfl
 | .refuse _,_,_=>rfl
theorem jx {lp:List (Nat×br)} {ys:List (Nat×Spec)} {its:List (Nat×cP)} : ∀(c:Code),(ids c).Nodup->
  (∀id∈ids c,∀sp,aL lp id=some sp-> ∀b,bD id c=some b-> ∀av W ro n,uR av W X->((ro=none/\ av.bd= [])\/ mZ b=true)-> ∀st K,sp st K-> ∀ρ a w,Ki av W st ρ a w->(Code.block id b).wpIn (fw ro) n P (Post av W K) a w)->
  tD P ⟨tt,specs,X,lp,ys,its⟩ c
 | .seq a b,hn,h=>by
  simp only [ids,List.nodup_append] at hn
  refine ⟨jx a hn.1 fun id hi sp hs c hc=>h id (by simp [ids,hi]) sp hs c (by simp only [bD,hc]),jx b hn.2.1 fun id hi sp hs c hc=>h id (by simp [ids,hi]) sp hs c ?_⟩
  have:id∉ids a:=fun h1=>hn.2.2 id h1 id hi rfl
  simp only [bD,cX this,hc]
 | .cond _ a b,hn,h=>by
  simp only [ids,List.nodup_append] at hn
  refine ⟨jx a hn.1 fun id hi sp hs c hc=>h id (by simp [ids,hi]) sp hs c (by simp only [bD,hc]),jx b hn.2.1 fun id hi sp hs c hc=>h id (by simp [ids,hi]) sp hs c ?_⟩
  have:id∉ids a:=fun h1=>hn.2.2 id h1 id hi rfl
  simp only [bD,cX this,hc]
 | .rangeFunc _ _ a b,hn,h=>by
  simp only [ids,List.nodup_append] at hn
  refine ⟨jx a hn.1 fun id hi sp hs c hc=>h id (by simp [ids,hi]) sp hs c (by simp only [bD,hc]),jx b hn.2.1 fun id hi sp hs c hc=>h id (by simp [ids,hi]) sp hs c ?_⟩
  have:id∉ids a:=fun h1=>hn.2.2 id h1 id hi rfl
  simp only [bD,cX this,hc]
 | .loop c,hn,h=>jx c hn fun id hi sp hs b hb=>h id hi sp hs b hb
 | .block i c,hn,h=>by
  simp only [ids,List.nodup_cons] at hn
  unfold tD
  split
  ·rename_i hs
   refine jx c hn.2 fun id hi sp hs' b hb=>h id (by simp [ids,hi]) sp hs' b ?_
   have:i≠id:=fun e=>hn.1 (e▸hi)
   simp only [bD,if_neg this,hb]
  ·rename_i sp hs
   exact h i (by simp [ids]) sp hs c (by simp [bD])
 | .skip,_,_=>trivial
 | .region ..,_,_=>trivial
 | .exit _,_,_=>trivial
 | .scope _,_,_=>trivial
 | .label _,_,_=>trivial
 | .goto _,_,_=>trivial
 | .ret,_,_=>trivial
 | .refuse _,_,_=>trivial
theorem aK.nil {c:Code} :aK P X c []:=fun _ _ _ _ _ _ _ h=>by cases h
theorem iO: ∀ {c b:Code} {id:Nat},bD id c=some b->(ids c).Nodup->(ids b).Nodup/\ ∀j∈ids b,bD j c=bD j b
 | .seq a b,d,id,h,hn=>by
  simp only [ids,List.nodup_append] at hn
  simp only [bD] at h
  split at h
  ·rename_i hc
   cases h
   obtain ⟨h1,h2⟩:=iO hc hn.1
   refine ⟨h1,fun j hj=> ?_⟩
   have:=h2 j hj
   simp only [bD]
   rw [this]
   cases hb:bD j d with
   |some _=>rfl
   |none=>exact absurd hb (fW hj)
  ·rename_i hc
   obtain ⟨h1,h2⟩:=iO h hn.2.1
   refine ⟨h1,fun j hj=> ?_⟩
   have hjb:j∈ids b:=eY h j hj
   have:j∉ids a:=fun h1=>hn.2.2 j h1 j hjb rfl
   simp only [bD,cX this,h2 j hj]
 | .cond _ a b,d,id,h,hn=>by
  simp only [ids,List.nodup_append] at hn
  simp only [bD] at h
  split at h
  ·rename_i hc
   cases h
   obtain ⟨h1,h2⟩:=iO hc hn.1
   refine ⟨h1,fun j hj=> ?_⟩
   have:=h2 j hj
   simp only [bD]
   rw [this]
   cases hb:bD j d with
   |some _=>rfl
   |none=>exact absurd hb (fW hj)
  ·rename_i hc
   obtain ⟨h1,h2⟩:=iO h hn.2.1
   refine ⟨h1,fun j hj=> ?_⟩
   have hjb:j∈ids b:=eY h j hj
   have:j∉ids a:=fun h1=>hn.2.2 j h1 j hjb rfl
   simp only [bD,cX this,h2 j hj]
 | .rangeFunc _ _ a b,d,id,h,hn=>by
  simp only [ids,List.nodup_append] at hn
  simp only [bD] at h
  split at h
  ·rename_i hc
   cases h
   obtain ⟨h1,h2⟩:=iO hc hn.1
   refine ⟨h1,fun j hj=> ?_⟩
   have:=h2 j hj
   simp only [bD]
   rw [this]
   cases hb:bD j d with
   |some _=>rfl
   |none=>exact absurd hb (fW hj)
  ·rename_i hc
   obtain ⟨h1,h2⟩:=iO h hn.2.1
   refine ⟨h1,fun j hj=> ?_⟩
   have hjb:j∈ids b:=eY h j hj
   have:j∉ids a:=fun h1=>hn.2.2 j h1 j hjb rfl
   simp only [bD,cX this,h2 j hj]
 | .loop c,d,id,h,hn=>by
  simp only [bD] at h
  obtain ⟨h1,h2⟩:=iO h hn
  exact ⟨h1,fun j hj=>by simp only [bD];exact h2 j hj⟩
 | .block i c,d,id,h,hn=>by
  simp only [ids,List.nodup_cons] at hn
  simp only [bD] at h
  split at h
  ·cases h
   refine ⟨hn.2,fun j hj=> ?_⟩
   have:i≠j:=fun e=>hn.1 (e▸hj)
   simp only [bD,if_neg this]
  ·obtain ⟨h1,h2⟩:=iO h hn.2
   refine ⟨h1,fun j hj=> ?_⟩
   have:i≠j:=fun e=>hn.1 (e▸eY h j hj)
   simp only [bD,if_neg this];exact h2 j hj
 | .skip,_,_,h,_=>by cases h
 | .region ..,_,_,h,_=>by cases h
 | .exit _,_,_,h,_=>by cases h
 | .scope _,_,_,h,_=>by cases h
 | .label _,_,_,h,_=>by cases h
 | .goto _,_,_,h,_=>by cases h
 | .ret,_,_,h,_=>by cases h
 | .refuse _,_,_,h,_=>by cases h
where
 fW: ∀ {c:Code} {j:Nat},j∈ids c->bD j c≠none
  | .seq a b,j,h=>by
   simp only [ids,List.mem_append] at h
   simp only [bD]
   rcases h with h|h
   ·have:=fW h
    split<;>simp_all
   ·have:=fW h
    split<;>simp_all
  | .cond _ a b,j,h=>by
   simp only [ids,List.mem_append] at h
   simp only [bD]
   rcases h with h|h
   ·have:=fW h
    split<;>simp_all
   ·have:=fW h
    split<;>simp_all
  | .rangeFunc _ _ a b,j,h=>by
   simp only [ids,List.mem_append] at h
   simp only [bD]
   rcases h with h|h
   ·have:=fW h
    split<;>simp_all
   ·have:=fW h
    split<;>simp_all
  | .loop c,j,h=>by simp only [ids] at h;simp only [bD];exact fW h
  | .block i c,j,h=>by
   simp only [ids,List.mem_cons] at h
   simp only [bD]
   split
   ·simp
   ·rename_i hi;exact fW (h.resolve_left (Ne.symm hi))
  | .skip,_,h=>by simp [ids] at h
  | .region ..,_,h=>by simp [ids] at h
  | .exit _,_,h=>by simp [ids] at h
  | .scope _,_,h=>by simp [ids] at h
  | .label _,_,h=>by simp [ids] at h
  | .goto _,_,h=>by simp [ids] at h
  | .ret,_,h=>by simp [ids] at h
  | .refuse _,_,h=>by simp [ids] at h
 eY: ∀ {c b:Code} {id:Nat},bD id c=some b-> ∀j∈ids b,j∈ids c
  | .seq a b,d,id,h=>by
   intro j hj
   simp only [bD] at h
   simp only [ids,List.mem_append]
   split at h
   ·rename_i hc;cases h;exact .inl (eY hc j hj)
   ·exact .inr (eY h j hj)
  | .cond _ a b,d,id,h=>by
   intro j hj
   simp only [bD] at h
   simp only [ids,List.mem_append]
   split at h
   ·rename_i hc;cases h;exact .inl (eY hc j hj)
   ·exact .inr (eY h j hj)
  | .rangeFunc _ _ a b,d,id,h=>by
   intro j hj
   simp only [bD] at h
   simp only [ids,List.mem_append]
   split at h
   ·rename_i hc;cases h;exact .inl (eY hc j hj)
   ·exact .inr (eY h j hj)
  | .loop c,d,id,h=>by intro j hj;simp only [bD] at h;simp only [ids];exact eY h j hj
  | .block i c,d,id,h=>by
   intro j hj
   simp only [bD] at h
   simp only [ids,List.mem_cons]
   split at h
   ·cases h;exact .inr hj
   ·exact .inr (eY h j hj)
  | .skip,_,_,h=>by cases h
  | .region ..,_,_,h=>by cases h
  | .exit _,_,_,h=>by cases h
  | .scope _,_,_,h=>by cases h
  | .label _,_,_,h=>by cases h
  | .goto _,_,_,h=>by cases h
  | .ret,_,_,h=>by cases h
  | .refuse _,_,_,h=>by cases h
theorem Ae {lp:List (Nat×br)} {ys:List (Nat×Spec)} {its:List (Nat×cP)} {c:Code} (hn:(ids c).Nodup) (h:aK P X c lp):tD P ⟨tt,specs,X,lp,ys,its⟩ c:=
 jx c hn fun id _ sp hs b hb av W ro n hX hro st K hk ρ a w aQ=>by
  have:=h av W ro n hX id sp hs (by simpa only [blk,hb] using hro) st K hk ρ a w aQ
  simp only [blk,hb] at this;exact this
theorem aK.an9 {c b:Code} {lp:List (Nat×br)} {ys:List (Nat×Spec)} {its:List (Nat×cP)} {id:Nat} {sp:br} (hl:aK P X c lp) (hn':cZ (ids c)=true) (hb:bD id c=some b)
  (h:tD P ⟨tt,specs,X,lp,ys,its⟩ b-> ∀av W ro n,uR av W X->((ro=none/\ av.bd= [])\/ mZ b=true)-> ∀st K,sp st K-> ∀ρ a w,Ki av W st ρ a w->b.wpIn (fw ro) n P (Post av W (lA id (kN K))) a w):aK P X c ((id,sp)::lp):=by
 have hn:=ef hn'
 intro av W ro n hX id' sp' hs hro st K hk ρ a w aQ
 unfold aL at hs
 split at hs
 ·rename_i e;subst e;cases hs
  obtain ⟨h1,h2⟩:=iO hb hn
  have:tD P ⟨tt,specs,X,lp,ys,its⟩ b:=jx b h1 fun j hj sp hs d hd av W ro n hX hro st K hk ρ a w aQ=>by
   have:=hl av W ro n hX j sp hs (by simpa only [blk,h2 j hj,hd] using hro) st K hk ρ a w aQ
   simp only [blk,h2 j hj,hd] at this;exact this
  simp only [blk,hb] at hro ⊢
  exact wpIn_mono (xg (h this av W ro n hX hro st K hk ρ a w aQ)) fun e a w h=>afg h
 ·exact hl av W ro n hX id' sp' hs hro st K hk ρ a w aQ
theorem aK.cons (hT:di P tt) {lp:List (Nat×br)} {ys:List (Nat×Spec)} {its:List (Nat×cP)} (hC:e8 P ⟨tt,specs,X,lp,ys,its⟩) (hm:P.follows .mixedOrders=true) {c b:Code} {id:Nat} {sp:br} (hl:aK P X c lp) (hn':cZ (ids c)=true) (hb:bD id c=some b)
  (h: ∀st K,sp st K->cJ ⟨tt,specs,X,lp,ys,its⟩ b st (lA id (kN K))):aK P X c ((id,sp)::lp):=
 hl.an9 (tt:=tt) (specs:=specs) (ys:=ys) (its:=its) hn' hb fun oL av W ro n hX hro st K hk ρ a w aQ=>rG (ctx:=⟨tt,specs,X,lp,ys,its⟩) hT hC hm b oL av W ro n hX hro st _ (h st K hk) ρ a w aQ
def Yl (tt:List (Nat×TI)) (specs:List (Nat×Spec)) (X:Addr->Value->Prop) (lp:List (Nat×br)) (ys:List (Nat×Spec)) (its:List (Nat×cP)) (id:Nat) (c:Code) (N:Nat):br:=fun st K=>G3 ⟨tt,specs,X,lp,ys,its⟩ c N st (lA id K)
theorem aK.G3 (hT:di P tt) {lp:List (Nat×br)} {ys:List (Nat×Spec)} {its:List (Nat×cP)} (hC:e8 P ⟨tt,specs,X,lp,ys,its⟩) (hm:P.follows .mixedOrders=true) {c b:Code} {id:Nat} (N:Nat) (hl:aK P X c lp) (hn':cZ (ids c)=true) (hb:bD id c=some (.loop b)):
  aK P X c ((id,Yl tt specs X lp ys its id b N)::lp):=by
 have hn:=ef hn'
 intro av W ro n hX id' sp' hs hro st K hk ρ a w aQ
 unfold aL at hs
 split at hs
 ·rename_i e;subst e;cases hs
  obtain ⟨h1,h2⟩:=iO hb hn
  have oL:tD P ⟨tt,specs,X,lp,ys,its⟩ (.loop b):=jx (.loop b) h1 fun j hj sp hs d hd av W ro n hX hro st K hk ρ a w aQ=>by
   have:=hl av W ro n hX j sp hs (by simpa only [blk,h2 j hj,hd] using hro) st K hk ρ a w aQ
   simp only [blk,h2 j hj,hd] at this;exact this
  simp only [blk,hb] at hro ⊢
  exact xg (af8 (ctx:=⟨tt,specs,X,lp,ys,its⟩) hT hC hm b hX hro oL N st _ hk ρ a w aQ)
 ·exact hl av W ro n hX id' sp' hs hro st K hk ρ a w aQ
def x5 (tt:List (Nat×TI)) (specs:List (Nat×Spec)) (X:Addr->Value->Prop) (lp:List (Nat×Spec)->List (Nat×br)) (its:List (Nat×cP)) (fn:Func):cP:=fun ys args heap R=>JD ⟨tt,specs,X,lp ys,ys,its⟩ fn args heap R
theorem gM.fn (hT:di P tt) (hS:aj P specs) (hm:P.follows .mixedOrders=true) {f:FuncId} {fn:Func} (hf:P.funcs[f]? =some fn) (hn:cZ (ids (aC fn))=true) {lp:List (Nat×Spec)->List (Nat×br)} {its:List (Nat×cP)} (hits:aH P X its)
  (oL: ∀ys,o9 P ys->aK P X (aC fn) (lp ys)):gM P X f (x5 tt specs X lp its fn):=by
 intro ys args heap R h hy av W ρ w hX hargs hst
 refine jN (ctx:=⟨tt,specs,X,lp ys,ys,its⟩) hT ⟨hS,hy,hits⟩ hX hm hf (fun c hc=> ?_) h hargs hst
 have:aC fn=c:=by unfold aC;rw [hc]
 subst this
 exact Ae (ef hn) (oL ys hy)
end
section
variable {P:Program}
theorem di.nil:di P []:=fun _ _ h=>by cases h
theorem di.cons {t:TypeId} {i:TI} {l:List (Nat×TI)} (hu:P.underlying t=some i.desc) (hs:0<i.size) (hi:(P.info? t).map (fun q=>(q.size,q.bytes,q.zero))=some (i.size,i.bytes,some i.zero))
  (ha:(!dx i.desc||(!P.stoodInHeld t&& !P.eqGuardType P.depth t))=true) (hl:di P l):di P ((t,i)::l):=by
 intro u j h
 unfold aL at h
 split at h
 ·rename_i e;subst e;cases h
  refine ⟨hu,hs,?_⟩
  cases hq:P.info? t with
  |none=>rw [hq] at hi;cases hi
  |some q=>
   rw [hq] at hi
   simp only [Option.map_some,Option.some.injEq,Prod.mk.injEq] at hi
   refine ⟨q,rfl,hi.1,hi.2.1,hi.2.2,fun sP=> ?_⟩
   rw [sP] at ha
   simpa using ha
 ·exact hl u j h
theorem b9.of {f:FuncId} {fn:Func} (hf:P.funcs[f]? =some fn) (h1:(fn.name== "runtime.NumGoroutine")=false) (h2:fn.body.isNone=false):b9 P f:=by
 intro args w
 simp only [callFunc,Sem.run_bind,run_program,Result.andThen_ok,hf,h1,h2,Bool.false_eq_true,if_false,Sem.run_pure]
theorem aH.cons {X:Addr->Value->Prop} {f:FuncId} {ZK:cP} {l:List (Nat×cP)} (he:b9 P f) (h:gM P X f ZK) (hl:aH P X l):aH P X ((f,ZK)::l):=by
 intro g q hg
 unfold aL at hg
 split at hg
 ·rename_i e;subst e;cases hg;exact ⟨he,h⟩
 ·exact hl g q hg
end
instance avr {A B:Type} [Inhabited A]:Inhabited (A⊕B):=⟨.inl default⟩
inductive Term {S R:Type} (step:S->S⊕R) (pre:S->Prop):S->Prop
 |mk (s:S) (hp:pre s) (h: ∀s',step s= .inl s'->Term step pre s'):Term step pre s
def cQ {S R:Type} (step:S->S⊕R):Nat->S->Option R
 |0,_=>none
 |n+1,s=>match step s with
  | .inl s'=>cQ step n s'
  | .inr r=>some r
theorem LJ {S R:Type} {step:S->S⊕R} : ∀(n:Nat) (s:S) (r:R),cQ step n s=some r->cQ step (n+1) s=some r
 |0,_,_,h=>by cases h
 |n+1,s,r,h=>by
  simp only [cQ] at h
  show (match step s with| .inl s'=>cQ step (n+1) s'| .inr r=>some r)=some r
  cases hs:step s with
  |inl s'=>rw [hs] at h;exact LJ n s' r h
  |inr r'=>rw [hs] at h;exact h
theorem V1 {S R:Type} {step:S->S⊕R} {n m:Nat} {s:S} {r:R} (h:cQ step n s=some r) (hm:n<=m):cQ step m s=some r:=by
  induction m with
  |zero=>   have:n=0:=by omega
            subst this;exact h
  | succ m ih=>
    rcases Nat.lt_or_ge m n with h1|h1
    · have:n=m+1:=by omega
      subst this;exact h
    · exact LJ m s r (ih h1)
open Classical in
def run {S R:Type} [Inhabited R] (step:S->S⊕R) (s:S):R:=if h: ∃r n,cQ step n s=some r then Classical.choose h else default
theorem GR {S R:Type} [Inhabited R] {step:S->S⊕R} {n:Nat} {s:S} {r:R} (h:cQ step n s=some r):run step s=r:=by
 have hx: ∃r n,cQ step n s=some r:=⟨r,n,h⟩
 unfold run
 rw [dif_pos hx]
 obtain ⟨m,hm⟩:=Classical.choose_spec hx
 have h1:=V1 h (Nat.le_max_left n m)
 have h2:=V1 hm (Nat.le_max_right n m)
 rw [h1] at h2
 exact (Option.some.inj h2).symm
theorem run_eq {S R:Type} [Inhabited R] (step:S->S⊕R) (s:S):run step s=match step s with| .inl s'=>run step s'| .inr r=>r:=by
 cases hs:step s with
 |inr r=>exact GR (n:=1) (by simp only [cQ,hs])
 |inl s'=>
  dsimp only
  by_cases h: ∃r n,cQ step n s'=some r
  ·obtain ⟨r,n,h⟩:=h
   rw [GR h]
   exact GR (n:=n+1) (by simp only [cQ,hs,h])
  ·have h2: ¬ ∃r n,cQ step n s=some r:=by
    rintro ⟨r,n,hn⟩
    cases n with
    |zero=>cases hn
    |succ n=>simp only [cQ,hs] at hn;exact h ⟨r,n,hn⟩
   unfold run
   rw [dif_neg h,dif_neg h2]
theorem Term.iter {S R:Type} {step:S->S⊕R} {pre:S->Prop} {s:S} (h:Term step pre s): ∃r n,cQ step n s=some r:=by
 induction h with
 |mk s hp h ih=>
  cases hs:step s with
  |inr r=>exact ⟨r,1,by simp only [cQ,hs]⟩
  |inl s'=>
   obtain ⟨r,n,hn⟩:=ih s' hs
   exact ⟨r,n+1,by simp only [cQ,hs,hn]⟩
theorem Term.of {S R:Type} {step:S->S⊕R} {pre:S->Prop} (J:S->Prop) (μ:S->Nat) (h: ∀s,J s->pre s/\ ∀s',step s= .inl s'->J s'/\ μ s'<μ s): ∀s,J s->Term step pre s:=by
 intro s hs
 obtain ⟨n,hn⟩: ∃n,n=μ s:=⟨_,rfl⟩
 induction n using Nat.strongRecOn generalizing s with
 |_ n ih=>
  obtain ⟨h1,h2⟩:=h s hs
  exact ⟨s,h1,fun s' hs'=>by
   obtain ⟨h3,h4⟩:=h2 s' hs'
   exact ih (μ s') (by omega) s' h3 rfl⟩
def cS {A B:Type} (r:A⊕B) (p:A->Prop) (q:B->Prop):Prop:=match r with
 | .inl a=>p a
 | .inr b=>q b
def ZR {S R:Type} [Inhabited R] (tm:S->AS) (step:S->S⊕R) (pre:S->Prop) (out:R->(Exit->AS->Prop)->Prop):br:=fun st K=> ∃s0,uS st (tm s0)/\ Term step pre s0/\ ∀r,r=run step s0->out r K
def KB (id:Nat) (K:Exit->AS->Prop) (KN:AS->Prop) (e:Exit) (st:AS):Prop:=match e with
 | .normal=> ∃st',uS st st'/\ KN st'
 |e=>lA id (kN K) e st
def adr {S R:Type} (tm:S->AS) (out:R->(Exit->AS->Prop)->Prop) (K:Exit->AS->Prop) (KN:AS->Prop) (v:S⊕R):Prop:=match v with
 | .inl s=>KN (tm s)
 | .inr r=>out r K
theorem aeU {S R:Type} [Inhabited R] {ctx:Ctx} {c:Code} {id:Nat} {tm:S->AS} {step:S->S⊕R} {pre:S->Prop} {out:R->(Exit->AS->Prop)->Prop}
  (hr: ∀s K KN,pre s->adr tm out K KN (step s)->cJ ctx c (tm s) (KB id K KN)) (st:AS) (K:Exit->AS->Prop) (h:ZR tm step pre out st K):cJ ctx (.loop c) st (lA id (kN K)):=by
 obtain ⟨s0,hw,ht,hk⟩:=h
 obtain ⟨r,n,hn⟩:=ht.iter
 have Jn:=GR hn
 refine ⟨fun m st=> ∃s,st=tm s/\ Term step pre s/\ cQ step m s=some r,⟨n,_,hw,s0,rfl,ht,hn⟩,?_⟩
 rintro m mE ⟨s,rfl,hts,hm⟩
 have e:(fun (e:Exit) (tC:AS)=>match e with| .normal=> ∃m' st',m'<m/\ uS tC st'/\ ∃s,st'=tm s/\ Term step pre s/\ cQ step m' s=some r|e=>lA id (kN K) e tC)=
   KB id K fun st'=> ∃m',m'<m/\ ∃s,st'=tm s/\ Term step pre s/\ cQ step m' s=some r:=by
  funext e tC
  cases e<;>try rfl
  refine propext ⟨?_,?_⟩
  ·rintro ⟨m',st',h1,h2,h3⟩;exact ⟨st',h2,m',h1,h3⟩
  ·rintro ⟨st',h2,m',h1,h3⟩;exact ⟨m',st',h1,h2,h3⟩
 refine e▸hr s K _ ?_ ?_
 ·cases hts with|mk _ hp _=>exact hp
 ·match m,hm with
  |0,hm=>cases hm
  |m+1,hm=>
   simp only [cQ] at hm
   cases hs:step s with
   |inl s'=>
    rw [hs] at hm
    cases hts with|mk _ _ h=>exact ⟨m,by omega,s',rfl,h s' hs,hm⟩
   |inr r'=>
    rw [hs] at hm
    have:r'=run step s0:=by rw [Jn];exact Option.some.inj hm
    exact hk r' this
def cf:Addr->Value->Prop:=fun _ _=>False
theorem cf.ok (av:fG) (W:World):uR av W cf:=fun _ _ h=>h.elim
theorem u7 (rk:Nat) {ρ ρ':Env} {d:Nat} : ∀(cs:List cw) (nm:Nat),(∀i,i<(cA rk nm cs).2.length->ρ' (nm+i+d)=ρ (nm+i))->(cA rk (nm+d) cs).1.map (Cell.ae ρ')=(cA rk nm cs).1.map (Cell.ae ρ)/\ (cA rk (nm+d) cs).2=(cA rk nm cs).2
 | [],nm,_=>⟨rfl,rfl⟩
 | .flat v::r,nm,h=>by
  obtain ⟨h1,h2⟩:=u7 rk (d:=d) r nm h
  simp only [cA,List.map_cons,h1,h2];exact ⟨rfl,trivial⟩
 | .sl u l::r,nm,h=>by
  have h0:=h 0 (by simp [cA])
  obtain ⟨h1,h2⟩:=u7 rk (ρ:=ρ) (ρ':=ρ') (d:=d) r (nm+1) fun i hi=>by
   have:=h (i+1) (by simpa [cA] using hi)
   rwa [show nm+(i+1)+d=nm+1+i+d by omega,show nm+(i+1)=nm+1+i by omega] at this
  rw [Nat.add_zero] at h0
  rw [show nm+1+d=nm+d+1 by omega] at h1 h2
  simp only [cA,List.map_cons,h1,h2,Cell.ae,h0];exact ⟨trivial,trivial⟩
theorem C8 (rk:Nat): ∀(cs:List cw) (nm:Nat),∀c∈(cA rk nm cs).1,c.ok fun m=>nm<=m/\ m<nm+(cA rk nm cs).2.length
 | [],nm,c,h=>by simp [cA] at h
 | .flat v::r,nm,c,h=>by
  simp only [cA,List.mem_cons] at h
  rcases h with rfl|h
  ·trivial
  ·exact C8 rk r nm c h
 | .sl u l::r,nm,c,h=>by
  simp only [cA,List.mem_cons] at h
  rcases h with rfl|h
  ·simp only [cA,List.length_cons,Cell.ok];omega
  ·exact Cell.aT (fun m hm=>by simp only [cA,List.length_cons];omega) c (C8 rk r (nm+1) c h)
theorem zO (rk:Nat): ∀(cs:List cw) (nm:Nat),∀o∈(cA rk nm cs).2,∃u,∃l:List u.T,o= .row u l rk
 | [],nm,o,h=>by simp [cA] at h
 | .flat v::r,nm,o,h=>zO rk r nm o h
 | .sl u l::r,nm,o,h=>by
  simp only [cA,List.mem_cons] at h
  rcases h with rfl|h
  ·exact ⟨u,l,rfl⟩
  ·exact zO rk r (nm+1) o h
theorem Pe {a:Bool} {cs cs':List Cell} {ρ ρ':Env} (h:cs'.map (Cell.ae ρ')=cs.map (Cell.ae ρ)):(wW a cs').ae ρ'=(wW a cs).ae ρ:=by
 have hl:cs'.length=cs.length:=by simpa using congrArg List.length h
 cases a with
 |true=>simp only [wW,A0.ae,h]
 |false=>
  match cs,cs',hl with
  | [],[],_=>rfl
  | [c],[c'],_=>simp only [List.map_cons,List.map_nil,List.cons.injEq,and_true] at h;simp only [wW,A0.ae,h]
  |_::_::_,_::_::_,_=>simp only [wW,A0.ae,h]
theorem abW {a:Bool} {cs:List Cell} {Kn:Nat->Prop} (h: ∀c∈cs,c.ok Kn):(wW a cs).ok Kn:=by
 cases a with
 |true=>exact h
 |false=>
  match cs,h with
  | [],h=>exact h
  | [c],h=>exact h c (by simp)
  |_::_::_,h=>exact h
def mG.res:mG->Bool
 | .ptr _=>false
 | .jO _ _=>false
 | .mv _ _ _=>false
 | .pair a b=>a.res&&b.res
 |_=>true
theorem jo (rk:Nat) {ρ ρ':Env} {d:Nat} : ∀(p:mG) (x:p.ty.T) (nm:Nat),p.res=true->(∀i,i<(aY rk nm p x).2.length->ρ' (nm+i+d)=ρ (nm+i))->(aY rk (nm+d) p x).1.map (A0.ae ρ')=(aY rk nm p x).1.map (A0.ae ρ)/\ (aY rk (nm+d) p x).2=(aY rk nm p x).2
 | .one t,x,nm,_,h=>by
  obtain ⟨h1,h2⟩:=u7 rk (ρ:=ρ) (ρ':=ρ') (d:=d) (t.aU x) nm h
  simp only [aY,List.map_cons,List.map_nil,Pe h1,h2];exact ⟨trivial,trivial⟩
 | .agg t,x,nm,_,h=>by
  obtain ⟨h1,h2⟩:=u7 rk (ρ:=ρ) (ρ':=ρ') (d:=d) (t.aU x) nm h
  simp only [aY,List.map_cons,List.map_nil,Pe h1,h2];exact ⟨trivial,trivial⟩
 | .ptr t,x,nm,hr,h=>by cases hr
 | .jO f p,x,nm,hr,h=>by cases hr
 | .mv f agg t,x,nm,hr,h=>by cases hr
 | .pair a b,x,nm,hr,h=>by
  simp only [mG.res,Bool.and_eq_true] at hr
  obtain ⟨h1,h2⟩:=jo rk (ρ:=ρ) (ρ':=ρ') (d:=d) a x.1 nm hr.1 fun i hi=>h i (by simp only [aY,List.length_append];omega)
  obtain ⟨h3,h4⟩:=jo rk (ρ:=ρ) (ρ':=ρ') (d:=d) b x.2 (nm+(aY rk nm a x.1).2.length) hr.2 fun i hi=>by
   have:=h ((aY rk nm a x.1).2.length+i) (by simp only [aY,List.length_append];omega)
   rwa [<- Nat.add_assoc nm] at this
  rw [show nm+(aY rk nm a x.1).2.length+d=nm+d+(aY rk nm a x.1).2.length by omega] at h3 h4
  simp only [aY,List.map_append,h1,h2,h3,h4];exact ⟨trivial,trivial⟩
 | .none,x,nm,_,h=>⟨rfl,rfl⟩
theorem jc (rk:Nat): ∀(p:mG) (x:p.ty.T) (nm:Nat),∀c∈(aY rk nm p x).1,c.ok fun m=>nm<=m/\ m<nm+(aY rk nm p x).2.length
 | .one t,x,nm,c,h=>by
  simp only [aY,List.mem_singleton] at h
  subst h;exact abW (C8 rk _ nm)
 | .agg t,x,nm,c,h=>by
  simp only [aY,List.mem_singleton] at h
  subst h;exact abW (C8 rk _ nm)
 | .ptr t,x,nm,c,h=>by
  simp only [aY,List.mem_singleton] at h
  subst h;simp only [aY,List.length_singleton,A0.ok,Cell.ok];omega
 | .mv f agg t,x,nm,c,h=>by
  simp only [aY,List.mem_singleton] at h
  subst h
  intro q hq
  obtain ⟨a,ha,rfl⟩:=List.mem_map.1 hq
  have:=C8 rk (t.aU x) nm a ha
  unfold ajR
  split
  ·trivial
  ·exact this
  ·trivial
 | .jO f p,x,nm,c,h=>by
  simp only [aY,List.mem_singleton] at h
  subst h
  intro q hq
  obtain ⟨a,ha,rfl⟩:=List.mem_map.1 hq
  have:=jc rk p x nm a ha
  unfold Xe
  split
  ·exact this
  ·trivial
 | .pair a b,x,nm,c,h=>by
  simp only [aY,List.mem_append] at h
  rcases h with h|h
  ·exact A0.aT (fun m hm=>by simp only [aY,List.length_append];omega) c (jc rk a x.1 nm c h)
  ·exact A0.aT (fun m hm=>by simp only [aY,List.length_append];omega) c (jc rk b x.2 _ c h)
 | .none,x,nm,c,h=>by simp [aY] at h
theorem tO (rk:Nat): ∀(p:mG) (x:p.ty.T) (nm:Nat),p.res=true-> ∀o∈(aY rk nm p x).2,∃u,∃l:List u.T,o= .row u l rk
 | .one t,x,nm,_,o,h=>zO rk _ nm o h
 | .agg t,x,nm,_,o,h=>zO rk _ nm o h
 | .ptr t,x,nm,hr,o,h=>by cases hr
 | .jO f p,x,nm,hr,o,h=>by cases hr
 | .mv f agg t,x,nm,hr,o,h=>by cases hr
 | .pair a b,x,nm,hr,o,h=>by
  simp only [mG.res,Bool.and_eq_true] at hr
  simp only [aY,List.mem_append] at h
  rcases h with h|h
  ·exact tO rk a x.1 nm hr.1 o h
  ·exact tO rk b x.2 _ hr.2 o h
 | .none,x,nm,_,o,h=>by simp [aY] at h
theorem AB {l l':List A0} {ρ ρ':Env} (h:l'.map (A0.ae ρ')=l.map (A0.ae ρ)):(kp l').ae ρ'=(kp l).ae ρ:=by
 have hl:l'.length=l.length:=by simpa using congrArg List.length h
 match l,l',hl with
 | [],[],_=>rfl
 | [c],[c'],_=>simp only [List.map_cons,List.map_nil,List.cons.injEq,and_true] at h;simp only [kp,AV.ae,h]
 |_::_::_,_::_::_,_=>simp only [kp,AV.ae,h]
theorem J3 {l:List A0} {Kn:Nat->Prop} (h: ∀c∈l,c.ok Kn):(kp l).ok Kn:=by
 match l,h with
 | [],h=>exact h
 | [c],h=>exact h c (by simp)
 |_::_::_,h=>exact h
theorem St.grow {av:fG} {W:World} {ρ aR:Env} {Kn:Nat->Prop} {Γ:HP} {w w':World} {nm:Nat} {os:List aD} {v:AV} {tc:List Nat} (h:St av W ρ Kn Γ w) (hn: ∀i,i<os.length-> ¬Kn (nm+i)) (hrow: ∀o∈os,∃u,∃l:List u.T,o= .row u l 2) (h1:St A6 w aR (· <os.length) (ai os) w'):
  ∃ρ',(∀m,Kn m->ρ' m=ρ m)/\ (∀n,n<os.length->ρ' (n+nm)=aR n)/\ St av W ρ' (oI Kn nm {val:=v,fresh:=os,aF:=tc}) (bV {val:=v,fresh:=os,aF:=tc} nm Γ) w':=by
 let ρ':Env:=fun m=>if nm<=m/\ m<nm+os.length then aR (m- nm) else ρ m
 have hold: ∀m,Kn m->ρ' m=ρ m:=fun m hm=>by
  simp only [ρ']
  rw [if_neg]
  rintro ⟨h2,h3⟩
  exact hn (m- nm) (by omega) (by rw [show nm+(m- nm)=m by omega];exact hm)
 have hnew: ∀n,n<os.length->ρ' (n+nm)=aR n:=fun n hn=>by
  simp only [ρ']
  rw [if_pos (by omega),show n+nm- nm=n by omega]
 have bQ: ∀m o,bV {val:=v,fresh:=os,aF:=tc} nm Γ m=some o->(∃n,m=n+nm/\ n<os.length/\ ai os n=some o/\ ∃u,∃l:List u.T,o= .row u l 2)\/ (Γ m=some o/\ Kn m):=by
  intro m o ho
  simp only [bV,cm] at ho
  split at ho
  ·rename_i hc
   have hlt:m- nm<os.length:=by omega
   refine .inl ⟨m- nm,by omega,hlt,by rw [bz];exact ho,?_⟩
   rw [List.getElem?_eq_getElem hlt] at ho
   obtain ⟨u,l,e⟩:=hrow _ (List.getElem_mem hlt)
   rw [e] at ho
   simp only [live,Option.some.injEq] at ho
   exact ⟨u,l,ho.symm⟩
  ·exact .inr ⟨ho,(h.kn m o ho).1⟩
 have hf1: ∀b,b<w.heap.size->w'.heap[b]? =w.heap[b]? :=fun b hb=>h1.fr.block b hb id
 have hnb: ∀n b,n<os.length->(ai os n).isSome=true->(aR n).has b->w.heap.size<=b:=fun n b _ hs hb=>by
  rcases h1.lC n b hs hb with h2|h2
  ·exact h2
  ·exact h2.elim
 have oH: ∀m o b,Γ m=some o->(ρ m).has b->b<w.heap.size:=fun m o b ho hb=>h.lt m b (by rw [ho];rfl) hb
 have aen: ∀b,LOb ρ' (bV {val:=v,fresh:=os,aF:=tc} nm Γ) b->(w.heap.size<=b/\ LOb aR (ai os) b)\/ (b<w.heap.size/\ LOb ρ Γ b):=by
  rintro b ⟨m,h2,h3⟩
  obtain ⟨o,ho⟩:=Option.isSome_iff_exists.1 h2
  rcases bQ m o ho with ⟨n,rfl,mD,hp,_⟩|⟨hg,hk⟩
  ·rw [hnew n mD] at h3
   exact .inl ⟨hnb n b mD (by rw [hp];rfl) h3,n,by rw [hp];rfl,h3⟩
  ·rw [hold m hk] at h3
   exact .inr ⟨oH m o b hg h3,m,by rw [hg];rfl,h3⟩
 have z6: ∀b,HI (bV {val:=v,fresh:=os,aF:=tc} nm Γ) b->HI Γ b:=fun b ⟨m,S,h2,h3⟩=>by
  rcases bQ m _ h2 with ⟨n,_,_,_,u,l,e⟩|⟨hg,hk⟩
  ·cases e
  ·exact ⟨m,S,hg,h3⟩
 have hLO: ∀b,LO ρ' (bV {val:=v,fresh:=os,aF:=tc} nm Γ) b->(w.heap.size<=b/\ LO aR (ai os) b)\/ (b<w.heap.size/\ LO ρ Γ b):=by
  rintro b (h2|h2)
  ·exact (aen b h2).imp (fun h=>⟨h.1,.inl h.2⟩) (fun h=>⟨h.1,.inl h.2⟩)
  ·exact .inr ⟨(h.ru b (z6 b h2)).1,.inr (z6 b h2)⟩
 have hsz:=h.fr.size
 have aey:=h1.fr.size
 have hfz: ∀b,dV ρ Γ w b->dV ρ' (bV {val:=v,fresh:=os,aF:=tc} nm Γ) w' b/\ w'.heap[b]? =w.heap[b]? :=fun b hb=>by
  have hlt:=hb.1.lt
  refine ⟨⟨hb.1.same (hf1 b hlt),fun hl=> ?_⟩,hf1 b hlt⟩
  rcases hLO b hl with ⟨h2,_⟩|⟨_,h2⟩
  ·omega
  ·exact hb.2 h2
 have Zm: ∀b,dV aR (ai os) w' b->uk A6 w b->dV ρ' (bV {val:=v,fresh:=os,aF:=tc} nm Γ) w' b/\ uk av W b:=fun b hb hp=>by
  have hge:w.heap.size<=b:=by
   rcases hp with h2|h2|h2
   ·exact h2
   ·exact h2.elim
   ·exact h2.elim
  refine ⟨⟨hb.1,fun hl=> ?_⟩,.inl (by omega)⟩
  rcases hLO b hl with ⟨_,h2⟩|⟨h2,_⟩
  ·exact hb.2 h2
  ·omega
 have apC: ∀m:Nat,m<os.length->oI Kn nm {val:=v,fresh:=os,aF:=tc} (m+nm):=fun m hm=> .inr (by simp only [];omega)
 refine ⟨ρ',hold,hnew,⟨?_,fun m o ho=> ?_,fun m o ho=> ?_,fun m m' b hm hm' gy dR=> ?_,fun m b hm hb=> ?_,fun b hh=> ?_,fun m o ho=> ?_⟩⟩
 rotate_right
 ·rcases bQ m o ho with ⟨n,rfl,mD,hp,_⟩|⟨hg,hk⟩
  ·rw [hnew n mD];exact h1.wK n o hp
  ·rw [hold m hk];exact h.wK m o hg
 rotate_right
 ·obtain ⟨h2,h3⟩:=h.ru b (z6 b hh)
  refine ⟨by omega,fun h4=> ?_⟩
  rcases aen b h4 with ⟨h5,_⟩|⟨_,h5⟩
  ·omega
  ·exact h3 h5
 ·exact h.fr.trans h1.fr.acG
 ·rcases bQ m o ho with ⟨n,rfl,mD,hp,u,l,rfl⟩|⟨hg,hk⟩
  ·obtain ⟨g1,g2,g3,sub,g4,g5,g6,g7⟩:=h1.at_ n _ hp
   rw [bp,hnew n mD]
   exact ⟨g1,g2,g3,sub,fun i x hi=>by
    obtain ⟨a,e1,e2,_⟩:=g4 i x hi
    exact ⟨a,e1,e2,fun h=>by cases h⟩,fun q u' l' hq=>(g5 q u' l' hq).weak fun b hb=>by
     obtain ⟨e1,e2⟩:=Zm b hb.1 (hb.2 rfl).1
     exact ⟨e1,fun _=>⟨e2,(hb.2 rfl).2⟩⟩,g6,g7⟩
  ·exact cx (Kn:=Kn) (h.at_ m o hg) hold hk (h.kn m o hg).2 hfz (fun _ _ h=>h) fun b hb=>hf1 b (oH m o b hg hb)
 ·rcases bQ m o ho with ⟨n,rfl,mD,hp,u,l,rfl⟩|⟨hg,hk⟩
  ·exact ⟨apC n mD,trivial⟩
  ·exact ⟨.inl hk,aD.aT (fun _=> .inl) o (h.kn m o hg).2⟩
 ·obtain ⟨o,ho⟩:=Option.isSome_iff_exists.1 hm
  obtain ⟨o',FN⟩:=Option.isSome_iff_exists.1 hm'
  rcases bQ m o ho with ⟨n,rfl,mD,hp,_⟩|⟨hg,hk⟩
  ·rw [hnew n mD] at gy
   rcases bQ m' o' FN with ⟨n',rfl,amE,fh,_⟩|⟨hg',hk'⟩
   ·rw [hnew n' amE] at dR
    rw [h1.dU n n' b (by rw [hp];rfl) (by rw [fh];rfl) gy dR]
   ·rw [hold m' hk'] at dR
    have:=hnb n b mD (by rw [hp];rfl) gy
    have:=oH m' o' b hg' dR
    omega
  ·rw [hold m hk] at gy
   rcases bQ m' o' FN with ⟨n',rfl,amE,fh,_⟩|⟨hg',hk'⟩
   ·rw [hnew n' amE] at dR
    have:=hnb n' b amE (by rw [fh];rfl) dR
    have:=oH m o b hg gy
    omega
   ·rw [hold m' hk'] at dR
    exact h.dU m m' b (by rw [hg];rfl) (by rw [hg'];rfl) gy dR
 ·obtain ⟨o,ho⟩:=Option.isSome_iff_exists.1 hm
  rcases bQ m o ho with ⟨n,rfl,mD,hp,_⟩|⟨hg,hk⟩
  ·rw [hnew n mD] at hb
   have:=hnb n b mD (by rw [hp];rfl) hb
   exact .inl (by omega)
  ·rw [hold m hk] at hb
   exact h.lC m b (by rw [hg];rfl) hb
section
variable {P:Program} {tt:List (Nat×TI)} {specs:List (Nat×Spec)}
theorem aq.fnT (hT:di P tt) (hS:aj P specs) (hm:P.follows .mixedOrders=true) {f:FuncId} {fn:Func} (hf:P.funcs[f]? =some fn) (hn:cZ (ids (aC fn))=true) {s:bF} (hres:s.r.res=true)
  (h: ∀x,s.pre x-> ∃lp its,aH P cf its/\ aK P cf (aC fn) lp/\ JD ⟨tt,specs,cf,lp,[],its⟩ fn (cy s.p x) (da s.p x) (l9 s.r (· =s.f x))):aq P f (ah s):=by
 intro X args hp nm k hs
 unfold ah at hs
 split at hs
 rotate_left
 ·exact hs.elim
 rename_i x tc b hd
 obtain ⟨rfl,hpre,hk⟩:=bh hs
 have hk:=hk _ rfl
 obtain ⟨as,e,hargs⟩:=qa s.p _ _ _ _ hd
 rw [List.append_nil] at e
 subst e
 refine ⟨_,⟨fun p fh=>absurd fh (by simp),?_⟩,hk⟩
 intro av W ρ Kn Γ w _ _ ht hfr hst
 obtain ⟨xs,hg,hc⟩:=hargs av W ρ Kn Γ w ht hst 0
 have hb:=St.begin hg
 obtain ⟨lp,its,hi,hl,hfn⟩:=h x hpre
 have hcs:=hc (fun n=>xs.getD n {}) fun i y hy=>by simp [hy]
 have key:=jN (ctx:=⟨tt,specs,cf,lp,[],its⟩) hT ⟨hS,o9.nil P,hi⟩ (cf.ok A6 w) hm hf (fun c hc=>by
  have:aC fn=c:=by unfold aC;rw [hc]
  subst this
  exact Ae (ef hn) hl) hfn (fun y hy=>by
   obtain ⟨a,ha,rfl⟩:=List.mem_map.1 hy
   exact A0.aT (fun m hm=>by simpa [da] using hm.2) a (jc 0 s.p x 0 a ha)) hb
 have ea:(cy s.p x).map (AV.ae fun n=>xs.getD n {})=args.map (AV.ae ρ):=by
  rw [hcs];simp [cy,AV.ae,Function.comp_def]
 rw [ea] at key
 refine key.mono ?_
 rintro e w' ⟨st,aR,v,rfl,hv,hR,pF⟩
 obtain ⟨y,rfl,hw⟩:=QC hR
 have aQ:mF A6 w [] ⟨[v],st.heap⟩ aR {tmps:= #[v.ae aR],defers:= []} w':=by
  refine ⟨fun t _=> ?_,rfl,rfl,fun t=> ?_,pF⟩
  ·match t with
   |0=>rfl
   |t+1=>rfl
  ·match t with
   |0=>exact hv
   |t+1=>exact wF _
 obtain ⟨jZ,fc⟩:=aQ.weak hw
 have VO:=tO 2 s.r (s.f x) 0 hres
 have Pr:=fun d=>(jo 2 (ρ:=jZ) (ρ':=fun m=>jZ (m- d)) (d:=d) s.r (s.f x) 0 hres fun i _=>by simp).2
 have hlen:(aY 2 nm s.r (s.f x)).2=(aY 2 0 s.r (s.f x)).2:=by simpa using Pr nm
 obtain ⟨ρ',r1,r2,r3⟩:=St.grow (v:=kp (aY 2 nm s.r (s.f x)).1) (tc:=tc) (nm:=nm) hst (fun i hi=>hfr i (by rw [hlen];exact hi)) VO fc.st
 have hsh:=(jo 2 (ρ:=jZ) (ρ':=ρ') (d:=nm) s.r (s.f x) 0 hres fun i hi=>by rw [Nat.zero_add];exact r2 i hi).1
 rw [Nat.zero_add] at hsh
 refine ⟨ρ',?_,r1,?_,?_⟩
 ·congr 1
  have h1:=fc.tmps 0 (by
   show kp _≠_
   generalize (aY 2 0 s.r (s.f x)).1=l
   match l with
   | []=>exact fun h=>by cases h
   | [_]=>exact fun h=>by cases h
   |_::_::_=>exact fun h=>by cases h)
  have h2:v.ae aR=(kp (aY 2 0 s.r (s.f x)).1).ae jZ:=h1
  rw [h2]
  exact (AB hsh).symm
 ·exact J3 fun c hc=>A0.aT (fun m hm=> .inr (by simpa using hm)) c (jc 2 s.r (s.f x) nm c hc)
 ·rw [hlen];exact r3
end
end Go.Ev
