/- Functions of typed values, out of 'fnE': blocks, loops. -/
import Derived.Test.YtngdehlpoomaiaaGreatEvK
noncomputable section
set_option linter.unusedSectionVars false
set_option linter.unusedVariables false
set_option linter.unusedSimpArgs false
namespace Go.Ev
open Go.RowKit
abbrev av (n:Int):Int:=IntKind.wrap .i64 n
abbrev ci (n:Int):Cell:= .raw (.int .i64 n)
abbrev vi (n:Int):AV:= .v (.one (.raw (.int .i64 n)))
abbrev vb (b:Bool):AV:= .v (.one (.raw (.bool b)))
abbrev D:AV:= .dead
theorem aF {n:Int} (h1: -9223372036854775808<=n) (h2:n<=9223372036854775807):av n=n:=by rw [av,IntKind.wrap_i64];omega
def cL:Code->Code| .seq a _=>a|c=>c
def cR:Code->Code| .seq _ b=>b|c=>c
def cI:Code->Code| .block _ c=>c| .loop c=>c|c=>c
def aD (fn:Func):Code:=match fn.body with|some c=>c|none=> .skip
def ids:Code->List Nat
 | .seq a b=>ids a++ids b
 | .cond _ a b=>ids a++ids b
 | .loop c=>ids c
 | .block id c=>id::ids c
 | .rangeFunc _ _ a b=>ids a++ids b
 |_=> []
def bC (id:Nat):Code->Option Code
 | .seq a b=>match bC id a with|some c=>some c|none=>bC id b
 | .cond _ a b=>match bC id a with|some c=>some c|none=>bC id b
 | .loop c=>bC id c
 | .block i c=>if i=id then some c else bC id c
 | .rangeFunc _ _ a b=>match bC id a with|some c=>some c|none=>bC id b
 |_=>none
def blk (id:Nat) (c:Code):Code:=match bC id c with|some c=>c|none=> .skip
def dg:List Nat->Bool
 | []=>true
 |x::r=> !r.contains x&&dg r
theorem dJ: ∀ {l:List Nat},dg l=true->l.Nodup
 | [],_=>List.nodup_nil
 |x::r,h=>by
  simp only [dg,Bool.and_eq_true,Bool.not_eq_true',List.contains_eq_mem,decide_eq_false_iff_not] at h
  exact List.nodup_cons.2 ⟨h.1,dJ h.2⟩
section
variable {P:Program} {tt:List (Nat×TI)} {specs:List (Nat×Spec)} {X:Addr->Value->Prop}
def ay (P:Program) (X:Addr->Value->Prop) (c:Code) (lp:List (Nat×bw)):Prop:=
 ∀au W ro n,rD au W X-> ∀id sp,aJ lp id=some sp->((ro=none/\ au.bd= [])\/ lA (blk id c)=true)-> ∀st K,sp st K-> ∀ρ a w,Et au W st ρ a w->(Code.block id (blk id c)).wpIn (fw ro) n P (Post au W K) a w
theorem cE: ∀ {c:Code} {id:Nat},id∉ids c->bC id c=none
 | .seq a b,id,h=>by
  simp only [ids,List.mem_append,not_or] at h
  simp only [bC,cE h.1,cE h.2]
 | .cond _ a b,id,h=>by
  simp only [ids,List.mem_append,not_or] at h
  simp only [bC,cE h.1,cE h.2]
 | .rangeFunc _ _ a b,id,h=>by
  simp only [ids,List.mem_append,not_or] at h
  simp only [bC,cE h.1,cE h.2]
 | .loop c,id,h=>by simp only [ids] at h;simp only [bC,cE h]
 | .block i c,id,h=>by
  simp only [ids,List.mem_cons,not_or] at h
  simp only [bC,if_neg (Ne.symm h.1),cE h.2]
 | .skip,_,_=>rfl
 | .region ..,_,_=>rfl
 | .exit _,_,_=>rfl
 | .scope _,_,_=>rfl
 | .label _,_,_=>rfl
 | .goto _,_,_=>rfl
 | .ret,_,_=>rfl
 | .refuse _,_,_=>rfl
theorem iD {lp:List (Nat×bw)} {ys:List (Nat×Spec)} {its:List (Nat×cD)} : ∀(c:Code),(ids c).Nodup->
  (∀id∈ids c,∀sp,aJ lp id=some sp-> ∀b,bC id c=some b-> ∀au W ro n,rD au W X->((ro=none/\ au.bd= [])\/ lA b=true)-> ∀st K,sp st K-> ∀ρ a w,Et au W st ρ a w->(Code.block id b).wpIn (fw ro) n P (Post au W K) a w)->
  qG P ⟨tt,specs,X,lp,ys,its⟩ c
 | .seq a b,hn,h=>by
  simp only [ids,List.nodup_append] at hn
  refine ⟨iD a hn.1 fun id hi sp hs c hc=>h id (by simp [ids,hi]) sp hs c (by simp only [bC,hc]),iD b hn.2.1 fun id hi sp hs c hc=>h id (by simp [ids,hi]) sp hs c ?_⟩
  have:id∉ids a:=fun h1=>hn.2.2 id h1 id hi rfl
  simp only [bC,cE this,hc]
 | .cond _ a b,hn,h=>by
  simp only [ids,List.nodup_append] at hn
  refine ⟨iD a hn.1 fun id hi sp hs c hc=>h id (by simp [ids,hi]) sp hs c (by simp only [bC,hc]),iD b hn.2.1 fun id hi sp hs c hc=>h id (by simp [ids,hi]) sp hs c ?_⟩
  have:id∉ids a:=fun h1=>hn.2.2 id h1 id hi rfl
  simp only [bC,cE this,hc]
 | .rangeFunc _ _ a b,hn,h=>by
  simp only [ids,List.nodup_append] at hn
  refine ⟨iD a hn.1 fun id hi sp hs c hc=>h id (by simp [ids,hi]) sp hs c (by simp only [bC,hc]),iD b hn.2.1 fun id hi sp hs c hc=>h id (by simp [ids,hi]) sp hs c ?_⟩
  have:id∉ids a:=fun h1=>hn.2.2 id h1 id hi rfl
  simp only [bC,cE this,hc]
 | .loop c,hn,h=>iD c hn fun id hi sp hs b hb=>h id hi sp hs b hb
 | .block i c,hn,h=>by
  simp only [ids,List.nodup_cons] at hn
  unfold qG
  split
  ·rename_i hs
   refine iD c hn.2 fun id hi sp hs' b hb=>h id (by simp [ids,hi]) sp hs' b ?_
   have:i≠id:=fun e=>hn.1 (e▸hi)
   simp only [bC,if_neg this,hb]
  ·rename_i sp hs
   exact h i (by simp [ids]) sp hs c (by simp [bC])
 | .skip,_,_=>trivial
 | .region ..,_,_=>trivial
 | .exit _,_,_=>trivial
 | .scope _,_,_=>trivial
 | .label _,_,_=>trivial
 | .goto _,_,_=>trivial
 | .ret,_,_=>trivial
 | .refuse _,_,_=>trivial
theorem ay.nil {c:Code} :ay P X c []:=fun _ _ _ _ _ _ _ h=>by cases h
theorem gD: ∀ {c b:Code} {id:Nat},bC id c=some b->(ids c).Nodup->(ids b).Nodup/\ ∀j∈ids b,bC j c=bC j b
 | .seq a b,d,id,h,hn=>by
  simp only [ids,List.nodup_append] at hn
  simp only [bC] at h
  split at h
  ·rename_i hc
   cases h
   obtain ⟨h1,h2⟩:=gD hc hn.1
   refine ⟨h1,fun j hj=> ?_⟩
   have:=h2 j hj
   simp only [bC]
   rw [this]
   cases hb:bC j d with
   |some _=>rfl
   |none=>exact absurd hb (ff hj)
  ·rename_i hc
   obtain ⟨h1,h2⟩:=gD h hn.2.1
   refine ⟨h1,fun j hj=> ?_⟩
   have hjb:j∈ids b:=ej h j hj
   have:j∉ids a:=fun h1=>hn.2.2 j h1 j hjb rfl
   simp only [bC,cE this,h2 j hj]
 | .cond _ a b,d,id,h,hn=>by
  simp only [ids,List.nodup_append] at hn
  simp only [bC] at h
  split at h
  ·rename_i hc
   cases h
   obtain ⟨h1,h2⟩:=gD hc hn.1
   refine ⟨h1,fun j hj=> ?_⟩
   have:=h2 j hj
   simp only [bC]
   rw [this]
   cases hb:bC j d with
   |some _=>rfl
   |none=>exact absurd hb (ff hj)
  ·rename_i hc
   obtain ⟨h1,h2⟩:=gD h hn.2.1
   refine ⟨h1,fun j hj=> ?_⟩
   have hjb:j∈ids b:=ej h j hj
   have:j∉ids a:=fun h1=>hn.2.2 j h1 j hjb rfl
   simp only [bC,cE this,h2 j hj]
 | .rangeFunc _ _ a b,d,id,h,hn=>by
  simp only [ids,List.nodup_append] at hn
  simp only [bC] at h
  split at h
  ·rename_i hc
   cases h
   obtain ⟨h1,h2⟩:=gD hc hn.1
   refine ⟨h1,fun j hj=> ?_⟩
   have:=h2 j hj
   simp only [bC]
   rw [this]
   cases hb:bC j d with
   |some _=>rfl
   |none=>exact absurd hb (ff hj)
  ·rename_i hc
   obtain ⟨h1,h2⟩:=gD h hn.2.1
   refine ⟨h1,fun j hj=> ?_⟩
   have hjb:j∈ids b:=ej h j hj
   have:j∉ids a:=fun h1=>hn.2.2 j h1 j hjb rfl
   simp only [bC,cE this,h2 j hj]
 | .loop c,d,id,h,hn=>by
  simp only [bC] at h
  obtain ⟨h1,h2⟩:=gD h hn
  exact ⟨h1,fun j hj=>by simp only [bC];exact h2 j hj⟩
 | .block i c,d,id,h,hn=>by
  simp only [ids,List.nodup_cons] at hn
  simp only [bC] at h
  split at h
  ·cases h
   refine ⟨hn.2,fun j hj=> ?_⟩
   have:i≠j:=fun e=>hn.1 (e▸hj)
   simp only [bC,if_neg this]
  ·obtain ⟨h1,h2⟩:=gD h hn.2
   refine ⟨h1,fun j hj=> ?_⟩
   have:i≠j:=fun e=>hn.1 (e▸ej h j hj)
   simp only [bC,if_neg this];exact h2 j hj
 | .skip,_,_,h,_=>by cases h
 | .region ..,_,_,h,_=>by cases h
 | .exit _,_,_,h,_=>by cases h
 | .scope _,_,_,h,_=>by cases h
 | .label _,_,_,h,_=>by cases h
 | .goto _,_,_,h,_=>by cases h
 | .ret,_,_,h,_=>by cases h
 | .refuse _,_,_,h,_=>by cases h
where
 ff: ∀ {c:Code} {j:Nat},j∈ids c->bC j c≠none
  | .seq a b,j,h=>by
   simp only [ids,List.mem_append] at h
   simp only [bC]
   rcases h with h|h
   ·have:=ff h
    split<;>simp_all
   ·have:=ff h
    split<;>simp_all
  | .cond _ a b,j,h=>by
   simp only [ids,List.mem_append] at h
   simp only [bC]
   rcases h with h|h
   ·have:=ff h
    split<;>simp_all
   ·have:=ff h
    split<;>simp_all
  | .rangeFunc _ _ a b,j,h=>by
   simp only [ids,List.mem_append] at h
   simp only [bC]
   rcases h with h|h
   ·have:=ff h
    split<;>simp_all
   ·have:=ff h
    split<;>simp_all
  | .loop c,j,h=>by simp only [ids] at h;simp only [bC];exact ff h
  | .block i c,j,h=>by
   simp only [ids,List.mem_cons] at h
   simp only [bC]
   split
   ·simp
   ·rename_i hi;exact ff (h.resolve_left (Ne.symm hi))
  | .skip,_,h=>by simp [ids] at h
  | .region ..,_,h=>by simp [ids] at h
  | .exit _,_,h=>by simp [ids] at h
  | .scope _,_,h=>by simp [ids] at h
  | .label _,_,h=>by simp [ids] at h
  | .goto _,_,h=>by simp [ids] at h
  | .ret,_,h=>by simp [ids] at h
  | .refuse _,_,h=>by simp [ids] at h
 ej: ∀ {c b:Code} {id:Nat},bC id c=some b-> ∀j∈ids b,j∈ids c
  | .seq a b,d,id,h=>by
   intro j hj
   simp only [bC] at h
   simp only [ids,List.mem_append]
   split at h
   ·rename_i hc;cases h;exact .inl (ej hc j hj)
   ·exact .inr (ej h j hj)
  | .cond _ a b,d,id,h=>by
   intro j hj
   simp only [bC] at h
   simp only [ids,List.mem_append]
   split at h
   ·rename_i hc;cases h;exact .inl (ej hc j hj)
   ·exact .inr (ej h j hj)
  | .rangeFunc _ _ a b,d,id,h=>by
   intro j hj
   simp only [bC] at h
   simp only [ids,List.mem_append]
   split at h
   ·rename_i hc;cases h;exact .inl (ej hc j hj)
   ·exact .inr (ej h j hj)
  | .loop c,d,id,h=>by intro j hj;simp only [bC] at h;simp only [ids];exact ej h j hj
  | .block i c,d,id,h=>by
   intro j hj
   simp only [bC] at h
   simp only [ids,List.mem_cons]
   split at h
   ·cases h;exact .inr hj
   ·exact .inr (ej h j hj)
  | .skip,_,_,h=>by cases h
  | .region ..,_,_,h=>by cases h
  | .exit _,_,_,h=>by cases h
  | .scope _,_,_,h=>by cases h
  | .label _,_,_,h=>by cases h
  | .goto _,_,_,h=>by cases h
  | .ret,_,_,h=>by cases h
  | .refuse _,_,_,h=>by cases h
theorem wD {lp:List (Nat×bw)} {ys:List (Nat×Spec)} {its:List (Nat×cD)} {c:Code} (hn:(ids c).Nodup) (h:ay P X c lp):qG P ⟨tt,specs,X,lp,ys,its⟩ c:=
 iD c hn fun id _ sp hs b hb au W ro n hX hro st K hk ρ a w aO=>by
  have:=h au W ro n hX id sp hs (by simpa only [blk,hb] using hro) st K hk ρ a w aO
  simp only [blk,hb] at this;exact this
theorem ay.afI {c b:Code} {lp:List (Nat×bw)} {ys:List (Nat×Spec)} {its:List (Nat×cD)} {id:Nat} {sp:bw} (hl:ay P X c lp) (hn':dg (ids c)=true) (hb:bC id c=some b)
  (h:qG P ⟨tt,specs,X,lp,ys,its⟩ b-> ∀au W ro n,rD au W X->((ro=none/\ au.bd= [])\/ lA b=true)-> ∀st K,sp st K-> ∀ρ a w,Et au W st ρ a w->b.wpIn (fw ro) n P (Post au W (jN id (jy K))) a w):ay P X c ((id,sp)::lp):=by
 have hn:=dJ hn'
 intro au W ro n hX id' sp' hs hro st K hk ρ a w aO
 unfold aJ at hs
 split at hs
 ·rename_i e;subst e;cases hs
  obtain ⟨h1,h2⟩:=gD hb hn
  have:qG P ⟨tt,specs,X,lp,ys,its⟩ b:=iD b h1 fun j hj sp hs d hd au W ro n hX hro st K hk ρ a w aO=>by
   have:=hl au W ro n hX j sp hs (by simpa only [blk,h2 j hj,hd] using hro) st K hk ρ a w aO
   simp only [blk,h2 j hj,hd] at this;exact this
  simp only [blk,hb] at hro ⊢
  exact wpIn_mono (tM (h this au W ro n hX hro st K hk ρ a w aO)) fun e a w h=>Xd h
 ·exact hl au W ro n hX id' sp' hs hro st K hk ρ a w aO
theorem ay.cons (hT:cP P tt) {lp:List (Nat×bw)} {ys:List (Nat×Spec)} {its:List (Nat×cD)} (hC:eB P ⟨tt,specs,X,lp,ys,its⟩) (hm:P.follows .mixedOrders=true) {c b:Code} {id:Nat} {sp:bw} (hl:ay P X c lp) (hn':dg (ids c)=true) (hb:bC id c=some b)
  (h: ∀st K,sp st K->cz ⟨tt,specs,X,lp,ys,its⟩ b st (jN id (jy K))):ay P X c ((id,sp)::lp):=
 hl.afI (tt:=tt) (specs:=specs) (ys:=ys) (its:=its) hn' hb fun mJ au W ro n hX hro st K hk ρ a w aO=>pB (ctx:=⟨tt,specs,X,lp,ys,its⟩) hT hC hm b mJ au W ro n hX hro st _ (h st K hk) ρ a w aO
def QB (tt:List (Nat×TI)) (specs:List (Nat×Spec)) (X:Addr->Value->Prop) (lp:List (Nat×bw)) (ys:List (Nat×Spec)) (its:List (Nat×cD)) (id:Nat) (c:Code) (N:Nat):bw:=fun st K=>Cj ⟨tt,specs,X,lp,ys,its⟩ c N st (jN id K)
theorem ay.Cj (hT:cP P tt) {lp:List (Nat×bw)} {ys:List (Nat×Spec)} {its:List (Nat×cD)} (hC:eB P ⟨tt,specs,X,lp,ys,its⟩) (hm:P.follows .mixedOrders=true) {c b:Code} {id:Nat} (N:Nat) (hl:ay P X c lp) (hn':dg (ids c)=true) (hb:bC id c=some (.loop b)):
  ay P X c ((id,QB tt specs X lp ys its id b N)::lp):=by
 have hn:=dJ hn'
 intro au W ro n hX id' sp' hs hro st K hk ρ a w aO
 unfold aJ at hs
 split at hs
 ·rename_i e;subst e;cases hs
  obtain ⟨h1,h2⟩:=gD hb hn
  have mJ:qG P ⟨tt,specs,X,lp,ys,its⟩ (.loop b):=iD (.loop b) h1 fun j hj sp hs d hd au W ro n hX hro st K hk ρ a w aO=>by
   have:=hl au W ro n hX j sp hs (by simpa only [blk,h2 j hj,hd] using hro) st K hk ρ a w aO
   simp only [blk,h2 j hj,hd] at this;exact this
  simp only [blk,hb] at hro ⊢
  exact tM (XH (ctx:=⟨tt,specs,X,lp,ys,its⟩) hT hC hm b hX hro mJ N st _ hk ρ a w aO)
 ·exact hl au W ro n hX id' sp' hs hro st K hk ρ a w aO
def uP (tt:List (Nat×TI)) (specs:List (Nat×Spec)) (X:Addr->Value->Prop) (lp:List (Nat×Spec)->List (Nat×bw)) (its:List (Nat×cD)) (fn:Func):cD:=fun ys args heap R=>Ie ⟨tt,specs,X,lp ys,ys,its⟩ fn args heap R
theorem fJ.fn (hT:cP P tt) (hS:ah P specs) (hm:P.follows .mixedOrders=true) {f:FuncId} {fn:Func} (hf:P.funcs[f]? =some fn) (hn:dg (ids (aD fn))=true) {lp:List (Nat×Spec)->List (Nat×bw)} {its:List (Nat×cD)} (hits:ax P X its)
  (mJ: ∀ys,mU P ys->ay P X (aD fn) (lp ys)):fJ P X f (uP tt specs X lp its fn):=by
 intro ys args heap R h hy au W ρ w hX hargs hst
 refine iO (ctx:=⟨tt,specs,X,lp ys,ys,its⟩) hT ⟨hS,hy,hits⟩ hX hm hf (fun c hc=> ?_) h hargs hst
 have:aD fn=c:=by unfold aD;rw [hc]
 subst this
 exact wD (dJ hn) (mJ ys hy)
end
section
variable {P:Program}
theorem cP.nil:cP P []:=fun _ _ h=>by cases h
theorem cP.cons {t:TypeId} {i:TI} {l:List (Nat×TI)} (hu:P.underlying t=some i.desc) (hs:0<i.size) (hi:(P.info? t).map (fun q=>(q.size,q.bytes,q.zero))=some (i.size,i.bytes,some i.zero))
  (ha:(!cY i.desc||(!P.stoodInHeld t&& !P.eqGuardType P.depth t))=true) (hl:cP P l):cP P ((t,i)::l):=by
 intro u j h
 unfold aJ at h
 split at h
 ·rename_i e;subst e;cases h
  refine ⟨hu,hs,?_⟩
  cases hq:P.info? t with
  |none=>rw [hq] at hi;cases hi
  |some q=>
   rw [hq] at hi
   simp only [Option.map_some,Option.some.injEq,Prod.mk.injEq] at hi
   refine ⟨q,rfl,hi.1,hi.2.1,hi.2.2,fun ql=> ?_⟩
   rw [ql] at ha
   simpa using ha
 ·exact hl u j h
theorem bS.of {f:FuncId} {fn:Func} (hf:P.funcs[f]? =some fn) (h1:(fn.name== "runtime.NumGoroutine")=false) (h2:fn.body.isNone=false):bS P f:=by
 intro args w
 simp only [callFunc,Sem.run_bind,run_program,Result.andThen_ok,hf,h1,h2,Bool.false_eq_true,if_false,Sem.run_pure]
theorem ax.cons {X:Addr->Value->Prop} {f:FuncId} {R6:cD} {l:List (Nat×cD)} (he:bS P f) (h:fJ P X f R6) (hl:ax P X l):ax P X ((f,R6)::l):=by
 intro g q hg
 unfold aJ at hg
 split at hg
 ·rename_i e;subst e;cases hg;exact ⟨he,h⟩
 ·exact hl g q hg
end
instance amU {A B:Type} [Inhabited A]:Inhabited (A⊕B):=⟨.inl default⟩
inductive Term {S R:Type} (step:S->S⊕R) (pre:S->Prop):S->Prop
 |mk (s:S) (hp:pre s) (h: ∀s',step s= .inl s'->Term step pre s'):Term step pre s
def cO {S R:Type} (step:S->S⊕R):Nat->S->Option R
 |0,_=>none
 |n+1,s=>match step s with
  | .inl s'=>cO step n s'
  | .inr r=>some r
theorem FX {S R:Type} {step:S->S⊕R} : ∀(n:Nat) (s:S) (r:R),cO step n s=some r->cO step (n+1) s=some r
 |0,_,_,h=>by cases h
 |n+1,s,r,h=>by
  simp only [cO] at h
  show (match step s with| .inl s'=>cO step (n+1) s'| .inr r=>some r)=some r
  cases hs:step s with
  |inl s'=>rw [hs] at h;exact FX n s' r h
  |inr r'=>rw [hs] at h;exact h
theorem OO {S R:Type} {step:S->S⊕R} {n m:Nat} {s:S} {r:R} (h:cO step n s=some r) (hm:n<=m):cO step m s=some r:=by
  induction m with
  |zero=>   have:n=0:=by omega
            subst this;exact h
  | succ m ih=>
    rcases Nat.lt_or_ge m n with h1|h1
    · have:n=m+1:=by omega
      subst this;exact h
    · exact FX m s r (ih h1)
open Classical in
def run {S R:Type} [Inhabited R] (step:S->S⊕R) (s:S):R:=if h: ∃r n,cO step n s=some r then Classical.choose h else default
theorem Ca {S R:Type} [Inhabited R] {step:S->S⊕R} {n:Nat} {s:S} {r:R} (h:cO step n s=some r):run step s=r:=by
 have hx: ∃r n,cO step n s=some r:=⟨r,n,h⟩
 unfold run
 rw [dif_pos hx]
 obtain ⟨m,hm⟩:=Classical.choose_spec hx
 have h1:=OO h (Nat.le_max_left n m)
 have h2:=OO hm (Nat.le_max_right n m)
 rw [h1] at h2
 exact (Option.some.inj h2).symm
theorem run_eq {S R:Type} [Inhabited R] (step:S->S⊕R) (s:S):run step s=match step s with| .inl s'=>run step s'| .inr r=>r:=by
 cases hs:step s with
 |inr r=>exact Ca (n:=1) (by simp only [cO,hs])
 |inl s'=>
  dsimp only
  by_cases h: ∃r n,cO step n s'=some r
  ·obtain ⟨r,n,h⟩:=h
   rw [Ca h]
   exact Ca (n:=n+1) (by simp only [cO,hs,h])
  ·have h2: ¬ ∃r n,cO step n s=some r:=by
    rintro ⟨r,n,hn⟩
    cases n with
    |zero=>cases hn
    |succ n=>simp only [cO,hs] at hn;exact h ⟨r,n,hn⟩
   unfold run
   rw [dif_neg h,dif_neg h2]
theorem Term.iter {S R:Type} {step:S->S⊕R} {pre:S->Prop} {s:S} (h:Term step pre s): ∃r n,cO step n s=some r:=by
 induction h with
 |mk s hp h ih=>
  cases hs:step s with
  |inr r=>exact ⟨r,1,by simp only [cO,hs]⟩
  |inl s'=>
   obtain ⟨r,n,hn⟩:=ih s' hs
   exact ⟨r,n+1,by simp only [cO,hs,hn]⟩
theorem Term.of {S R:Type} {step:S->S⊕R} {pre:S->Prop} (J:S->Prop) (μ:S->Nat) (h: ∀s,J s->pre s/\ ∀s',step s= .inl s'->J s'/\ μ s'<μ s): ∀s,J s->Term step pre s:=by
 intro s hs
 obtain ⟨n,hn⟩: ∃n,n=μ s:=⟨_,rfl⟩
 induction n using Nat.strongRecOn generalizing s with
 |_ n ih=>
  obtain ⟨h1,h2⟩:=h s hs
  exact ⟨s,h1,fun s' hs'=>by
   obtain ⟨h3,h4⟩:=h2 s' hs'
   exact ih (μ s') (by omega) s' h3 rfl⟩
def cS {A B:Type} (r:A⊕B) (p:A->Prop) (q:B->Prop):Prop:=match r with
 | .inl a=>p a
 | .inr b=>q b
def Sd {S R:Type} [Inhabited R] (tm:S->AS) (step:S->S⊕R) (pre:S->Prop) (out:R->(Exit->AS->Prop)->Prop):bw:=fun st K=> ∃s0,rF st (tm s0)/\ Term step pre s0/\ ∀r,r=run step s0->out r K
def KB (id:Nat) (K:Exit->AS->Prop) (KN:AS->Prop) (e:Exit) (st:AS):Prop:=match e with
 | .normal=> ∃st',rF st st'/\ KN st'
 |e=>jN id (jy K) e st
def Ve {S R:Type} (tm:S->AS) (out:R->(Exit->AS->Prop)->Prop) (K:Exit->AS->Prop) (KN:AS->Prop) (v:S⊕R):Prop:=match v with
 | .inl s=>KN (tm s)
 | .inr r=>out r K
theorem WO {S R:Type} [Inhabited R] {ctx:Ctx} {c:Code} {id:Nat} {tm:S->AS} {step:S->S⊕R} {pre:S->Prop} {out:R->(Exit->AS->Prop)->Prop}
  (hr: ∀s K KN,pre s->Ve tm out K KN (step s)->cz ctx c (tm s) (KB id K KN)) (st:AS) (K:Exit->AS->Prop) (h:Sd tm step pre out st K):cz ctx (.loop c) st (jN id (jy K)):=by
 obtain ⟨s0,hw,ht,hk⟩:=h
 obtain ⟨r,n,hn⟩:=ht.iter
 have DD:=Ca hn
 refine ⟨fun m st=> ∃s,st=tm s/\ Term step pre s/\ cO step m s=some r,⟨n,_,hw,s0,rfl,ht,hn⟩,?_⟩
 rintro m kI ⟨s,rfl,hts,hm⟩
 have e:(fun (e:Exit) (qF:AS)=>match e with| .normal=> ∃m' st',m'<m/\ rF qF st'/\ ∃s,st'=tm s/\ Term step pre s/\ cO step m' s=some r|e=>jN id (jy K) e qF)=
   KB id K fun st'=> ∃m',m'<m/\ ∃s,st'=tm s/\ Term step pre s/\ cO step m' s=some r:=by
  funext e qF
  cases e<;>try rfl
  refine propext ⟨?_,?_⟩
  ·rintro ⟨m',st',h1,h2,h3⟩;exact ⟨st',h2,m',h1,h3⟩
  ·rintro ⟨st',h2,m',h1,h3⟩;exact ⟨m',st',h1,h2,h3⟩
 refine e▸hr s K _ ?_ ?_
 ·cases hts with|mk _ hp _=>exact hp
 ·match m,hm with
  |0,hm=>cases hm
  |m+1,hm=>
   simp only [cO] at hm
   cases hs:step s with
   |inl s'=>
    rw [hs] at hm
    cases hts with|mk _ _ h=>exact ⟨m,by omega,s',rfl,h s' hs,hm⟩
   |inr r'=>
    rw [hs] at hm
    have:r'=run step s0:=by rw [DD];exact Option.some.inj hm
    exact hk r' this
def cf:Addr->Value->Prop:=fun _ _=>False
theorem cf.ok (au:eW) (W:World):rD au W cf:=fun _ _ h=>h.elim
theorem rO (rk:Nat) {ρ ρ':Env} {d:Nat} : ∀(cs:List cg) (nm:Nat),(∀i,i<(cm rk nm cs).2.length->ρ' (nm+i+d)=ρ (nm+i))->(cm rk (nm+d) cs).1.map (Cell.ae ρ')=(cm rk nm cs).1.map (Cell.ae ρ)/\ (cm rk (nm+d) cs).2=(cm rk nm cs).2
 | [],nm,_=>⟨rfl,rfl⟩
 | .flat v::r,nm,h=>by
  obtain ⟨h1,h2⟩:=rO rk (d:=d) r nm h
  simp only [cm,List.map_cons,h1,h2];exact ⟨rfl,trivial⟩
 | .sl u l::r,nm,h=>by
  have h0:=h 0 (by simp [cm])
  obtain ⟨h1,h2⟩:=rO rk (ρ:=ρ) (ρ':=ρ') (d:=d) r (nm+1) fun i hi=>by
   have:=h (i+1) (by simpa [cm] using hi)
   rwa [show nm+(i+1)+d=nm+1+i+d by omega,show nm+(i+1)=nm+1+i by omega] at this
  rw [Nat.add_zero] at h0
  rw [show nm+1+d=nm+d+1 by omega] at h1 h2
  simp only [cm,List.map_cons,h1,h2,Cell.ae,h0];exact ⟨trivial,trivial⟩
theorem zj (rk:Nat): ∀(cs:List cg) (nm:Nat),∀c∈(cm rk nm cs).1,c.ok fun m=>nm<=m/\ m<nm+(cm rk nm cs).2.length
 | [],nm,c,h=>by simp [cm] at h
 | .flat v::r,nm,c,h=>by
  simp only [cm,List.mem_cons] at h
  rcases h with rfl|h
  ·trivial
  ·exact zj rk r nm c h
 | .sl u l::r,nm,c,h=>by
  simp only [cm,List.mem_cons] at h
  rcases h with rfl|h
  ·simp only [cm,List.length_cons,Cell.ok];omega
  ·exact Cell.aR (fun m hm=>by simp only [cm,List.length_cons];omega) c (zj rk r (nm+1) c h)
theorem v5 (rk:Nat): ∀(cs:List cg) (nm:Nat),∀o∈(cm rk nm cs).2,∃u,∃l:List u.T,o= .row u l rk
 | [],nm,o,h=>by simp [cm] at h
 | .flat v::r,nm,o,h=>v5 rk r nm o h
 | .sl u l::r,nm,o,h=>by
  simp only [cm,List.mem_cons] at h
  rcases h with rfl|h
  ·exact ⟨u,l,rfl⟩
  ·exact v5 rk r (nm+1) o h
theorem Jj {a:Bool} {cs cs':List Cell} {ρ ρ':Env} (h:cs'.map (Cell.ae ρ')=cs.map (Cell.ae ρ)):(tD a cs').ae ρ'=(tD a cs).ae ρ:=by
 have hl:cs'.length=cs.length:=by simpa using congrArg List.length h
 cases a with
 |true=>simp only [tD,A0.ae,h]
 |false=>
  match cs,cs',hl with
  | [],[],_=>rfl
  | [c],[c'],_=>simp only [List.map_cons,List.map_nil,List.cons.injEq,and_true] at h;simp only [tD,A0.ae,h]
  |_::_::_,_::_::_,_=>simp only [tD,A0.ae,h]
theorem TG {a:Bool} {cs:List Cell} {Kn:Nat->Prop} (h: ∀c∈cs,c.ok Kn):(tD a cs).ok Kn:=by
 cases a with
 |true=>exact h
 |false=>
  match cs,h with
  | [],h=>exact h
  | [c],h=>exact h c (by simp)
  |_::_::_,h=>exact h
def kK.res:kK->Bool
 | .ptr _=>false
 | .iP _ _=>false
 | .mv _ _ _=>false
 | .pair a b=>a.res&&b.res
 |_=>true
theorem iu (rk:Nat) {ρ ρ':Env} {d:Nat} : ∀(p:kK) (x:p.ty.T) (nm:Nat),p.res=true->(∀i,i<(aW rk nm p x).2.length->ρ' (nm+i+d)=ρ (nm+i))->(aW rk (nm+d) p x).1.map (A0.ae ρ')=(aW rk nm p x).1.map (A0.ae ρ)/\ (aW rk (nm+d) p x).2=(aW rk nm p x).2
 | .one t,x,nm,_,h=>by
  obtain ⟨h1,h2⟩:=rO rk (ρ:=ρ) (ρ':=ρ') (d:=d) (t.aT x) nm h
  simp only [aW,List.map_cons,List.map_nil,Jj h1,h2];exact ⟨trivial,trivial⟩
 | .agg t,x,nm,_,h=>by
  obtain ⟨h1,h2⟩:=rO rk (ρ:=ρ) (ρ':=ρ') (d:=d) (t.aT x) nm h
  simp only [aW,List.map_cons,List.map_nil,Jj h1,h2];exact ⟨trivial,trivial⟩
 | .ptr t,x,nm,hr,h=>by cases hr
 | .iP f p,x,nm,hr,h=>by cases hr
 | .mv f agg t,x,nm,hr,h=>by cases hr
 | .pair a b,x,nm,hr,h=>by
  simp only [kK.res,Bool.and_eq_true] at hr
  obtain ⟨h1,h2⟩:=iu rk (ρ:=ρ) (ρ':=ρ') (d:=d) a x.1 nm hr.1 fun i hi=>h i (by simp only [aW,List.length_append];omega)
  obtain ⟨h3,h4⟩:=iu rk (ρ:=ρ) (ρ':=ρ') (d:=d) b x.2 (nm+(aW rk nm a x.1).2.length) hr.2 fun i hi=>by
   have:=h ((aW rk nm a x.1).2.length+i) (by simp only [aW,List.length_append];omega)
   rwa [<- Nat.add_assoc nm] at this
  rw [show nm+(aW rk nm a x.1).2.length+d=nm+d+(aW rk nm a x.1).2.length by omega] at h3 h4
  simp only [aW,List.map_append,h1,h2,h3,h4];exact ⟨trivial,trivial⟩
 | .none,x,nm,_,h=>⟨rfl,rfl⟩
theorem gW (rk:Nat): ∀(p:kK) (x:p.ty.T) (nm:Nat),∀c∈(aW rk nm p x).1,c.ok fun m=>nm<=m/\ m<nm+(aW rk nm p x).2.length
 | .one t,x,nm,c,h=>by
  simp only [aW,List.mem_singleton] at h
  subst h;exact TG (zj rk _ nm)
 | .agg t,x,nm,c,h=>by
  simp only [aW,List.mem_singleton] at h
  subst h;exact TG (zj rk _ nm)
 | .ptr t,x,nm,c,h=>by
  simp only [aW,List.mem_singleton] at h
  subst h;simp only [aW,List.length_singleton,A0.ok,Cell.ok];omega
 | .mv f agg t,x,nm,c,h=>by
  simp only [aW,List.mem_singleton] at h
  subst h
  intro q hq
  obtain ⟨a,ha,rfl⟩:=List.mem_map.1 hq
  have:=zj rk (t.aT x) nm a ha
  unfold abj
  split
  ·trivial
  ·exact this
  ·trivial
 | .iP f p,x,nm,c,h=>by
  simp only [aW,List.mem_singleton] at h
  subst h
  intro q hq
  obtain ⟨a,ha,rfl⟩:=List.mem_map.1 hq
  have:=gW rk p x nm a ha
  unfold Pq
  split
  ·exact this
  ·trivial
 | .pair a b,x,nm,c,h=>by
  simp only [aW,List.mem_append] at h
  rcases h with h|h
  ·exact A0.aR (fun m hm=>by simp only [aW,List.length_append];omega) c (gW rk a x.1 nm c h)
  ·exact A0.aR (fun m hm=>by simp only [aW,List.length_append];omega) c (gW rk b x.2 _ c h)
 | .none,x,nm,c,h=>by simp [aW] at h
theorem qN (rk:Nat): ∀(p:kK) (x:p.ty.T) (nm:Nat),p.res=true-> ∀o∈(aW rk nm p x).2,∃u,∃l:List u.T,o= .row u l rk
 | .one t,x,nm,_,o,h=>v5 rk _ nm o h
 | .agg t,x,nm,_,o,h=>v5 rk _ nm o h
 | .ptr t,x,nm,hr,o,h=>by cases hr
 | .iP f p,x,nm,hr,o,h=>by cases hr
 | .mv f agg t,x,nm,hr,o,h=>by cases hr
 | .pair a b,x,nm,hr,o,h=>by
  simp only [kK.res,Bool.and_eq_true] at hr
  simp only [aW,List.mem_append] at h
  rcases h with h|h
  ·exact qN rk a x.1 nm hr.1 o h
  ·exact qN rk b x.2 _ hr.2 o h
 | .none,x,nm,_,o,h=>by simp [aW] at h
theorem wP {l l':List A0} {ρ ρ':Env} (h:l'.map (A0.ae ρ')=l.map (A0.ae ρ)):(ji l').ae ρ'=(ji l).ae ρ:=by
 have hl:l'.length=l.length:=by simpa using congrArg List.length h
 match l,l',hl with
 | [],[],_=>rfl
 | [c],[c'],_=>simp only [List.map_cons,List.map_nil,List.cons.injEq,and_true] at h;simp only [ji,AV.ae,h]
 |_::_::_,_::_::_,_=>simp only [ji,AV.ae,h]
theorem Eg {l:List A0} {Kn:Nat->Prop} (h: ∀c∈l,c.ok Kn):(ji l).ok Kn:=by
 match l,h with
 | [],h=>exact h
 | [c],h=>exact h c (by simp)
 |_::_::_,h=>exact h
theorem St.grow {au:eW} {W:World} {ρ aQ:Env} {Kn:Nat->Prop} {Γ:HP} {w w':World} {nm:Nat} {os:List aG} {v:AV} {tc:List Nat} (h:St au W ρ Kn Γ w) (hn: ∀i,i<os.length-> ¬Kn (nm+i)) (hrow: ∀o∈os,∃u,∃l:List u.T,o= .row u l 2) (h1:St xw w aQ (· <os.length) (aj os) w'):
  ∃ρ',(∀m,Kn m->ρ' m=ρ m)/\ (∀n,n<os.length->ρ' (n+nm)=aQ n)/\ St au W ρ' (mG Kn nm {val:=v,fresh:=os,aH:=tc}) (bO {val:=v,fresh:=os,aH:=tc} nm Γ) w':=by
 let ρ':Env:=fun m=>if nm<=m/\ m<nm+os.length then aQ (m- nm) else ρ m
 have hold: ∀m,Kn m->ρ' m=ρ m:=fun m hm=>by
  simp only [ρ']
  rw [if_neg]
  rintro ⟨h2,h3⟩
  exact hn (m- nm) (by omega) (by rw [show nm+(m- nm)=m by omega];exact hm)
 have hnew: ∀n,n<os.length->ρ' (n+nm)=aQ n:=fun n hn=>by
  simp only [ρ']
  rw [if_pos (by omega),show n+nm- nm=n by omega]
 have bL: ∀m o,bO {val:=v,fresh:=os,aH:=tc} nm Γ m=some o->(∃n,m=n+nm/\ n<os.length/\ aj os n=some o/\ ∃u,∃l:List u.T,o= .row u l 2)\/ (Γ m=some o/\ Kn m):=by
  intro m o ho
  simp only [bO,bV] at ho
  split at ho
  ·rename_i hc
   have hlt:m- nm<os.length:=by omega
   refine .inl ⟨m- nm,by omega,hlt,by rw [br];exact ho,?_⟩
   rw [List.getElem?_eq_getElem hlt] at ho
   obtain ⟨u,l,e⟩:=hrow _ (List.getElem_mem hlt)
   rw [e] at ho
   simp only [live,Option.some.injEq] at ho
   exact ⟨u,l,ho.symm⟩
  ·exact .inr ⟨ho,(h.kn m o ho).1⟩
 have hf1: ∀b,b<w.heap.size->w'.heap[b]? =w.heap[b]? :=fun b hb=>h1.fr.block b hb id
 have hnb: ∀n b,n<os.length->(aj os n).isSome=true->(aQ n).has b->w.heap.size<=b:=fun n b _ hs hb=>by
  rcases h1.jP n b hs hb with h2|h2
  ·exact h2
  ·exact h2.elim
 have mF: ∀m o b,Γ m=some o->(ρ m).has b->b<w.heap.size:=fun m o b ho hb=>h.lt m b (by rw [ho];rfl) hb
 have Wd: ∀b,LOb ρ' (bO {val:=v,fresh:=os,aH:=tc} nm Γ) b->(w.heap.size<=b/\ LOb aQ (aj os) b)\/ (b<w.heap.size/\ LOb ρ Γ b):=by
  rintro b ⟨m,h2,h3⟩
  obtain ⟨o,ho⟩:=Option.isSome_iff_exists.1 h2
  rcases bL m o ho with ⟨n,rfl,kM,hp,_⟩|⟨hg,hk⟩
  ·rw [hnew n kM] at h3
   exact .inl ⟨hnb n b kM (by rw [hp];rfl) h3,n,by rw [hp];rfl,h3⟩
  ·rw [hold m hk] at h3
   exact .inr ⟨mF m o b hg h3,m,by rw [hg];rfl,h3⟩
 have wu: ∀b,HI (bO {val:=v,fresh:=os,aH:=tc} nm Γ) b->HI Γ b:=fun b ⟨m,S,h2,h3⟩=>by
  rcases bL m _ h2 with ⟨n,_,_,_,u,l,e⟩|⟨hg,hk⟩
  ·cases e
  ·exact ⟨m,S,hg,h3⟩
 have hLO: ∀b,LO ρ' (bO {val:=v,fresh:=os,aH:=tc} nm Γ) b->(w.heap.size<=b/\ LO aQ (aj os) b)\/ (b<w.heap.size/\ LO ρ Γ b):=by
  rintro b (h2|h2)
  ·exact (Wd b h2).imp (fun h=>⟨h.1,.inl h.2⟩) (fun h=>⟨h.1,.inl h.2⟩)
  ·exact .inr ⟨(h.oX b (wu b h2)).1,.inr (wu b h2)⟩
 have hsz:=h.fr.size
 have Wq:=h1.fr.size
 have hfz: ∀b,dA ρ Γ w b->dA ρ' (bO {val:=v,fresh:=os,aH:=tc} nm Γ) w' b/\ w'.heap[b]? =w.heap[b]? :=fun b hb=>by
  have hlt:=hb.1.lt
  refine ⟨⟨hb.1.same (hf1 b hlt),fun hl=> ?_⟩,hf1 b hlt⟩
  rcases hLO b hl with ⟨h2,_⟩|⟨_,h2⟩
  ·omega
  ·exact hb.2 h2
 have RG: ∀b,dA aQ (aj os) w' b->q8 xw w b->dA ρ' (bO {val:=v,fresh:=os,aH:=tc} nm Γ) w' b/\ q8 au W b:=fun b hb hp=>by
  have hge:w.heap.size<=b:=by
   rcases hp with h2|h2|h2
   ·exact h2
   ·exact h2.elim
   ·exact h2.elim
  refine ⟨⟨hb.1,fun hl=> ?_⟩,.inl (by omega)⟩
  rcases hLO b hl with ⟨_,h2⟩|⟨h2,_⟩
  ·exact hb.2 h2
  ·omega
 have ahc: ∀m:Nat,m<os.length->mG Kn nm {val:=v,fresh:=os,aH:=tc} (m+nm):=fun m hm=> .inr (by simp only [];omega)
 refine ⟨ρ',hold,hnew,⟨?_,fun m o ho=> ?_,fun m o ho=> ?_,fun m m' b hm hm' fC dI=> ?_,fun m b hm hb=> ?_,fun b hh=> ?_,fun m o ho=> ?_⟩⟩
 rotate_right
 ·rcases bL m o ho with ⟨n,rfl,kM,hp,_⟩|⟨hg,hk⟩
  ·rw [hnew n kM];exact h1.tg n o hp
  ·rw [hold m hk];exact h.tg m o hg
 rotate_right
 ·obtain ⟨h2,h3⟩:=h.oX b (wu b hh)
  refine ⟨by omega,fun h4=> ?_⟩
  rcases Wd b h4 with ⟨h5,_⟩|⟨_,h5⟩
  ·omega
  ·exact h3 h5
 ·exact h.fr.trans h1.fr.Up
 ·rcases bL m o ho with ⟨n,rfl,kM,hp,u,l,rfl⟩|⟨hg,hk⟩
  ·obtain ⟨g1,g2,g3,sub,g4,g5,g6,g7⟩:=h1.at_ n _ hp
   rw [bn,hnew n kM]
   exact ⟨g1,g2,g3,sub,fun i x hi=>by
    obtain ⟨a,e1,e2,_⟩:=g4 i x hi
    exact ⟨a,e1,e2,fun h=>by cases h⟩,fun q u' l' hq=>(g5 q u' l' hq).weak fun b hb=>by
     obtain ⟨e1,e2⟩:=RG b hb.1 (hb.2 rfl).1
     exact ⟨e1,fun _=>⟨e2,(hb.2 rfl).2⟩⟩,g6,g7⟩
  ·exact ck (Kn:=Kn) (h.at_ m o hg) hold hk (h.kn m o hg).2 hfz (fun _ _ h=>h) fun b hb=>hf1 b (mF m o b hg hb)
 ·rcases bL m o ho with ⟨n,rfl,kM,hp,u,l,rfl⟩|⟨hg,hk⟩
  ·exact ⟨ahc n kM,trivial⟩
  ·exact ⟨.inl hk,aG.aR (fun _=> .inl) o (h.kn m o hg).2⟩
 ·obtain ⟨o,ho⟩:=Option.isSome_iff_exists.1 hm
  obtain ⟨o',Bk⟩:=Option.isSome_iff_exists.1 hm'
  rcases bL m o ho with ⟨n,rfl,kM,hp,_⟩|⟨hg,hk⟩
  ·rw [hnew n kM] at fC
   rcases bL m' o' Bk with ⟨n',rfl,aeh,eL,_⟩|⟨hg',hk'⟩
   ·rw [hnew n' aeh] at dI
    rw [h1.dz n n' b (by rw [hp];rfl) (by rw [eL];rfl) fC dI]
   ·rw [hold m' hk'] at dI
    have:=hnb n b kM (by rw [hp];rfl) fC
    have:=mF m' o' b hg' dI
    omega
  ·rw [hold m hk] at fC
   rcases bL m' o' Bk with ⟨n',rfl,aeh,eL,_⟩|⟨hg',hk'⟩
   ·rw [hnew n' aeh] at dI
    have:=hnb n' b aeh (by rw [eL];rfl) dI
    have:=mF m o b hg fC
    omega
   ·rw [hold m' hk'] at dI
    exact h.dz m m' b (by rw [hg];rfl) (by rw [hg'];rfl) fC dI
 ·obtain ⟨o,ho⟩:=Option.isSome_iff_exists.1 hm
  rcases bL m o ho with ⟨n,rfl,kM,hp,_⟩|⟨hg,hk⟩
  ·rw [hnew n kM] at hb
   have:=hnb n b kM (by rw [hp];rfl) hb
   exact .inl (by omega)
  ·rw [hold m hk] at hb
   exact h.jP m b (by rw [hg];rfl) hb
section
variable {P:Program} {tt:List (Nat×TI)} {specs:List (Nat×Spec)}
theorem ai.fnT (hT:cP P tt) (hS:ah P specs) (hm:P.follows .mixedOrders=true) {f:FuncId} {fn:Func} (hf:P.funcs[f]? =some fn) (hn:dg (ids (aD fn))=true) {s:bY} (hres:s.r.res=true)
  (h: ∀x,s.pre x-> ∃lp its,ax P cf its/\ ay P cf (aD fn) lp/\ Ie ⟨tt,specs,cf,lp,[],its⟩ fn (cq s.p x) (c9 s.p x) (lE s.r (· =s.f x))):ai P f (ak s):=by
 intro X args hp nm k hs
 unfold ak at hs
 split at hs
 rotate_left
 ·exact hs.elim
 rename_i x tc b hd
 obtain ⟨rfl,hpre,hk⟩:=bg hs
 have hk:=hk _ rfl
 obtain ⟨as,e,hargs⟩:=nP s.p _ _ _ _ hd
 rw [List.append_nil] at e
 subst e
 refine ⟨_,⟨fun p eL=>absurd eL (by simp),?_⟩,hk⟩
 intro au W ρ Kn Γ w _ _ ht hfr hst
 obtain ⟨xs,hg,hc⟩:=hargs au W ρ Kn Γ w ht hst 0
 have hb:=St.begin hg
 obtain ⟨lp,its,hi,hl,hfn⟩:=h x hpre
 have hcs:=hc (fun n=>xs.getD n {}) fun i y hy=>by simp [hy]
 have key:=iO (ctx:=⟨tt,specs,cf,lp,[],its⟩) hT ⟨hS,mU.nil P,hi⟩ (cf.ok xw w) hm hf (fun c hc=>by
  have:aD fn=c:=by unfold aD;rw [hc]
  subst this
  exact wD (dJ hn) hl) hfn (fun y hy=>by
   obtain ⟨a,ha,rfl⟩:=List.mem_map.1 hy
   exact A0.aR (fun m hm=>by simpa [c9] using hm.2) a (gW 0 s.p x 0 a ha)) hb
 have ea:(cq s.p x).map (AV.ae fun n=>xs.getD n {})=args.map (AV.ae ρ):=by
  rw [hcs];simp [cq,AV.ae,Function.comp_def]
 rw [ea] at key
 refine key.mono ?_
 rintro e w' ⟨st,aQ,v,rfl,hv,hR,m9⟩
 obtain ⟨y,rfl,hw⟩:=Kl hR
 have aO:kJ xw w [] ⟨[v],st.heap⟩ aQ {tmps:= #[v.ae aQ],defers:= []} w':=by
  refine ⟨fun t _=> ?_,rfl,rfl,fun t=> ?_,m9⟩
  ·match t with
   |0=>rfl
   |t+1=>rfl
  ·match t with
   |0=>exact hv
   |t+1=>exact s7 _
 obtain ⟨iY,eI⟩:=aO.weak hw
 have OA:=qN 2 s.r (s.f x) 0 hres
 have Jr:=fun d=>(iu 2 (ρ:=iY) (ρ':=fun m=>iY (m- d)) (d:=d) s.r (s.f x) 0 hres fun i _=>by simp).2
 have hlen:(aW 2 nm s.r (s.f x)).2=(aW 2 0 s.r (s.f x)).2:=by simpa using Jr nm
 obtain ⟨ρ',r1,r2,r3⟩:=St.grow (v:=ji (aW 2 nm s.r (s.f x)).1) (tc:=tc) (nm:=nm) hst (fun i hi=>hfr i (by rw [hlen];exact hi)) OA eI.st
 have hsh:=(iu 2 (ρ:=iY) (ρ':=ρ') (d:=nm) s.r (s.f x) 0 hres fun i hi=>by rw [Nat.zero_add];exact r2 i hi).1
 rw [Nat.zero_add] at hsh
 refine ⟨ρ',?_,r1,?_,?_⟩
 ·congr 1
  have h1:=eI.tmps 0 (by
   show ji _≠_
   generalize (aW 2 0 s.r (s.f x)).1=l
   match l with
   | []=>exact fun h=>by cases h
   | [_]=>exact fun h=>by cases h
   |_::_::_=>exact fun h=>by cases h)
  have h2:v.ae aQ=(ji (aW 2 0 s.r (s.f x)).1).ae iY:=h1
  rw [h2]
  exact (wP hsh).symm
 ·exact Eg fun c hc=>A0.aR (fun m hm=> .inr (by simpa using hm)) c (gW 2 s.r (s.f x) nm c hc)
 ·rw [hlen];exact r3
end
end Go.Ev
