/- Functions of typed values, out of 'fnE': blocks, loops. -/
import Derived.Test.YtaipcbdilkcdbaaEvK
noncomputable section
set_option linter.unusedSectionVars false
set_option linter.unusedVariables false
set_option linter.unusedSimpArgs false
namespace Go.Ev
open Go.RowKit
abbrev ae (n:Int):Int:=IntKind.wrap .i64 n
abbrev ci (n:Int):Cell:= .raw (.int .i64 n)
abbrev vi (n:Int):AV:= .v (.one (.raw (.int .i64 n)))
abbrev vb (b:Bool):AV:= .v (.one (.raw (.bool b)))
abbrev D:AV:= .dead
theorem cC {n:Int} (h1: -9223372036854775808<=n) (h2:n<=9223372036854775807):ae n=n:=by rw [ae,IntKind.wrap_i64];omega
def cI:Code->Code| .block _ c=>c| .loop c=>c|c=>c
def bG (fn:Func):Code:=match fn.body with|some c=>c|none=> .skip
def ids:Code->List Nat
 | .seq a b=>ids a++ids b
 | .cond _ a b=>ids a++ids b
 | .loop c=>ids c
 | .block id c=>id::ids c
 | .rangeFunc _ _ a b=>ids a++ids b
 |_=> []
def bF (id:Nat):Code->Option Code
 | .seq a b=>match bF id a with|some c=>some c|none=>bF id b
 | .cond _ a b=>match bF id a with|some c=>some c|none=>bF id b
 | .loop c=>bF id c
 | .block i c=>if i=id then some c else bF id c
 | .rangeFunc _ _ a b=>match bF id a with|some c=>some c|none=>bF id b
 |_=>none
def bt (id:Nat) (c:Code):Code:=match bF id c with|some c=>c|none=> .skip
def ew:List Nat->Bool
 | []=>true
 |x::r=> !r.contains x&&ew r
theorem eU: ∀ {l:List Nat},ew l=true->l.Nodup
 | [],_=>List.nodup_nil
 |x::r,h=>by
  simp only [ew,Bool.and_eq_true,Bool.not_eq_true',List.contains_eq_mem,decide_eq_false_iff_not] at h
  exact List.nodup_cons.2 ⟨h.1,eU h.2⟩
section
variable {P:Program} {tt:List (Nat×TI)} {specs:List (Nat×Spec)} {X:Addr->Value->Prop}
def aB (P:Program) (X:Addr->Value->Prop) (c:Code) (lp:List (Nat×cy)):Prop:=
 ∀ax W ro n,yf ax W X-> ∀id sp,aF lp id=some sp->(ro=none\/ kJ (bt id c)=true)-> ∀st K,sp st K-> ∀ρ a w,Ac ax W st ρ a w->(Code.block id (bt id c)).wpIn (fw ro) n P (Post ax W K) a w
theorem cX: ∀ {c:Code} {id:Nat},id∉ids c->bF id c=none
 | .seq a b,id,h=>by
  simp only [ids,List.mem_append,not_or] at h
  simp only [bF,cX h.1,cX h.2]
 | .cond _ a b,id,h=>by
  simp only [ids,List.mem_append,not_or] at h
  simp only [bF,cX h.1,cX h.2]
 | .rangeFunc _ _ a b,id,h=>by
  simp only [ids,List.mem_append,not_or] at h
  simp only [bF,cX h.1,cX h.2]
 | .loop c,id,h=>by simp only [ids] at h;simp only [bF,cX h]
 | .block i c,id,h=>by
  simp only [ids,List.mem_cons,not_or] at h
  simp only [bF,if_neg (Ne.symm h.1),cX h.2]
 | .skip,_,_=>rfl
 | .region ..,_,_=>rfl
 | .exit _,_,_=>rfl
 | .scope _,_,_=>rfl
 | .label _,_,_=>rfl
 | .goto _,_,_=>rfl
 | .ret,_,_=>rfl
 | .refuse _,_,_=>rfl
theorem ic {lp:List (Nat×cy)} {ys:List (Nat×Spec)} {dc:List (Nat×iL)} : ∀(c:Code),(ids c).Nodup->
  (∀id∈ids c,∀sp,aF lp id=some sp-> ∀b,bF id c=some b-> ∀ax W ro n,yf ax W X->(ro=none\/ kJ b=true)-> ∀st K,sp st K-> ∀ρ a w,Ac ax W st ρ a w->(Code.block id b).wpIn (fw ro) n P (Post ax W K) a w)->
  pP P ⟨tt,specs,X,lp,ys,dc⟩ c
 | .seq a b,hn,h=>by
  simp only [ids,List.nodup_append] at hn
  refine ⟨ic a hn.1 fun id hi sp hs c hc=>h id (by simp [ids,hi]) sp hs c (by simp only [bF,hc]),ic b hn.2.1 fun id hi sp hs c hc=>h id (by simp [ids,hi]) sp hs c ?_⟩
  have:id∉ids a:=fun h1=>hn.2.2 id h1 id hi rfl
  simp only [bF,cX this,hc]
 | .cond _ a b,hn,h=>by
  simp only [ids,List.nodup_append] at hn
  refine ⟨ic a hn.1 fun id hi sp hs c hc=>h id (by simp [ids,hi]) sp hs c (by simp only [bF,hc]),ic b hn.2.1 fun id hi sp hs c hc=>h id (by simp [ids,hi]) sp hs c ?_⟩
  have:id∉ids a:=fun h1=>hn.2.2 id h1 id hi rfl
  simp only [bF,cX this,hc]
 | .rangeFunc _ _ a b,hn,h=>by
  simp only [ids,List.nodup_append] at hn
  refine ⟨ic a hn.1 fun id hi sp hs c hc=>h id (by simp [ids,hi]) sp hs c (by simp only [bF,hc]),ic b hn.2.1 fun id hi sp hs c hc=>h id (by simp [ids,hi]) sp hs c ?_⟩
  have:id∉ids a:=fun h1=>hn.2.2 id h1 id hi rfl
  simp only [bF,cX this,hc]
 | .loop c,hn,h=>ic c hn fun id hi sp hs b hb=>h id hi sp hs b hb
 | .block i c,hn,h=>by
  simp only [ids,List.nodup_cons] at hn
  unfold pP
  split
  ·rename_i hs
   refine ic c hn.2 fun id hi sp hs' b hb=>h id (by simp [ids,hi]) sp hs' b ?_
   have:i≠id:=fun e=>hn.1 (e▸hi)
   simp only [bF,if_neg this,hb]
  ·rename_i sp hs
   exact h i (by simp [ids]) sp hs c (by simp [bF])
 | .skip,_,_=>trivial
 | .region ..,_,_=>trivial
 | .exit _,_,_=>trivial
 | .scope _,_,_=>trivial
 | .label _,_,_=>trivial
 | .goto _,_,_=>trivial
 | .ret,_,_=>trivial
 | .refuse _,_,_=>trivial
theorem aB.nil {c:Code} :aB P X c []:=fun _ _ _ _ _ _ _ h=>by cases h
theorem gp: ∀ {c b:Code} {id:Nat},bF id c=some b->(ids c).Nodup->(ids b).Nodup/\ ∀j∈ids b,bF j c=bF j b
 | .seq a b,d,id,h,hn=>by
  simp only [ids,List.nodup_append] at hn
  simp only [bF] at h
  split at h
  ·rename_i hc
   cases h
   obtain ⟨h1,h2⟩:=gp hc hn.1
   refine ⟨h1,fun j hj=> ?_⟩
   have:=h2 j hj
   simp only [bF]
   rw [this]
   cases hb:bF j d with
   |some _=>rfl
   |none=>exact absurd hb (fk hj)
  ·rename_i hc
   obtain ⟨h1,h2⟩:=gp h hn.2.1
   refine ⟨h1,fun j hj=> ?_⟩
   have hjb:j∈ids b:=eC h j hj
   have:j∉ids a:=fun h1=>hn.2.2 j h1 j hjb rfl
   simp only [bF,cX this,h2 j hj]
 | .cond _ a b,d,id,h,hn=>by
  simp only [ids,List.nodup_append] at hn
  simp only [bF] at h
  split at h
  ·rename_i hc
   cases h
   obtain ⟨h1,h2⟩:=gp hc hn.1
   refine ⟨h1,fun j hj=> ?_⟩
   have:=h2 j hj
   simp only [bF]
   rw [this]
   cases hb:bF j d with
   |some _=>rfl
   |none=>exact absurd hb (fk hj)
  ·rename_i hc
   obtain ⟨h1,h2⟩:=gp h hn.2.1
   refine ⟨h1,fun j hj=> ?_⟩
   have hjb:j∈ids b:=eC h j hj
   have:j∉ids a:=fun h1=>hn.2.2 j h1 j hjb rfl
   simp only [bF,cX this,h2 j hj]
 | .rangeFunc _ _ a b,d,id,h,hn=>by
  simp only [ids,List.nodup_append] at hn
  simp only [bF] at h
  split at h
  ·rename_i hc
   cases h
   obtain ⟨h1,h2⟩:=gp hc hn.1
   refine ⟨h1,fun j hj=> ?_⟩
   have:=h2 j hj
   simp only [bF]
   rw [this]
   cases hb:bF j d with
   |some _=>rfl
   |none=>exact absurd hb (fk hj)
  ·rename_i hc
   obtain ⟨h1,h2⟩:=gp h hn.2.1
   refine ⟨h1,fun j hj=> ?_⟩
   have hjb:j∈ids b:=eC h j hj
   have:j∉ids a:=fun h1=>hn.2.2 j h1 j hjb rfl
   simp only [bF,cX this,h2 j hj]
 | .loop c,d,id,h,hn=>by
  simp only [bF] at h
  obtain ⟨h1,h2⟩:=gp h hn
  exact ⟨h1,fun j hj=>by simp only [bF];exact h2 j hj⟩
 | .block i c,d,id,h,hn=>by
  simp only [ids,List.nodup_cons] at hn
  simp only [bF] at h
  split at h
  ·cases h
   refine ⟨hn.2,fun j hj=> ?_⟩
   have:i≠j:=fun e=>hn.1 (e▸hj)
   simp only [bF,if_neg this]
  ·obtain ⟨h1,h2⟩:=gp h hn.2
   refine ⟨h1,fun j hj=> ?_⟩
   have:i≠j:=fun e=>hn.1 (e▸eC h j hj)
   simp only [bF,if_neg this];exact h2 j hj
 | .skip,_,_,h,_=>by cases h
 | .region ..,_,_,h,_=>by cases h
 | .exit _,_,_,h,_=>by cases h
 | .scope _,_,_,h,_=>by cases h
 | .label _,_,_,h,_=>by cases h
 | .goto _,_,_,h,_=>by cases h
 | .ret,_,_,h,_=>by cases h
 | .refuse _,_,_,h,_=>by cases h
where
 fk: ∀ {c:Code} {j:Nat},j∈ids c->bF j c≠none
  | .seq a b,j,h=>by
   simp only [ids,List.mem_append] at h
   simp only [bF]
   rcases h with h|h
   ·have:=fk h
    split<;>simp_all
   ·have:=fk h
    split<;>simp_all
  | .cond _ a b,j,h=>by
   simp only [ids,List.mem_append] at h
   simp only [bF]
   rcases h with h|h
   ·have:=fk h
    split<;>simp_all
   ·have:=fk h
    split<;>simp_all
  | .rangeFunc _ _ a b,j,h=>by
   simp only [ids,List.mem_append] at h
   simp only [bF]
   rcases h with h|h
   ·have:=fk h
    split<;>simp_all
   ·have:=fk h
    split<;>simp_all
  | .loop c,j,h=>by simp only [ids] at h;simp only [bF];exact fk h
  | .block i c,j,h=>by
   simp only [ids,List.mem_cons] at h
   simp only [bF]
   split
   ·simp
   ·rename_i hi;exact fk (h.resolve_left (Ne.symm hi))
  | .skip,_,h=>by simp [ids] at h
  | .region ..,_,h=>by simp [ids] at h
  | .exit _,_,h=>by simp [ids] at h
  | .scope _,_,h=>by simp [ids] at h
  | .label _,_,h=>by simp [ids] at h
  | .goto _,_,h=>by simp [ids] at h
  | .ret,_,h=>by simp [ids] at h
  | .refuse _,_,h=>by simp [ids] at h
 eC: ∀ {c b:Code} {id:Nat},bF id c=some b-> ∀j∈ids b,j∈ids c
  | .seq a b,d,id,h=>by
   intro j hj
   simp only [bF] at h
   simp only [ids,List.mem_append]
   split at h
   ·rename_i hc;cases h;exact .inl (eC hc j hj)
   ·exact .inr (eC h j hj)
  | .cond _ a b,d,id,h=>by
   intro j hj
   simp only [bF] at h
   simp only [ids,List.mem_append]
   split at h
   ·rename_i hc;cases h;exact .inl (eC hc j hj)
   ·exact .inr (eC h j hj)
  | .rangeFunc _ _ a b,d,id,h=>by
   intro j hj
   simp only [bF] at h
   simp only [ids,List.mem_append]
   split at h
   ·rename_i hc;cases h;exact .inl (eC hc j hj)
   ·exact .inr (eC h j hj)
  | .loop c,d,id,h=>by intro j hj;simp only [bF] at h;simp only [ids];exact eC h j hj
  | .block i c,d,id,h=>by
   intro j hj
   simp only [bF] at h
   simp only [ids,List.mem_cons]
   split at h
   ·cases h;exact .inr hj
   ·exact .inr (eC h j hj)
  | .skip,_,_,h=>by cases h
  | .region ..,_,_,h=>by cases h
  | .exit _,_,_,h=>by cases h
  | .scope _,_,_,h=>by cases h
  | .label _,_,_,h=>by cases h
  | .goto _,_,_,h=>by cases h
  | .ret,_,_,h=>by cases h
  | .refuse _,_,_,h=>by cases h
theorem sO {lp:List (Nat×cy)} {ys:List (Nat×Spec)} {dc:List (Nat×iL)} {c:Code} (hn:(ids c).Nodup) (h:aB P X c lp):pP P ⟨tt,specs,X,lp,ys,dc⟩ c:=
 ic c hn fun id _ sp hs b hb ax W ro n hX hro st K hk ρ a w bz=>by
  have:=h ax W ro n hX id sp hs (by simpa only [bt,hb] using hro) st K hk ρ a w bz
  simp only [bt,hb] at this;exact this
theorem aB.SS {c b:Code} {lp:List (Nat×cy)} {ys:List (Nat×Spec)} {dc:List (Nat×iL)} {id:Nat} {sp:cy} (hl:aB P X c lp) (hn':ew (ids c)=true) (hb:bF id c=some b)
  (h:pP P ⟨tt,specs,X,lp,ys,dc⟩ b-> ∀ax W ro n,yf ax W X->(ro=none\/ kJ b=true)-> ∀st K,sp st K-> ∀ρ a w,Ac ax W st ρ a w->b.wpIn (fw ro) n P (Post ax W (mq id (m7 K))) a w):aB P X c ((id,sp)::lp):=by
 have hn:=eU hn'
 intro ax W ro n hX id' sp' hs hro st K hk ρ a w bz
 unfold aF at hs
 split at hs
 ·rename_i e;subst e;cases hs
  obtain ⟨h1,h2⟩:=gp hb hn
  have:pP P ⟨tt,specs,X,lp,ys,dc⟩ b:=ic b h1 fun j hj sp hs d hd ax W ro n hX hro st K hk ρ a w bz=>by
   have:=hl ax W ro n hX j sp hs (by simpa only [bt,h2 j hj,hd] using hro) st K hk ρ a w bz
   simp only [bt,h2 j hj,hd] at this;exact this
  simp only [bt,hb] at hro ⊢
  exact wpIn_mono (Ao (h this ax W ro n hX hro st K hk ρ a w bz)) fun e a w h=>MS h
 ·exact hl ax W ro n hX id' sp' hs hro st K hk ρ a w bz
theorem aB.cons (hT:br P tt) {lp:List (Nat×cy)} {ys:List (Nat×Spec)} {dc:List (Nat×iL)} (hC:oT P ⟨tt,specs,X,lp,ys,dc⟩) (hm:P.follows .mixedOrders=true) {c b:Code} {id:Nat} {sp:cy} (hl:aB P X c lp) (hn':ew (ids c)=true) (hb:bF id c=some b)
  (h: ∀st K,sp st K->dY ⟨tt,specs,X,lp,ys,dc⟩ b st (mq id (m7 K))):aB P X c ((id,sp)::lp):=
 hl.SS (tt:=tt) (specs:=specs) (ys:=ys) (dc:=dc) hn' hb fun tF ax W ro n hX hro st K hk ρ a w bz=>nM (ctx:=⟨tt,specs,X,lp,ys,dc⟩) hT hC hm b tF ax W ro n hX hro st _ (h st K hk) ρ a w bz
def H8 (tt:List (Nat×TI)) (specs:List (Nat×Spec)) (X:Addr->Value->Prop) (lp:List (Nat×cy)) (ys:List (Nat×Spec)) (dc:List (Nat×iL)) (id:Nat) (c:Code) (N:Nat):cy:=fun st K=>x7 ⟨tt,specs,X,lp,ys,dc⟩ c N st (mq id K)
theorem aB.x7 (hT:br P tt) {lp:List (Nat×cy)} {ys:List (Nat×Spec)} {dc:List (Nat×iL)} (hC:oT P ⟨tt,specs,X,lp,ys,dc⟩) (hm:P.follows .mixedOrders=true) {c b:Code} {id:Nat} (N:Nat) (hl:aB P X c lp) (hn':ew (ids c)=true) (hb:bF id c=some (.loop b)):
  aB P X c ((id,H8 tt specs X lp ys dc id b N)::lp):=by
 have hn:=eU hn'
 intro ax W ro n hX id' sp' hs hro st K hk ρ a w bz
 unfold aF at hs
 split at hs
 ·rename_i e;subst e;cases hs
  obtain ⟨h1,h2⟩:=gp hb hn
  have tF:pP P ⟨tt,specs,X,lp,ys,dc⟩ (.loop b):=ic (.loop b) h1 fun j hj sp hs d hd ax W ro n hX hro st K hk ρ a w bz=>by
   have:=hl ax W ro n hX j sp hs (by simpa only [bt,h2 j hj,hd] using hro) st K hk ρ a w bz
   simp only [bt,h2 j hj,hd] at this;exact this
  simp only [bt,hb] at hro ⊢
  exact Ao (Nn (ctx:=⟨tt,specs,X,lp,ys,dc⟩) hT hC hm b hX hro tF N st _ hk ρ a w bz)
 ·exact hl ax W ro n hX id' sp' hs hro st K hk ρ a w bz
def oJ (tt:List (Nat×TI)) (specs:List (Nat×Spec)) (X:Addr->Value->Prop) (lp:List (Nat×Spec)->List (Nat×cy)) (dc:List (Nat×iL)) (fn:Func):iL:=fun ys args heap R=>ET ⟨tt,specs,X,lp ys,ys,dc⟩ fn args heap R
theorem iA.fn (hT:br P tt) (hS:ah P specs) (hm:P.follows .mixedOrders=true) {f:FuncId} {fn:Func} (hf:P.funcs[f]? =some fn) (hn:ew (ids (bG fn))=true) {lp:List (Nat×Spec)->List (Nat×cy)} {dc:List (Nat×iL)} (hits:aD P X dc)
  (tF: ∀ys,s9 P ys->aB P X (bG fn) (lp ys)):iA P X f (oJ tt specs X lp dc fn):=by
 intro ys args heap R h hy ax W ρ w hX hargs hst
 refine iC (ctx:=⟨tt,specs,X,lp ys,ys,dc⟩) hT ⟨hS,hy,hits⟩ hX hm hf (fun c hc=> ?_) h hargs hst
 have:bG fn=c:=by unfold bG;rw [hc]
 subst this
 exact sO (eU hn) (tF ys hy)
end
section
variable {P:Program}
theorem br.nil:br P []:=fun _ _ h=>by cases h
theorem br.cons {t:TypeId} {i:TI} {l:List (Nat×TI)} (hu:P.underlying t=some i.desc) (hs:0<i.size) (hi:(P.info? t).map (fun q=>(q.size,q.bytes,q.zero))=some (i.size,i.bytes,some i.zero))
  (ha:(!aE i.desc||(!P.stoodInHeld t&& !P.eqGuardType P.depth t))=true) (hl:br P l):br P ((t,i)::l):=by
 intro u j h
 unfold aF at h
 split at h
 ·rename_i e;subst e;cases h
  refine ⟨hu,hs,?_⟩
  cases hq:P.info? t with
  |none=>rw [hq] at hi;cases hi
  |some q=>
   rw [hq] at hi
   simp only [Option.map_some,Option.some.injEq,Prod.mk.injEq] at hi
   refine ⟨q,rfl,hi.1,hi.2.1,hi.2.2,fun mo=> ?_⟩
   rw [mo] at ha
   simpa using ha
 ·exact hl u j h
theorem iS.of {f:FuncId} {fn:Func} (hf:P.funcs[f]? =some fn) (h1:(fn.name== "runtime.NumGoroutine")=false) (h2:fn.body.isNone=false):iS P f:=by
 intro args w
 simp only [callFunc,Sem.run_bind,run_program,Result.andThen_ok,hf,h1,h2,Bool.false_eq_true,if_false,Sem.run_pure]
theorem aD.cons {X:Addr->Value->Prop} {f:FuncId} {Jm:iL} {l:List (Nat×iL)} (he:iS P f) (h:iA P X f Jm) (hl:aD P X l):aD P X ((f,Jm)::l):=by
 intro g q hg
 unfold aF at hg
 split at hg
 ·rename_i e;subst e;cases hg;exact ⟨he,h⟩
 ·exact hl g q hg
end
instance Zu {A B:Type} [Inhabited A]:Inhabited (A⊕B):=⟨.inl default⟩
inductive Term {S R:Type} (step:S->S⊕R) (pre:S->Prop):S->Prop
 |mk (s:S) (hp:pre s) (h: ∀s',step s= .inl s'->Term step pre s'):Term step pre s
def fX {S R:Type} (step:S->S⊕R):Nat->S->Option R
 |0,_=>none
 |n+1,s=>match step s with
  | .inl s'=>fX step n s'
  | .inr r=>some r
theorem Be {S R:Type} {step:S->S⊕R} : ∀(n:Nat) (s:S) (r:R),fX step n s=some r->fX step (n+1) s=some r
 |0,_,_,h=>by cases h
 |n+1,s,r,h=>by
  simp only [fX] at h
  show (match step s with| .inl s'=>fX step (n+1) s'| .inr r=>some r)=some r
  cases hs:step s with
  |inl s'=>rw [hs] at h;exact Be n s' r h
  |inr r'=>rw [hs] at h;exact h
theorem GH {S R:Type} {step:S->S⊕R} {n m:Nat} {s:S} {r:R} (h:fX step n s=some r) (hm:n<=m):fX step m s=some r:=by
  induction m with
  |zero=>   have:n=0:=by omega
            subst this;exact h
  | succ m ih=>
    rcases Nat.lt_or_ge m n with h1|h1
    · have:n=m+1:=by omega
      subst this;exact h
    · exact Be m s r (ih h1)
open Classical in
def run {S R:Type} [Inhabited R] (step:S->S⊕R) (s:S):R:=if h: ∃r n,fX step n s=some r then Classical.choose h else default
theorem BX {S R:Type} [Inhabited R] {step:S->S⊕R} {n:Nat} {s:S} {r:R} (h:fX step n s=some r):run step s=r:=by
 have hx: ∃r n,fX step n s=some r:=⟨r,n,h⟩
 unfold run
 rw [dif_pos hx]
 obtain ⟨m,hm⟩:=Classical.choose_spec hx
 have h1:=GH h (Nat.le_max_left n m)
 have h2:=GH hm (Nat.le_max_right n m)
 rw [h1] at h2
 exact (Option.some.inj h2).symm
theorem run_eq {S R:Type} [Inhabited R] (step:S->S⊕R) (s:S):run step s=match step s with| .inl s'=>run step s'| .inr r=>r:=by
 cases hs:step s with
 |inr r=>exact BX (n:=1) (by simp only [fX,hs])
 |inl s'=>
  dsimp only
  by_cases h: ∃r n,fX step n s'=some r
  ·obtain ⟨r,n,h⟩:=h
   rw [BX h]
   exact BX (n:=n+1) (by simp only [fX,hs,h])
  ·have h2: ¬ ∃r n,fX step n s=some r:=by
    rintro ⟨r,n,hn⟩
    cases n with
    |zero=>cases hn
    |succ n=>simp only [fX,hs] at hn;exact h ⟨r,n,hn⟩
   unfold run
   rw [dif_neg h,dif_neg h2]
theorem Term.iter {S R:Type} {step:S->S⊕R} {pre:S->Prop} {s:S} (h:Term step pre s): ∃r n,fX step n s=some r:=by
 induction h with
 |mk s hp h ih=>
  cases hs:step s with
  |inr r=>exact ⟨r,1,by simp only [fX,hs]⟩
  |inl s'=>
   obtain ⟨r,n,hn⟩:=ih s' hs
   exact ⟨r,n+1,by simp only [fX,hs,hn]⟩
theorem Term.of {S R:Type} {step:S->S⊕R} {pre:S->Prop} (J:S->Prop) (μ:S->Nat) (h: ∀s,J s->pre s/\ ∀s',step s= .inl s'->J s'/\ μ s'<μ s): ∀s,J s->Term step pre s:=by
 intro s hs
 obtain ⟨n,hn⟩: ∃n,n=μ s:=⟨_,rfl⟩
 induction n using Nat.strongRecOn generalizing s with
 |_ n ih=>
  obtain ⟨h1,h2⟩:=h s hs
  exact ⟨s,h1,fun s' hs'=>by
   obtain ⟨h3,h4⟩:=h2 s' hs'
   exact ih (μ s') (by omega) s' h3 rfl⟩
def cS {A B:Type} (r:A⊕B) (p:A->Prop) (q:B->Prop):Prop:=match r with
 | .inl a=>p a
 | .inr b=>q b
def Fb {S R:Type} [Inhabited R] (tm:S->AS) (step:S->S⊕R) (pre:S->Prop) (out:R->(Exit->AS->Prop)->Prop):cy:=fun st K=> ∃s0,s8 st (tm s0)/\ Term step pre s0/\ ∀r,r=run step s0->out r K
def KB (id:Nat) (K:Exit->AS->Prop) (KN:AS->Prop) (e:Exit) (st:AS):Prop:=match e with
 | .normal=> ∃st',s8 st st'/\ KN st'
 |e=>mq id (m7 K) e st
def pL {S R:Type} (tm:S->AS) (out:R->(Exit->AS->Prop)->Prop) (K:Exit->AS->Prop) (KN:AS->Prop) (v:S⊕R):Prop:=match v with
 | .inl s=>KN (tm s)
 | .inr r=>out r K
theorem MA {S R:Type} [Inhabited R] {ctx:Ctx} {c:Code} {id:Nat} {tm:S->AS} {step:S->S⊕R} {pre:S->Prop} {out:R->(Exit->AS->Prop)->Prop}
  (hr: ∀s K KN,pre s->pL tm out K KN (step s)->dY ctx c (tm s) (KB id K KN)) (st:AS) (K:Exit->AS->Prop) (h:Fb tm step pre out st K):dY ctx (.loop c) st (mq id (m7 K)):=by
 obtain ⟨s0,hw,ht,hk⟩:=h
 obtain ⟨r,n,hn⟩:=ht.iter
 have YY:=BX hn
 refine ⟨fun m st=> ∃s,st=tm s/\ Term step pre s/\ fX step m s=some r,⟨n,_,hw,s0,rfl,ht,hn⟩,?_⟩
 rintro m pO ⟨s,rfl,hts,hm⟩
 have e:(fun (e:Exit) (xn:AS)=>match e with| .normal=> ∃m' st',m'<m/\ s8 xn st'/\ ∃s,st'=tm s/\ Term step pre s/\ fX step m' s=some r|e=>mq id (m7 K) e xn)=
   KB id K fun st'=> ∃m',m'<m/\ ∃s,st'=tm s/\ Term step pre s/\ fX step m' s=some r:=by
  funext e xn
  cases e<;>try rfl
  refine propext ⟨?_,?_⟩
  ·rintro ⟨m',st',h1,h2,h3⟩;exact ⟨st',h2,m',h1,h3⟩
  ·rintro ⟨st',h2,m',h1,h3⟩;exact ⟨m',st',h1,h2,h3⟩
 refine e▸hr s K _ ?_ ?_
 ·cases hts with|mk _ hp _=>exact hp
 ·match m,hm with
  |0,hm=>cases hm
  |m+1,hm=>
   simp only [fX] at hm
   cases hs:step s with
   |inl s'=>
    rw [hs] at hm
    cases hts with|mk _ _ h=>exact ⟨m,by omega,s',rfl,h s' hs,hm⟩
   |inr r'=>
    rw [hs] at hm
    have:r'=run step s0:=by rw [YY];exact Option.some.inj hm
    exact hk r' this
def fh:Addr->Value->Prop:=fun _ _=>False
theorem fh.ok (ax:iV) (W:World):yf ax W fh:=fun _ _ h=>h.elim
theorem pY (rk:Nat) {ρ ρ':Env} {d:Nat} : ∀(cs:List cn) (nm:Nat),(∀i,i<(cl rk nm cs).2.length->ρ' (nm+i+d)=ρ (nm+i))->(cl rk (nm+d) cs).1.map (Cell.af ρ')=(cl rk nm cs).1.map (Cell.af ρ)/\ (cl rk (nm+d) cs).2=(cl rk nm cs).2
 | [],nm,_=>⟨rfl,rfl⟩
 | .flat v::r,nm,h=>by
  obtain ⟨h1,h2⟩:=pY rk (d:=d) r nm h
  simp only [cl,List.map_cons,h1,h2];exact ⟨rfl,trivial⟩
 | .sl u l::r,nm,h=>by
  have h0:=h 0 (by simp [cl])
  obtain ⟨h1,h2⟩:=pY rk (ρ:=ρ) (ρ':=ρ') (d:=d) r (nm+1) fun i hi=>by
   have:=h (i+1) (by simpa [cl] using hi)
   rwa [show nm+(i+1)+d=nm+1+i+d by omega,show nm+(i+1)=nm+1+i by omega] at this
  rw [Nat.add_zero] at h0
  rw [show nm+1+d=nm+d+1 by omega] at h1 h2
  simp only [cl,List.map_cons,h1,h2,Cell.af,h0];exact ⟨trivial,trivial⟩
theorem vj (rk:Nat): ∀(cs:List cn) (nm:Nat),∀c∈(cl rk nm cs).1,c.ok fun m=>nm<=m/\ m<nm+(cl rk nm cs).2.length
 | [],nm,c,h=>by simp [cl] at h
 | .flat v::r,nm,c,h=>by
  simp only [cl,List.mem_cons] at h
  rcases h with rfl|h
  ·trivial
  ·exact vj rk r nm c h
 | .sl u l::r,nm,c,h=>by
  simp only [cl,List.mem_cons] at h
  rcases h with rfl|h
  ·simp only [cl,List.length_cons,Cell.ok];omega
  ·exact Cell.aZ (fun m hm=>by simp only [cl,List.length_cons];omega) c (vj rk r (nm+1) c h)
theorem sB (rk:Nat): ∀(cs:List cn) (nm:Nat),∀o∈(cl rk nm cs).2,∃u,∃l:List u.T,o= .row u l rk
 | [],nm,o,h=>by simp [cl] at h
 | .flat v::r,nm,o,h=>sB rk r nm o h
 | .sl u l::r,nm,o,h=>by
  simp only [cl,List.mem_cons] at h
  rcases h with rfl|h
  ·exact ⟨u,l,rfl⟩
  ·exact sB rk r (nm+1) o h
theorem Da {a:Bool} {cs cs':List Cell} {ρ ρ':Env} (h:cs'.map (Cell.af ρ')=cs.map (Cell.af ρ)):(nH a cs').af ρ'=(nH a cs).af ρ:=by
 have hl:cs'.length=cs.length:=by simpa using congrArg List.length h
 cases a with
 |true=>simp only [nH,A0.af,h]
 |false=>
  match cs,cs',hl with
  | [],[],_=>rfl
  | [c],[c'],_=>simp only [List.map_cons,List.map_nil,List.cons.injEq,and_true] at h;simp only [nH,A0.af,h]
  |_::_::_,_::_::_,_=>simp only [nH,A0.af,h]
theorem Ki {a:Bool} {cs:List Cell} {Kn:Nat->Prop} (h: ∀c∈cs,c.ok Kn):(nH a cs).ok Kn:=by
 cases a with
 |true=>exact h
 |false=>
  match cs,h with
  | [],h=>exact h
  | [c],h=>exact h c (by simp)
  |_::_::_,h=>exact h
def mF.res:mF->Bool
 | .ptr _=>false
 | .kq _ _=>false
 | .mv _ _ _=>false
 | .pair a b=>a.res&&b.res
 |_=>true
theorem fM (rk:Nat) {ρ ρ':Env} {d:Nat} : ∀(p:mF) (x:p.ty.T) (nm:Nat),p.res=true->(∀i,i<(aT rk nm p x).2.length->ρ' (nm+i+d)=ρ (nm+i))->(aT rk (nm+d) p x).1.map (A0.af ρ')=(aT rk nm p x).1.map (A0.af ρ)/\ (aT rk (nm+d) p x).2=(aT rk nm p x).2
 | .one t,x,nm,_,h=>by
  obtain ⟨h1,h2⟩:=pY rk (ρ:=ρ) (ρ':=ρ') (d:=d) (t.aI x) nm h
  simp only [aT,List.map_cons,List.map_nil,Da h1,h2];exact ⟨trivial,trivial⟩
 | .agg t,x,nm,_,h=>by
  obtain ⟨h1,h2⟩:=pY rk (ρ:=ρ) (ρ':=ρ') (d:=d) (t.aI x) nm h
  simp only [aT,List.map_cons,List.map_nil,Da h1,h2];exact ⟨trivial,trivial⟩
 | .ptr t,x,nm,hr,h=>by cases hr
 | .kq f p,x,nm,hr,h=>by cases hr
 | .mv f agg t,x,nm,hr,h=>by cases hr
 | .pair a b,x,nm,hr,h=>by
  simp only [mF.res,Bool.and_eq_true] at hr
  obtain ⟨h1,h2⟩:=fM rk (ρ:=ρ) (ρ':=ρ') (d:=d) a x.1 nm hr.1 fun i hi=>h i (by simp only [aT,List.length_append];omega)
  obtain ⟨h3,h4⟩:=fM rk (ρ:=ρ) (ρ':=ρ') (d:=d) b x.2 (nm+(aT rk nm a x.1).2.length) hr.2 fun i hi=>by
   have:=h ((aT rk nm a x.1).2.length+i) (by simp only [aT,List.length_append];omega)
   rwa [<- Nat.add_assoc nm] at this
  rw [show nm+(aT rk nm a x.1).2.length+d=nm+d+(aT rk nm a x.1).2.length by omega] at h3 h4
  simp only [aT,List.map_append,h1,h2,h3,h4];exact ⟨trivial,trivial⟩
 | .none,x,nm,_,h=>⟨rfl,rfl⟩
theorem gH (rk:Nat): ∀(p:mF) (x:p.ty.T) (nm:Nat),∀c∈(aT rk nm p x).1,c.ok fun m=>nm<=m/\ m<nm+(aT rk nm p x).2.length
 | .one t,x,nm,c,h=>by
  simp only [aT,List.mem_singleton] at h
  subst h;exact Ki (vj rk _ nm)
 | .agg t,x,nm,c,h=>by
  simp only [aT,List.mem_singleton] at h
  subst h;exact Ki (vj rk _ nm)
 | .ptr t,x,nm,c,h=>by
  simp only [aT,List.mem_singleton] at h
  subst h;simp only [aT,List.length_singleton,A0.ok,Cell.ok];omega
 | .mv f agg t,x,nm,c,h=>by
  simp only [aT,List.mem_singleton] at h
  subst h
  intro q hq
  obtain ⟨a,ha,rfl⟩:=List.mem_map.1 hq
  have:=vj rk (t.aI x) nm a ha
  unfold P6
  split
  ·trivial
  ·exact this
  ·trivial
 | .kq f p,x,nm,c,h=>by
  simp only [aT,List.mem_singleton] at h
  subst h
  intro q hq
  obtain ⟨a,ha,rfl⟩:=List.mem_map.1 hq
  have:=gH rk p x nm a ha
  unfold Hq
  split
  ·exact this
  ·trivial
 | .pair a b,x,nm,c,h=>by
  simp only [aT,List.mem_append] at h
  rcases h with h|h
  ·exact A0.aZ (fun m hm=>by simp only [aT,List.length_append];omega) c (gH rk a x.1 nm c h)
  ·exact A0.aZ (fun m hm=>by simp only [aT,List.length_append];omega) c (gH rk b x.2 _ c h)
 | .none,x,nm,c,h=>by simp [aT] at h
theorem o8 (rk:Nat): ∀(p:mF) (x:p.ty.T) (nm:Nat),p.res=true-> ∀o∈(aT rk nm p x).2,∃u,∃l:List u.T,o= .row u l rk
 | .one t,x,nm,_,o,h=>sB rk _ nm o h
 | .agg t,x,nm,_,o,h=>sB rk _ nm o h
 | .ptr t,x,nm,hr,o,h=>by cases hr
 | .kq f p,x,nm,hr,o,h=>by cases hr
 | .mv f agg t,x,nm,hr,o,h=>by cases hr
 | .pair a b,x,nm,hr,o,h=>by
  simp only [mF.res,Bool.and_eq_true] at hr
  simp only [aT,List.mem_append] at h
  rcases h with h|h
  ·exact o8 rk a x.1 nm hr.1 o h
  ·exact o8 rk b x.2 _ hr.2 o h
 | .none,x,nm,_,o,h=>by simp [aT] at h
theorem pC {l l':List A0} {ρ ρ':Env} (h:l'.map (A0.af ρ')=l.map (A0.af ρ)):(iq l').af ρ'=(iq l).af ρ:=by
 have hl:l'.length=l.length:=by simpa using congrArg List.length h
 match l,l',hl with
 | [],[],_=>rfl
 | [c],[c'],_=>simp only [List.map_cons,List.map_nil,List.cons.injEq,and_true] at h;simp only [iq,AV.af,h]
 |_::_::_,_::_::_,_=>simp only [iq,AV.af,h]
theorem wC {l:List A0} {Kn:Nat->Prop} (h: ∀c∈l,c.ok Kn):(iq l).ok Kn:=by
 match l,h with
 | [],h=>exact h
 | [c],h=>exact h c (by simp)
 |_::_::_,h=>exact h
theorem St.grow {ax:iV} {W:World} {ρ aY:Env} {Kn:Nat->Prop} {Γ:HP} {w w':World} {nm:Nat} {os:List aG} {v:AV} {tc:List Nat} (h:St ax W ρ Kn Γ w) (hn: ∀i,i<os.length-> ¬Kn (nm+i)) (hrow: ∀o∈os,∃u,∃l:List u.T,o= .row u l 2) (h1:St zC w aY (· <os.length) (aj os) w'):
  ∃ρ',(∀m,Kn m->ρ' m=ρ m)/\ (∀n,n<os.length->ρ' (n+nm)=aY n)/\ St ax W ρ' (iQ Kn nm {val:=v,fresh:=os,az:=tc}) (bB {val:=v,fresh:=os,az:=tc} nm Γ) w':=by
 let ρ':Env:=fun m=>if nm<=m/\ m<nm+os.length then aY (m- nm) else ρ m
 have hold: ∀m,Kn m->ρ' m=ρ m:=fun m hm=>by
  simp only [ρ']
  rw [if_neg]
  rintro ⟨h2,h3⟩
  exact hn (m- nm) (by omega) (by rw [show nm+(m- nm)=m by omega];exact hm)
 have hnew: ∀n,n<os.length->ρ' (n+nm)=aY n:=fun n hn=>by
  simp only [ρ']
  rw [if_pos (by omega),show n+nm- nm=n by omega]
 have bV: ∀m o,bB {val:=v,fresh:=os,az:=tc} nm Γ m=some o->(∃n,m=n+nm/\ n<os.length/\ aj os n=some o/\ ∃u,∃l:List u.T,o= .row u l 2)\/ (Γ m=some o/\ Kn m):=by
  intro m o ho
  simp only [bB,bW] at ho
  split at ho
  ·rename_i hc
   have hlt:m- nm<os.length:=by omega
   refine .inl ⟨m- nm,by omega,hlt,by rw [bX];exact ho,?_⟩
   rw [List.getElem?_eq_getElem hlt] at ho
   obtain ⟨u,l,e⟩:=hrow _ (List.getElem_mem hlt)
   rw [e] at ho
   simp only [live,Option.some.injEq] at ho
   exact ⟨u,l,ho.symm⟩
  ·exact .inr ⟨ho,(h.kn m o ho).1⟩
 have QJ: ∀b,b<w.heap.size->w'.heap[b]? =w.heap[b]? :=fun b hb=>h1.fr.block b hb id
 have hnb: ∀n b,n<os.length->(aj os n).isSome=true->(aY n).has b->w.heap.size<=b:=fun n b _ hs hb=>by
  rcases h1.jR n b hs hb with h2|h2
  ·exact h2
  ·exact h2.elim
 have kD: ∀m o b,Γ m=some o->(ρ m).has b->b<w.heap.size:=fun m o b ho hb=>h.lt m b (by rw [ho];rfl) hb
 have Me: ∀b,QE ρ' (bB {val:=v,fresh:=os,az:=tc} nm Γ) b->(w.heap.size<=b/\ QE aY (aj os) b)\/ (b<w.heap.size/\ QE ρ Γ b):=by
  rintro b ⟨m,h2,h3⟩
  obtain ⟨o,ho⟩:=Option.isSome_iff_exists.1 h2
  rcases bV m o ho with ⟨n,rfl,kC,hp,_⟩|⟨hg,hk⟩
  ·rw [hnew n kC] at h3
   exact .inl ⟨hnb n b kC (by rw [hp];rfl) h3,n,by rw [hp];rfl,h3⟩
  ·rw [hold m hk] at h3
   exact .inr ⟨kD m o b hg h3,m,by rw [hg];rfl,h3⟩
 have qG: ∀b,HI (bB {val:=v,fresh:=os,az:=tc} nm Γ) b->HI Γ b:=fun b ⟨m,S,h2,h3⟩=>by
  rcases bV m _ h2 with ⟨n,_,_,_,u,l,e⟩|⟨hg,hk⟩
  ·cases e
  ·exact ⟨m,S,hg,h3⟩
 have Xw: ∀b,LO ρ' (bB {val:=v,fresh:=os,az:=tc} nm Γ) b->(w.heap.size<=b/\ LO aY (aj os) b)\/ (b<w.heap.size/\ LO ρ Γ b):=by
  rintro b (h2|h2)
  ·exact (Me b h2).imp (fun h=>⟨h.1,.inl h.2⟩) (fun h=>⟨h.1,.inl h.2⟩)
  ·exact .inr ⟨(h.rH b (qG b h2)).1,.inr (qG b h2)⟩
 have hsz:=h.fr.size
 have ON:=h1.fr.size
 have hfz: ∀b,eo ρ Γ w b->eo ρ' (bB {val:=v,fresh:=os,az:=tc} nm Γ) w' b/\ w'.heap[b]? =w.heap[b]? :=fun b hb=>by
  have hlt:=hb.1.lt
  refine ⟨⟨hb.1.same (QJ b hlt),fun hl=> ?_⟩,QJ b hlt⟩
  rcases Xw b hl with ⟨h2,_⟩|⟨_,h2⟩
  ·omega
  ·exact hb.2 h2
 have IW: ∀b,eo aY (aj os) w' b->qP zC w b->eo ρ' (bB {val:=v,fresh:=os,az:=tc} nm Γ) w' b/\ qP ax W b:=fun b hb hp=>by
  have hge:w.heap.size<=b:=by
   rcases hp with h2|h2|h2
   ·exact h2
   ·exact h2.elim
   ·exact h2.elim
  refine ⟨⟨hb.1,fun hl=> ?_⟩,.inl (by omega)⟩
  rcases Xw b hl with ⟨_,h2⟩|⟨h2,_⟩
  ·exact hb.2 h2
  ·omega
 have Ud: ∀m:Nat,m<os.length->iQ Kn nm {val:=v,fresh:=os,az:=tc} (m+nm):=fun m hm=> .inr (by simp only [];omega)
 refine ⟨ρ',hold,hnew,⟨?_,fun m o ho=> ?_,fun m o ho=> ?_,fun m m' b hm hm' fg fV=> ?_,fun m b hm hb=> ?_,fun b hh=> ?_,fun m o ho=> ?_⟩⟩
 rotate_right
 ·rcases bV m o ho with ⟨n,rfl,kC,hp,_⟩|⟨hg,hk⟩
  ·rw [hnew n kC];exact h1.qI n o hp
  ·rw [hold m hk];exact h.qI m o hg
 rotate_right
 ·obtain ⟨h2,h3⟩:=h.rH b (qG b hh)
  refine ⟨by omega,fun h4=> ?_⟩
  rcases Me b h4 with ⟨h5,_⟩|⟨_,h5⟩
  ·omega
  ·exact h3 h5
 ·exact h.fr.trans h1.fr.Fp
 ·rcases bV m o ho with ⟨n,rfl,kC,hp,u,l,rfl⟩|⟨hg,hk⟩
  ·obtain ⟨g1,g2,g3,sub,g4,g5,g6,g7⟩:=h1.at_ n _ hp
   rw [aX,hnew n kC]
   exact ⟨g1,g2,g3,sub,fun i x hi=>by
    obtain ⟨a,e1,e2,_⟩:=g4 i x hi
    exact ⟨a,e1,e2,fun h=>by cases h⟩,fun q u' l' hq=>(g5 q u' l' hq).weak fun b hb=>by
     obtain ⟨e1,e2⟩:=IW b hb.1 (hb.2 rfl).1
     exact ⟨e1,fun _=>⟨e2,(hb.2 rfl).2⟩⟩,g6,g7⟩
  ·exact ct (Kn:=Kn) (h.at_ m o hg) hold hk (h.kn m o hg).2 hfz (fun _ _ h=>h) fun b hb=>QJ b (kD m o b hg hb)
 ·rcases bV m o ho with ⟨n,rfl,kC,hp,u,l,rfl⟩|⟨hg,hk⟩
  ·exact ⟨Ud n kC,trivial⟩
  ·exact ⟨.inl hk,aG.aZ (fun _=> .inl) o (h.kn m o hg).2⟩
 ·obtain ⟨o,ho⟩:=Option.isSome_iff_exists.1 hm
  obtain ⟨o',tG⟩:=Option.isSome_iff_exists.1 hm'
  rcases bV m o ho with ⟨n,rfl,kC,hp,_⟩|⟨hg,hk⟩
  ·rw [hnew n kC] at fg
   rcases bV m' o' tG with ⟨n',rfl,Rv,fI,_⟩|⟨Wf,hk'⟩
   ·rw [hnew n' Rv] at fV
    rw [h1.cW n n' b (by rw [hp];rfl) (by rw [fI];rfl) fg fV]
   ·rw [hold m' hk'] at fV
    have:=hnb n b kC (by rw [hp];rfl) fg
    have:=kD m' o' b Wf fV
    omega
  ·rw [hold m hk] at fg
   rcases bV m' o' tG with ⟨n',rfl,Rv,fI,_⟩|⟨Wf,hk'⟩
   ·rw [hnew n' Rv] at fV
    have:=hnb n' b Rv (by rw [fI];rfl) fV
    have:=kD m o b hg fg
    omega
   ·rw [hold m' hk'] at fV
    exact h.cW m m' b (by rw [hg];rfl) (by rw [Wf];rfl) fg fV
 ·obtain ⟨o,ho⟩:=Option.isSome_iff_exists.1 hm
  rcases bV m o ho with ⟨n,rfl,kC,hp,_⟩|⟨hg,hk⟩
  ·rw [hnew n kC] at hb
   have:=hnb n b kC (by rw [hp];rfl) hb
   exact .inl (by omega)
  ·rw [hold m hk] at hb
   exact h.jR m b (by rw [hg];rfl) hb
section
variable {P:Program} {tt:List (Nat×TI)} {specs:List (Nat×Spec)}
theorem av.ZG (hT:br P tt) (hS:ah P specs) (hm:P.follows .mixedOrders=true) {f:FuncId} {fn:Func} (hf:P.funcs[f]? =some fn) (hn:ew (ids (bG fn))=true) {s:jh} (hres:s.r.res=true)
  (h: ∀x,s.pre x-> ∃lp dc,aD P fh dc/\ aB P fh (bG fn) lp/\ ET ⟨tt,specs,fh,lp,[],dc⟩ fn (fH s.p x) (fW s.p x) (JN s.r (· =s.f x))):av P f (aH s):=by
 intro X args hp nm k hs
 unfold aH at hs
 split at hs
 rotate_left
 ·exact hs.elim
 rename_i x tc b hd
 obtain ⟨rfl,hpre,hk⟩:=bh hs
 have hk:=hk _ rfl
 obtain ⟨as,e,hargs⟩:=mI s.p _ _ _ _ hd
 rw [List.append_nil] at e
 subst e
 refine ⟨_,⟨fun p fI=>absurd fI (by simp),?_⟩,hk⟩
 intro ax W ρ Kn Γ w _ _ ht hfr hst
 obtain ⟨xs,hg,hc⟩:=hargs ax W ρ Kn Γ w ht hst 0
 have hb:=St.begin hg
 obtain ⟨lp,dc,hi,hl,hfn⟩:=h x hpre
 have hcs:=hc (fun n=>xs.getD n {}) fun i y hy=>by simp [hy]
 have key:=iC (ctx:=⟨tt,specs,fh,lp,[],dc⟩) hT ⟨hS,s9.nil P,hi⟩ (fh.ok zC w) hm hf (fun c hc=>by
  have:bG fn=c:=by unfold bG;rw [hc]
  subst this
  exact sO (eU hn) hl) hfn (fun y hy=>by
   obtain ⟨a,ha,rfl⟩:=List.mem_map.1 hy
   exact A0.aZ (fun m hm=>by simpa [fW] using hm.2) a (gH 0 s.p x 0 a ha)) hb
 have ea:(fH s.p x).map (AV.af fun n=>xs.getD n {})=args.map (AV.af ρ):=by
  rw [hcs];simp [fH,AV.af,Function.comp_def]
 rw [ea] at key
 refine key.mono ?_
 rintro e w' ⟨st,aY,v,rfl,hv,hR,lY⟩
 obtain ⟨y,rfl,hw⟩:=MZ hR
 have bz:nD zC w [] ⟨[v],st.heap⟩ aY {tmps:= #[v.af aY],defers:= []} w':=by
  refine ⟨fun t _=> ?_,rfl,rfl,fun t=> ?_,lY⟩
  ·match t with
   |0=>rfl
   |t+1=>rfl
  ·match t with
   |0=>exact hv
   |t+1=>exact qD _
 obtain ⟨mc,lX⟩:=bz.weak hw
 have Gw:=o8 2 s.r (s.f x) 0 hres
 have vy:=fun d=>(fM 2 (ρ:=mc) (ρ':=fun m=>mc (m- d)) (d:=d) s.r (s.f x) 0 hres fun i _=>by simp).2
 have hlen:(aT 2 nm s.r (s.f x)).2=(aT 2 0 s.r (s.f x)).2:=by simpa using vy nm
 obtain ⟨ρ',r1,r2,r3⟩:=St.grow (v:=iq (aT 2 nm s.r (s.f x)).1) (tc:=tc) (nm:=nm) hst (fun i hi=>hfr i (by rw [hlen];exact hi)) Gw lX.st
 have hsh:=(fM 2 (ρ:=mc) (ρ':=ρ') (d:=nm) s.r (s.f x) 0 hres fun i hi=>by rw [Nat.zero_add];exact r2 i hi).1
 rw [Nat.zero_add] at hsh
 refine ⟨ρ',?_,r1,?_,?_⟩
 ·congr 1
  have h1:=lX.tmps 0 (by
   show iq _≠_
   generalize (aT 2 0 s.r (s.f x)).1=l
   match l with
   | []=>exact fun h=>by cases h
   | [_]=>exact fun h=>by cases h
   |_::_::_=>exact fun h=>by cases h)
  have h2:v.af aY=(iq (aT 2 0 s.r (s.f x)).1).af mc:=h1
  rw [h2]
  exact (pC hsh).symm
 ·exact wC fun c hc=>A0.aZ (fun m hm=> .inr (by simpa using hm)) c (gH 2 s.r (s.f x) nm c hc)
 ·rw [hlen];exact r3
end
end Go.Ev
