/- Functions of typed values, out of 'fnE': blocks, loops. -/
import Derived.Test.YtlkgabjhkfhgaaaGreatEvK
noncomputable section
set_option linter.unusedSectionVars false
set_option linter.unusedVariables false
set_option linter.unusedSimpArgs false
namespace Go.Ev
open Go.RowKit
abbrev ae (n:Int):Int:=IntKind.wrap .i64 n
abbrev ci (n:Int):Cell:= .raw (.int .i64 n)
abbrev vi (n:Int):AV:= .v (.one (.raw (.int .i64 n)))
abbrev vb (b:Bool):AV:= .v (.one (.raw (.bool b)))
theorem aL {n:Int} (h1: -9223372036854775808<=n) (h2:n<=9223372036854775807):ae n=n:=by rw [ae,IntKind.wrap_i64];omega
def cI:Code->Code| .block _ c=>c| .loop c=>c|c=>c
def cj (fn:Func):Code:=match fn.body with|some c=>c|none=> .skip
def ids:Code->List Nat
 | .seq a b=>ids a++ids b
 | .cond _ a b=>ids a++ids b
 | .loop c=>ids c
 | .block id c=>id::ids c
 | .rangeFunc _ _ a b=>ids a++ids b
 |_=> []
def bA (id:Nat):Code->Option Code
 | .seq a b=>match bA id a with|some c=>some c|none=>bA id b
 | .cond _ a b=>match bA id a with|some c=>some c|none=>bA id b
 | .loop c=>bA id c
 | .block i c=>if i=id then some c else bA id c
 | .rangeFunc _ _ a b=>match bA id a with|some c=>some c|none=>bA id b
 |_=>none
def bW (id:Nat) (c:Code):Code:=match bA id c with|some c=>c|none=> .skip
def ff:List Nat->Bool
 | []=>true
 |x::r=> !r.contains x&&ff r
theorem eJ: ∀ {l:List Nat},ff l=true->l.Nodup
 | [],_=>List.nodup_nil
 |x::r,h=>by
  simp only [ff,Bool.and_eq_true,Bool.not_eq_true',List.contains_eq_mem,decide_eq_false_iff_not] at h
  exact List.nodup_cons.2 ⟨h.1,eJ h.2⟩
section
variable {P:Program} {tt:List (Nat×TI)} {specs:List (Nat×Spec)} {X:Addr->Value->Prop}
def aB (P:Program) (X:Addr->Value->Prop) (c:Code) (lp:List (Nat×iw)):Prop:=
 ∀ay W ro n,yw ay W X-> ∀id sp,aJ lp id=some sp->(ro=none\/ ko (bW id c)=true)-> ∀st K,sp st K-> ∀ρ a w,At ay W st ρ a w->(Code.block id (bW id c)).wpIn (fw ro) n P (Post ay W K) a w
theorem cD: ∀ {c:Code} {id:Nat},id∉ids c->bA id c=none
 | .seq a b,id,h=>by
  simp only [ids,List.mem_append,not_or] at h
  simp only [bA,cD h.1,cD h.2]
 | .cond _ a b,id,h=>by
  simp only [ids,List.mem_append,not_or] at h
  simp only [bA,cD h.1,cD h.2]
 | .rangeFunc _ _ a b,id,h=>by
  simp only [ids,List.mem_append,not_or] at h
  simp only [bA,cD h.1,cD h.2]
 | .loop c,id,h=>by simp only [ids] at h;simp only [bA,cD h]
 | .block i c,id,h=>by
  simp only [ids,List.mem_cons,not_or] at h
  simp only [bA,if_neg (Ne.symm h.1),cD h.2]
 | .skip,_,_=>rfl
 | .region ..,_,_=>rfl
 | .exit _,_,_=>rfl
 | .scope _,_,_=>rfl
 | .label _,_,_=>rfl
 | .goto _,_,_=>rfl
 | .ret,_,_=>rfl
 | .refuse _,_,_=>rfl
theorem gV {lp:List (Nat×iw)} {ys:List (Nat×Spec)} {dR:List (Nat×eV)} : ∀(c:Code),(ids c).Nodup->
  (∀id∈ids c,∀sp,aJ lp id=some sp-> ∀b,bA id c=some b-> ∀ay W ro n,yw ay W X->(ro=none\/ ko b=true)-> ∀st K,sp st K-> ∀ρ a w,At ay W st ρ a w->(Code.block id b).wpIn (fw ro) n P (Post ay W K) a w)->
  pg P ⟨tt,specs,X,lp,ys,dR⟩ c
 | .seq a b,hn,h=>by
  simp only [ids,List.nodup_append] at hn
  refine ⟨gV a hn.1 fun id hi sp hs c hc=>h id (by simp [ids,hi]) sp hs c (by simp only [bA,hc]),gV b hn.2.1 fun id hi sp hs c hc=>h id (by simp [ids,hi]) sp hs c ?_⟩
  have:id∉ids a:=fun h1=>hn.2.2 id h1 id hi rfl
  simp only [bA,cD this,hc]
 | .cond _ a b,hn,h=>by
  simp only [ids,List.nodup_append] at hn
  refine ⟨gV a hn.1 fun id hi sp hs c hc=>h id (by simp [ids,hi]) sp hs c (by simp only [bA,hc]),gV b hn.2.1 fun id hi sp hs c hc=>h id (by simp [ids,hi]) sp hs c ?_⟩
  have:id∉ids a:=fun h1=>hn.2.2 id h1 id hi rfl
  simp only [bA,cD this,hc]
 | .rangeFunc _ _ a b,hn,h=>by
  simp only [ids,List.nodup_append] at hn
  refine ⟨gV a hn.1 fun id hi sp hs c hc=>h id (by simp [ids,hi]) sp hs c (by simp only [bA,hc]),gV b hn.2.1 fun id hi sp hs c hc=>h id (by simp [ids,hi]) sp hs c ?_⟩
  have:id∉ids a:=fun h1=>hn.2.2 id h1 id hi rfl
  simp only [bA,cD this,hc]
 | .loop c,hn,h=>gV c hn fun id hi sp hs b hb=>h id hi sp hs b hb
 | .block i c,hn,h=>by
  simp only [ids,List.nodup_cons] at hn
  unfold pg
  split
  ·rename_i hs
   refine gV c hn.2 fun id hi sp hs' b hb=>h id (by simp [ids,hi]) sp hs' b ?_
   have:i≠id:=fun e=>hn.1 (e▸hi)
   simp only [bA,if_neg this,hb]
  ·rename_i sp hs
   exact h i (by simp [ids]) sp hs c (by simp [bA])
 | .skip,_,_=>trivial
 | .region ..,_,_=>trivial
 | .exit _,_,_=>trivial
 | .scope _,_,_=>trivial
 | .label _,_,_=>trivial
 | .goto _,_,_=>trivial
 | .ret,_,_=>trivial
 | .refuse _,_,_=>trivial
theorem aB.nil {c:Code} :aB P X c []:=fun _ _ _ _ _ _ _ h=>by cases h
theorem gb: ∀ {c b:Code} {id:Nat},bA id c=some b->(ids c).Nodup->(ids b).Nodup/\ ∀j∈ids b,bA j c=bA j b
 | .seq a b,d,id,h,hn=>by
  simp only [ids,List.nodup_append] at hn
  simp only [bA] at h
  split at h
  ·rename_i hc
   cases h
   obtain ⟨h1,h2⟩:=gb hc hn.1
   refine ⟨h1,fun j hj=> ?_⟩
   have:=h2 j hj
   simp only [bA]
   rw [this]
   cases hb:bA j d with
   |some _=>rfl
   |none=>exact absurd hb (eX hj)
  ·rename_i hc
   obtain ⟨h1,h2⟩:=gb h hn.2.1
   refine ⟨h1,fun j hj=> ?_⟩
   have hjb:j∈ids b:=dY h j hj
   have:j∉ids a:=fun h1=>hn.2.2 j h1 j hjb rfl
   simp only [bA,cD this,h2 j hj]
 | .cond _ a b,d,id,h,hn=>by
  simp only [ids,List.nodup_append] at hn
  simp only [bA] at h
  split at h
  ·rename_i hc
   cases h
   obtain ⟨h1,h2⟩:=gb hc hn.1
   refine ⟨h1,fun j hj=> ?_⟩
   have:=h2 j hj
   simp only [bA]
   rw [this]
   cases hb:bA j d with
   |some _=>rfl
   |none=>exact absurd hb (eX hj)
  ·rename_i hc
   obtain ⟨h1,h2⟩:=gb h hn.2.1
   refine ⟨h1,fun j hj=> ?_⟩
   have hjb:j∈ids b:=dY h j hj
   have:j∉ids a:=fun h1=>hn.2.2 j h1 j hjb rfl
   simp only [bA,cD this,h2 j hj]
 | .rangeFunc _ _ a b,d,id,h,hn=>by
  simp only [ids,List.nodup_append] at hn
  simp only [bA] at h
  split at h
  ·rename_i hc
   cases h
   obtain ⟨h1,h2⟩:=gb hc hn.1
   refine ⟨h1,fun j hj=> ?_⟩
   have:=h2 j hj
   simp only [bA]
   rw [this]
   cases hb:bA j d with
   |some _=>rfl
   |none=>exact absurd hb (eX hj)
  ·rename_i hc
   obtain ⟨h1,h2⟩:=gb h hn.2.1
   refine ⟨h1,fun j hj=> ?_⟩
   have hjb:j∈ids b:=dY h j hj
   have:j∉ids a:=fun h1=>hn.2.2 j h1 j hjb rfl
   simp only [bA,cD this,h2 j hj]
 | .loop c,d,id,h,hn=>by
  simp only [bA] at h
  obtain ⟨h1,h2⟩:=gb h hn
  exact ⟨h1,fun j hj=>by simp only [bA];exact h2 j hj⟩
 | .block i c,d,id,h,hn=>by
  simp only [ids,List.nodup_cons] at hn
  simp only [bA] at h
  split at h
  ·cases h
   refine ⟨hn.2,fun j hj=> ?_⟩
   have:i≠j:=fun e=>hn.1 (e▸hj)
   simp only [bA,if_neg this]
  ·obtain ⟨h1,h2⟩:=gb h hn.2
   refine ⟨h1,fun j hj=> ?_⟩
   have:i≠j:=fun e=>hn.1 (e▸dY h j hj)
   simp only [bA,if_neg this];exact h2 j hj
 | .skip,_,_,h,_=>by cases h
 | .region ..,_,_,h,_=>by cases h
 | .exit _,_,_,h,_=>by cases h
 | .scope _,_,_,h,_=>by cases h
 | .label _,_,_,h,_=>by cases h
 | .goto _,_,_,h,_=>by cases h
 | .ret,_,_,h,_=>by cases h
 | .refuse _,_,_,h,_=>by cases h
where
 eX: ∀ {c:Code} {j:Nat},j∈ids c->bA j c≠none
  | .seq a b,j,h=>by
   simp only [ids,List.mem_append] at h
   simp only [bA]
   rcases h with h|h
   ·have:=eX h
    split<;>simp_all
   ·have:=eX h
    split<;>simp_all
  | .cond _ a b,j,h=>by
   simp only [ids,List.mem_append] at h
   simp only [bA]
   rcases h with h|h
   ·have:=eX h
    split<;>simp_all
   ·have:=eX h
    split<;>simp_all
  | .rangeFunc _ _ a b,j,h=>by
   simp only [ids,List.mem_append] at h
   simp only [bA]
   rcases h with h|h
   ·have:=eX h
    split<;>simp_all
   ·have:=eX h
    split<;>simp_all
  | .loop c,j,h=>by simp only [ids] at h;simp only [bA];exact eX h
  | .block i c,j,h=>by
   simp only [ids,List.mem_cons] at h
   simp only [bA]
   split
   ·simp
   ·rename_i hi;exact eX (h.resolve_left (Ne.symm hi))
  | .skip,_,h=>by simp [ids] at h
  | .region ..,_,h=>by simp [ids] at h
  | .exit _,_,h=>by simp [ids] at h
  | .scope _,_,h=>by simp [ids] at h
  | .label _,_,h=>by simp [ids] at h
  | .goto _,_,h=>by simp [ids] at h
  | .ret,_,h=>by simp [ids] at h
  | .refuse _,_,h=>by simp [ids] at h
 dY: ∀ {c b:Code} {id:Nat},bA id c=some b-> ∀j∈ids b,j∈ids c
  | .seq a b,d,id,h=>by
   intro j hj
   simp only [bA] at h
   simp only [ids,List.mem_append]
   split at h
   ·rename_i hc;cases h;exact .inl (dY hc j hj)
   ·exact .inr (dY h j hj)
  | .cond _ a b,d,id,h=>by
   intro j hj
   simp only [bA] at h
   simp only [ids,List.mem_append]
   split at h
   ·rename_i hc;cases h;exact .inl (dY hc j hj)
   ·exact .inr (dY h j hj)
  | .rangeFunc _ _ a b,d,id,h=>by
   intro j hj
   simp only [bA] at h
   simp only [ids,List.mem_append]
   split at h
   ·rename_i hc;cases h;exact .inl (dY hc j hj)
   ·exact .inr (dY h j hj)
  | .loop c,d,id,h=>by intro j hj;simp only [bA] at h;simp only [ids];exact dY h j hj
  | .block i c,d,id,h=>by
   intro j hj
   simp only [bA] at h
   simp only [ids,List.mem_cons]
   split at h
   ·cases h;exact .inr hj
   ·exact .inr (dY h j hj)
  | .skip,_,_,h=>by cases h
  | .region ..,_,_,h=>by cases h
  | .exit _,_,_,h=>by cases h
  | .scope _,_,_,h=>by cases h
  | .label _,_,_,h=>by cases h
  | .goto _,_,_,h=>by cases h
  | .ret,_,_,h=>by cases h
  | .refuse _,_,_,h=>by cases h
theorem sY {lp:List (Nat×iw)} {ys:List (Nat×Spec)} {dR:List (Nat×eV)} {c:Code} (hn:(ids c).Nodup) (h:aB P X c lp):pg P ⟨tt,specs,X,lp,ys,dR⟩ c:=
 gV c hn fun id _ sp hs b hb ay W ro n hX hro st K hk ρ a w bB=>by
  have:=h ay W ro n hX id sp hs (by simpa only [bW,hb] using hro) st K hk ρ a w bB
  simp only [bW,hb] at this;exact this
theorem aB.Yk {c b:Code} {lp:List (Nat×iw)} {ys:List (Nat×Spec)} {dR:List (Nat×eV)} {id:Nat} {sp:iw} (hl:aB P X c lp) (hn':ff (ids c)=true) (hb:bA id c=some b)
  (h:pg P ⟨tt,specs,X,lp,ys,dR⟩ b-> ∀ay W ro n,yw ay W X->(ro=none\/ ko b=true)-> ∀st K,sp st K-> ∀ρ a w,At ay W st ρ a w->b.wpIn (fw ro) n P (Post ay W (tX id (BU K))) a w):aB P X c ((id,sp)::lp):=by
 have hn:=eJ hn'
 intro ay W ro n hX id' sp' hs hro st K hk ρ a w bB
 unfold aJ at hs
 split at hs
 ·rename_i e;subst e;cases hs
  obtain ⟨h1,h2⟩:=gb hb hn
  have:pg P ⟨tt,specs,X,lp,ys,dR⟩ b:=gV b h1 fun j hj sp hs d hd ay W ro n hX hro st K hk ρ a w bB=>by
   have:=hl ay W ro n hX j sp hs (by simpa only [bW,h2 j hj,hd] using hro) st K hk ρ a w bB
   simp only [bW,h2 j hj,hd] at this;exact this
  simp only [bW,hb] at hro ⊢
  exact wpIn_mono (qJ (h this ay W ro n hX hro st K hk ρ a w bB)) fun e a w h=>OY h
 ·exact hl ay W ro n hX id' sp' hs hro st K hk ρ a w bB
def JJ (tt:List (Nat×TI)) (specs:List (Nat×Spec)) (X:Addr->Value->Prop) (lp:List (Nat×iw)) (ys:List (Nat×Spec)) (dR:List (Nat×eV)) (id:Nat) (c:Code) (N:Nat):iw:=fun st K=>ym ⟨tt,specs,X,lp,ys,dR⟩ c N st (tX id K)
theorem aB.ym (hT:aO P tt) {lp:List (Nat×iw)} {ys:List (Nat×Spec)} {dR:List (Nat×eV)} (hC:qE P ⟨tt,specs,X,lp,ys,dR⟩) (hm:P.follows .mixedOrders=true) {c b:Code} {id:Nat} (N:Nat) (hl:aB P X c lp) (hn':ff (ids c)=true) (hb:bA id c=some (.loop b)):
  aB P X c ((id,JJ tt specs X lp ys dR id b N)::lp):=by
 have hn:=eJ hn'
 intro ay W ro n hX id' sp' hs hro st K hk ρ a w bB
 unfold aJ at hs
 split at hs
 ·rename_i e;subst e;cases hs
  obtain ⟨h1,h2⟩:=gb hb hn
  have xD:pg P ⟨tt,specs,X,lp,ys,dR⟩ (.loop b):=gV (.loop b) h1 fun j hj sp hs d hd ay W ro n hX hro st K hk ρ a w bB=>by
   have:=hl ay W ro n hX j sp hs (by simpa only [bW,h2 j hj,hd] using hro) st K hk ρ a w bB
   simp only [bW,h2 j hj,hd] at this;exact this
  simp only [bW,hb] at hro ⊢
  exact qJ (Pp (ctx:=⟨tt,specs,X,lp,ys,dR⟩) hT hC hm b hX hro xD N st _ hk ρ a w bB)
 ·exact hl ay W ro n hX id' sp' hs hro st K hk ρ a w bB
def Un (tt:List (Nat×TI)) (specs:List (Nat×Spec)) (X:Addr->Value->Prop) (lp:List (Nat×Spec)->List (Nat×iw)) (dR:List (Nat×eV)) (fn:Func):eV:=fun ys args heap R=>H6 ⟨tt,specs,X,lp ys,ys,dR⟩ fn args heap R
theorem jq.fn (hT:aO P tt) (hS:ah P specs) (hm:P.follows .mixedOrders=true) {f:FuncId} {fn:Func} (hf:P.funcs[f]? =some fn) (hn:ff (ids (cj fn))=true) {lp:List (Nat×Spec)->List (Nat×iw)} {dR:List (Nat×eV)} (hits:aA P X dR)
  (xD: ∀ys,vh P ys->aB P X (cj fn) (lp ys)):jq P X f (Un tt specs X lp dR fn):=by
 intro ys args heap R h hy ay W ρ w hX hargs hst
 refine ij (ctx:=⟨tt,specs,X,lp ys,ys,dR⟩) hT ⟨hS,hy,hits⟩ hX hm hf (fun c hc=> ?_) h hargs hst
 have:cj fn=c:=by unfold cj;rw [hc]
 subst this
 exact sY (eJ hn) (xD ys hy)
end
section
variable {P:Program}
theorem aO.nil:aO P []:=fun _ _ h=>by cases h
theorem aO.cons {t:TypeId} {i:TI} {l:List (Nat×TI)} (hu:P.underlying t=some i.desc) (hs:0<i.size) (hi:(P.info? t).map (fun q=>(q.size,q.bytes,q.zero))=some (i.size,i.bytes,some i.zero))
  (ha:(!cY i.desc||(!P.stoodInHeld t&& !P.eqGuardType P.depth t))=true) (hl:aO P l):aO P ((t,i)::l):=by
 intro u j h
 unfold aJ at h
 split at h
 ·rename_i e;subst e;cases h
  refine ⟨hu,hs,?_⟩
  cases hq:P.info? t with
  |none=>rw [hq] at hi;cases hi
  |some q=>
   rw [hq] at hi
   simp only [Option.map_some,Option.some.injEq,Prod.mk.injEq] at hi
   refine ⟨q,rfl,hi.1,hi.2.1,hi.2.2,fun pP=> ?_⟩
   rw [pP] at ha
   simpa using ha
 ·exact hl u j h
theorem lM.of {f:FuncId} {fn:Func} (hf:P.funcs[f]? =some fn) (h1:(fn.name== "runtime.NumGoroutine")=false) (h2:fn.body.isNone=false):lM P f:=by
 intro args w
 simp only [callFunc,Sem.run_bind,run_program,Result.andThen_ok,hf,h1,h2,Bool.false_eq_true,if_false,Sem.run_pure]
theorem aA.cons {X:Addr->Value->Prop} {f:FuncId} {KN:eV} {l:List (Nat×eV)} (he:lM P f) (h:jq P X f KN) (hl:aA P X l):aA P X ((f,KN)::l):=by
 intro g q hg
 unfold aJ at hg
 split at hg
 ·rename_i e;subst e;cases hg;exact ⟨he,h⟩
 ·exact hl g q hg
end
instance ab3 {A B:Type} [Inhabited A]:Inhabited (A⊕B):=⟨.inl default⟩
inductive Term {S R:Type} (step:S->S⊕R) (pre:S->Prop):S->Prop
 |mk (s:S) (hp:pre s) (h: ∀s',step s= .inl s'->Term step pre s'):Term step pre s
def iJ {S R:Type} (step:S->S⊕R):Nat->S->Option R
 |0,_=>none
 |n+1,s=>match step s with
  | .inl s'=>iJ step n s'
  | .inr r=>some r
theorem Bw {S R:Type} {step:S->S⊕R} : ∀(n:Nat) (s:S) (r:R),iJ step n s=some r->iJ step (n+1) s=some r
 |0,_,_,h=>by cases h
 |n+1,s,r,h=>by
  simp only [iJ] at h
  show (match step s with| .inl s'=>iJ step (n+1) s'| .inr r=>some r)=some r
  cases hs:step s with
  |inl s'=>rw [hs] at h;exact Bw n s' r h
  |inr r'=>rw [hs] at h;exact h
theorem Is {S R:Type} {step:S->S⊕R} {n m:Nat} {s:S} {r:R} (h:iJ step n s=some r) (hm:n<=m):iJ step m s=some r:=by
  induction m with
  |zero=>   have:n=0:=by omega
            subst this;exact h
  | succ m ih=>
    rcases Nat.lt_or_ge m n with h1|h1
    · have:n=m+1:=by omega
      subst this;exact h
    · exact Bw m s r (ih h1)
open Classical in
def run {S R:Type} [Inhabited R] (step:S->S⊕R) (s:S):R:=if h: ∃r n,iJ step n s=some r then Classical.choose h else default
theorem GK {S R:Type} [Inhabited R] {step:S->S⊕R} {n:Nat} {s:S} {r:R} (h:iJ step n s=some r):run step s=r:=by
 have hx: ∃r n,iJ step n s=some r:=⟨r,n,h⟩
 unfold run
 rw [dif_pos hx]
 obtain ⟨m,hm⟩:=Classical.choose_spec hx
 have h1:=Is h (Nat.le_max_left n m)
 have h2:=Is hm (Nat.le_max_right n m)
 rw [h1] at h2
 exact (Option.some.inj h2).symm
theorem run_eq {S R:Type} [Inhabited R] (step:S->S⊕R) (s:S):run step s=match step s with| .inl s'=>run step s'| .inr r=>r:=by
 cases hs:step s with
 |inr r=>exact GK (n:=1) (by simp only [iJ,hs])
 |inl s'=>
  dsimp only
  by_cases h: ∃r n,iJ step n s'=some r
  ·obtain ⟨r,n,h⟩:=h
   rw [GK h]
   exact GK (n:=n+1) (by simp only [iJ,hs,h])
  ·have h2: ¬ ∃r n,iJ step n s=some r:=by
    rintro ⟨r,n,hn⟩
    cases n with
    |zero=>cases hn
    |succ n=>simp only [iJ,hs] at hn;exact h ⟨r,n,hn⟩
   unfold run
   rw [dif_neg h,dif_neg h2]
theorem Term.iter {S R:Type} {step:S->S⊕R} {pre:S->Prop} {s:S} (h:Term step pre s): ∃r n,iJ step n s=some r:=by
 induction h with
 |mk s hp h ih=>
  cases hs:step s with
  |inr r=>exact ⟨r,1,by simp only [iJ,hs]⟩
  |inl s'=>
   obtain ⟨r,n,hn⟩:=ih s' hs
   exact ⟨r,n+1,by simp only [iJ,hs,hn]⟩
theorem Term.of {S R:Type} {step:S->S⊕R} {pre:S->Prop} (J:S->Prop) (μ:S->Nat) (h: ∀s,J s->pre s/\ ∀s',step s= .inl s'->J s'/\ μ s'<μ s): ∀s,J s->Term step pre s:=by
 intro s hs
 obtain ⟨n,hn⟩: ∃n,n=μ s:=⟨_,rfl⟩
 induction n using Nat.strongRecOn generalizing s with
 |_ n ih=>
  obtain ⟨h1,h2⟩:=h s hs
  exact ⟨s,h1,fun s' hs'=>by
   obtain ⟨h3,h4⟩:=h2 s' hs'
   exact ih (μ s') (by omega) s' h3 rfl⟩
def cS {A B:Type} (r:A⊕B) (p:A->Prop) (q:B->Prop):Prop:=match r with
 | .inl a=>p a
 | .inr b=>q b
def lQ:Addr->Value->Prop:=fun _ _=>False
theorem lQ.ok (ay:iT) (W:World):yw ay W lQ:=fun _ _ h=>h.elim
theorem pK (rk:Nat) {ρ ρ':Env} {d:Nat} : ∀(cs:List cl) (nm:Nat),(∀i,i<(cq rk nm cs).2.length->ρ' (nm+i+d)=ρ (nm+i))->(cq rk (nm+d) cs).1.map (Cell.af ρ')=(cq rk nm cs).1.map (Cell.af ρ)/\ (cq rk (nm+d) cs).2=(cq rk nm cs).2
 | [],nm,_=>⟨rfl,rfl⟩
 | .flat v::r,nm,h=>by
  obtain ⟨h1,h2⟩:=pK rk (d:=d) r nm h
  simp only [cq,List.map_cons,h1,h2];exact ⟨rfl,trivial⟩
 | .sl u l::r,nm,h=>by
  have h0:=h 0 (by simp [cq])
  obtain ⟨h1,h2⟩:=pK rk (ρ:=ρ) (ρ':=ρ') (d:=d) r (nm+1) fun i hi=>by
   have:=h (i+1) (by simpa [cq] using hi)
   rwa [show nm+(i+1)+d=nm+1+i+d by omega,show nm+(i+1)=nm+1+i by omega] at this
  rw [Nat.add_zero] at h0
  rw [show nm+1+d=nm+d+1 by omega] at h1 h2
  simp only [cq,List.map_cons,h1,h2,Cell.af,h0];exact ⟨trivial,trivial⟩
theorem vq (rk:Nat): ∀(cs:List cl) (nm:Nat),∀c∈(cq rk nm cs).1,c.ok fun m=>nm<=m/\ m<nm+(cq rk nm cs).2.length
 | [],nm,c,h=>by simp [cq] at h
 | .flat v::r,nm,c,h=>by
  simp only [cq,List.mem_cons] at h
  rcases h with rfl|h
  ·trivial
  ·exact vq rk r nm c h
 | .sl u l::r,nm,c,h=>by
  simp only [cq,List.mem_cons] at h
  rcases h with rfl|h
  ·simp only [cq,List.length_cons,Cell.ok];omega
  ·exact Cell.aT (fun m hm=>by simp only [cq,List.length_cons];omega) c (vq rk r (nm+1) c h)
theorem sN (rk:Nat): ∀(cs:List cl) (nm:Nat),∀o∈(cq rk nm cs).2,∃u,∃l:List u.T,o= .row u l rk
 | [],nm,o,h=>by simp [cq] at h
 | .flat v::r,nm,o,h=>sN rk r nm o h
 | .sl u l::r,nm,o,h=>by
  simp only [cq,List.mem_cons] at h
  rcases h with rfl|h
  ·exact ⟨u,l,rfl⟩
  ·exact sN rk r (nm+1) o h
theorem D8 {a:Bool} {cs cs':List Cell} {ρ ρ':Env} (h:cs'.map (Cell.af ρ')=cs.map (Cell.af ρ)):(qB a cs').af ρ'=(qB a cs).af ρ:=by
 have hl:cs'.length=cs.length:=by simpa using congrArg List.length h
 cases a with
 |true=>simp only [qB,A0.af,h]
 |false=>
  match cs,cs',hl with
  | [],[],_=>rfl
  | [c],[c'],_=>simp only [List.map_cons,List.map_nil,List.cons.injEq,and_true] at h;simp only [qB,A0.af,h]
  |_::_::_,_::_::_,_=>simp only [qB,A0.af,h]
theorem LY {a:Bool} {cs:List Cell} {Kn:Nat->Prop} (h: ∀c∈cs,c.ok Kn):(qB a cs).ok Kn:=by
 cases a with
 |true=>exact h
 |false=>
  match cs,h with
  | [],h=>exact h
  | [c],h=>exact h c (by simp)
  |_::_::_,h=>exact h
def nn.res:nn->Bool
 | .ptr _=>false
 | .jS _ _=>false
 | .mv _ _ _=>false
 | .pair a b=>a.res&&b.res
 |_=>true
theorem j8 (rk:Nat) {ρ ρ':Env} {d:Nat} : ∀(p:nn) (x:p.ty.T) (nm:Nat),p.res=true->(∀i,i<(aW rk nm p x).2.length->ρ' (nm+i+d)=ρ (nm+i))->(aW rk (nm+d) p x).1.map (A0.af ρ')=(aW rk nm p x).1.map (A0.af ρ)/\ (aW rk (nm+d) p x).2=(aW rk nm p x).2
 | .one t,x,nm,_,h=>by
  obtain ⟨h1,h2⟩:=pK rk (ρ:=ρ) (ρ':=ρ') (d:=d) (t.aQ x) nm h
  simp only [aW,List.map_cons,List.map_nil,D8 h1,h2];exact ⟨trivial,trivial⟩
 | .agg t,x,nm,_,h=>by
  obtain ⟨h1,h2⟩:=pK rk (ρ:=ρ) (ρ':=ρ') (d:=d) (t.aQ x) nm h
  simp only [aW,List.map_cons,List.map_nil,D8 h1,h2];exact ⟨trivial,trivial⟩
 | .ptr t,x,nm,hr,h=>by cases hr
 | .jS f p,x,nm,hr,h=>by cases hr
 | .mv f agg t,x,nm,hr,h=>by cases hr
 | .pair a b,x,nm,hr,h=>by
  simp only [nn.res,Bool.and_eq_true] at hr
  obtain ⟨h1,h2⟩:=j8 rk (ρ:=ρ) (ρ':=ρ') (d:=d) a x.1 nm hr.1 fun i hi=>h i (by simp only [aW,List.length_append];omega)
  obtain ⟨h3,h4⟩:=j8 rk (ρ:=ρ) (ρ':=ρ') (d:=d) b x.2 (nm+(aW rk nm a x.1).2.length) hr.2 fun i hi=>by
   have:=h ((aW rk nm a x.1).2.length+i) (by simp only [aW,List.length_append];omega)
   rwa [<- Nat.add_assoc nm] at this
  rw [show nm+(aW rk nm a x.1).2.length+d=nm+d+(aW rk nm a x.1).2.length by omega] at h3 h4
  simp only [aW,List.map_append,h1,h2,h3,h4];exact ⟨trivial,trivial⟩
 | .none,x,nm,_,h=>⟨rfl,rfl⟩
theorem js (rk:Nat): ∀(p:nn) (x:p.ty.T) (nm:Nat),∀c∈(aW rk nm p x).1,c.ok fun m=>nm<=m/\ m<nm+(aW rk nm p x).2.length
 | .one t,x,nm,c,h=>by
  simp only [aW,List.mem_singleton] at h
  subst h;exact LY (vq rk _ nm)
 | .agg t,x,nm,c,h=>by
  simp only [aW,List.mem_singleton] at h
  subst h;exact LY (vq rk _ nm)
 | .ptr t,x,nm,c,h=>by
  simp only [aW,List.mem_singleton] at h
  subst h;simp only [aW,List.length_singleton,A0.ok,Cell.ok];omega
 | .mv f agg t,x,nm,c,h=>by
  simp only [aW,List.mem_singleton] at h
  subst h
  intro q hq
  obtain ⟨a,ha,rfl⟩:=List.mem_map.1 hq
  have:=vq rk (t.aQ x) nm a ha
  unfold Sg
  split
  ·trivial
  ·exact this
  ·trivial
 | .jS f p,x,nm,c,h=>by
  simp only [aW,List.mem_singleton] at h
  subst h
  intro q hq
  obtain ⟨a,ha,rfl⟩:=List.mem_map.1 hq
  have:=js rk p x nm a ha
  unfold IW
  split
  ·exact this
  ·trivial
 | .pair a b,x,nm,c,h=>by
  simp only [aW,List.mem_append] at h
  rcases h with h|h
  ·exact A0.aT (fun m hm=>by simp only [aW,List.length_append];omega) c (js rk a x.1 nm c h)
  ·exact A0.aT (fun m hm=>by simp only [aW,List.length_append];omega) c (js rk b x.2 _ c h)
 | .none,x,nm,c,h=>by simp [aW] at h
theorem sO (rk:Nat): ∀(p:nn) (x:p.ty.T) (nm:Nat),p.res=true-> ∀o∈(aW rk nm p x).2,∃u,∃l:List u.T,o= .row u l rk
 | .one t,x,nm,_,o,h=>sN rk _ nm o h
 | .agg t,x,nm,_,o,h=>sN rk _ nm o h
 | .ptr t,x,nm,hr,o,h=>by cases hr
 | .jS f p,x,nm,hr,o,h=>by cases hr
 | .mv f agg t,x,nm,hr,o,h=>by cases hr
 | .pair a b,x,nm,hr,o,h=>by
  simp only [nn.res,Bool.and_eq_true] at hr
  simp only [aW,List.mem_append] at h
  rcases h with h|h
  ·exact sO rk a x.1 nm hr.1 o h
  ·exact sO rk b x.2 _ hr.2 o h
 | .none,x,nm,_,o,h=>by simp [aW] at h
theorem ya {l l':List A0} {ρ ρ':Env} (h:l'.map (A0.af ρ')=l.map (A0.af ρ)):(jo l').af ρ'=(jo l).af ρ:=by
 have hl:l'.length=l.length:=by simpa using congrArg List.length h
 match l,l',hl with
 | [],[],_=>rfl
 | [c],[c'],_=>simp only [List.map_cons,List.map_nil,List.cons.injEq,and_true] at h;simp only [jo,AV.af,h]
 |_::_::_,_::_::_,_=>simp only [jo,AV.af,h]
theorem GJ {l:List A0} {Kn:Nat->Prop} (h: ∀c∈l,c.ok Kn):(jo l).ok Kn:=by
 match l,h with
 | [],h=>exact h
 | [c],h=>exact h c (by simp)
 |_::_::_,h=>exact h
theorem St.grow {ay:iT} {W:World} {ρ bh:Env} {Kn:Nat->Prop} {Γ:HP} {w w':World} {nm:Nat} {os:List aF} {v:AV} {tc:List Nat} (h:St ay W ρ Kn Γ w) (hn: ∀i,i<os.length-> ¬Kn (nm+i)) (hrow: ∀o∈os,∃u,∃l:List u.T,o= .row u l 2) (h1:St K2 w bh (· <os.length) (aj os) w'):
  ∃ρ',(∀m,Kn m->ρ' m=ρ m)/\ (∀n,n<os.length->ρ' (n+nm)=bh n)/\ St ay W ρ' (lK Kn nm {val:=v,fresh:=os,aD:=tc}) (bX {val:=v,fresh:=os,aD:=tc} nm Γ) w':=by
 let ρ':Env:=fun m=>if nm<=m/\ m<nm+os.length then bh (m- nm) else ρ m
 have hold: ∀m,Kn m->ρ' m=ρ m:=fun m hm=>by
  simp only [ρ']
  rw [if_neg]
  rintro ⟨h2,h3⟩
  exact hn (m- nm) (by omega) (by rw [show nm+(m- nm)=m by omega];exact hm)
 have hnew: ∀n,n<os.length->ρ' (n+nm)=bh n:=fun n hn=>by
  simp only [ρ']
  rw [if_pos (by omega),show n+nm- nm=n by omega]
 have bN: ∀m o,bX {val:=v,fresh:=os,aD:=tc} nm Γ m=some o->(∃n,m=n+nm/\ n<os.length/\ aj os n=some o/\ ∃u,∃l:List u.T,o= .row u l 2)\/ (Γ m=some o/\ Kn m):=by
  intro m o ho
  simp only [bX,cg] at ho
  split at ho
  ·rename_i hc
   have hlt:m- nm<os.length:=by omega
   refine .inl ⟨m- nm,by omega,hlt,by rw [bt];exact ho,?_⟩
   rw [List.getElem?_eq_getElem hlt] at ho
   obtain ⟨u,l,e⟩:=hrow _ (List.getElem_mem hlt)
   rw [e] at ho
   simp only [live,Option.some.injEq] at ho
   exact ⟨u,l,ho.symm⟩
  ·exact .inr ⟨ho,(h.kn m o ho).1⟩
 have X7: ∀b,b<w.heap.size->w'.heap[b]? =w.heap[b]? :=fun b hb=>h1.fr.block b hb id
 have hnb: ∀n b,n<os.length->(aj os n).isSome=true->(bh n).has b->w.heap.size<=b:=fun n b _ hs hb=>by
  rcases h1.kq n b hs hb with h2|h2
  ·exact h2
  ·exact h2.elim
 have lJ: ∀m o b,Γ m=some o->(ρ m).has b->b<w.heap.size:=fun m o b ho hb=>h.lt m b (by rw [ho];rfl) hb
 have NW: ∀b,VL ρ' (bX {val:=v,fresh:=os,aD:=tc} nm Γ) b->(w.heap.size<=b/\ VL bh (aj os) b)\/ (b<w.heap.size/\ VL ρ Γ b):=by
  rintro b ⟨m,h2,h3⟩
  obtain ⟨o,ho⟩:=Option.isSome_iff_exists.1 h2
  rcases bN m o ho with ⟨n,rfl,lI,hp,_⟩|⟨hg,hk⟩
  ·rw [hnew n lI] at h3
   exact .inl ⟨hnb n b lI (by rw [hp];rfl) h3,n,by rw [hp];rfl,h3⟩
  ·rw [hold m hk] at h3
   exact .inr ⟨lJ m o b hg h3,m,by rw [hg];rfl,h3⟩
 have sV: ∀b,HI (bX {val:=v,fresh:=os,aD:=tc} nm Γ) b->HI Γ b:=fun b ⟨m,S,h2,h3⟩=>by
  rcases bN m _ h2 with ⟨n,_,_,_,u,l,e⟩|⟨hg,hk⟩
  ·cases e
  ·exact ⟨m,S,hg,h3⟩
 have hLO: ∀b,LO ρ' (bX {val:=v,fresh:=os,aD:=tc} nm Γ) b->(w.heap.size<=b/\ LO bh (aj os) b)\/ (b<w.heap.size/\ LO ρ Γ b):=by
  rintro b (h2|h2)
  ·exact (NW b h2).imp (fun h=>⟨h.1,.inl h.2⟩) (fun h=>⟨h.1,.inl h.2⟩)
  ·exact .inr ⟨(h.sW b (sV b h2)).1,.inr (sV b h2)⟩
 have hsz:=h.fr.size
 have N6:=h1.fr.size
 have hfz: ∀b,dQ ρ Γ w b->dQ ρ' (bX {val:=v,fresh:=os,aD:=tc} nm Γ) w' b/\ w'.heap[b]? =w.heap[b]? :=fun b hb=>by
  have hlt:=hb.1.lt
  refine ⟨⟨hb.1.same (X7 b hlt),fun hl=> ?_⟩,X7 b hlt⟩
  rcases hLO b hl with ⟨h2,_⟩|⟨_,h2⟩
  ·omega
  ·exact hb.2 h2
 have Kq: ∀b,dQ bh (aj os) w' b->p7 K2 w b->dQ ρ' (bX {val:=v,fresh:=os,aD:=tc} nm Γ) w' b/\ p7 ay W b:=fun b hb hp=>by
  have hge:w.heap.size<=b:=by
   rcases hp with h2|h2|h2
   ·exact h2
   ·exact h2.elim
   ·exact h2.elim
  refine ⟨⟨hb.1,fun hl=> ?_⟩,.inl (by omega)⟩
  rcases hLO b hl with ⟨_,h2⟩|⟨h2,_⟩
  ·exact hb.2 h2
  ·omega
 have WV: ∀m:Nat,m<os.length->lK Kn nm {val:=v,fresh:=os,aD:=tc} (m+nm):=fun m hm=> .inr (by simp only [];omega)
 refine ⟨ρ',hold,hnew,⟨?_,fun m o ho=> ?_,fun m o ho=> ?_,fun m m' b hm hm' fQ fc=> ?_,fun m b hm hb=> ?_,fun b hh=> ?_,fun m o ho=> ?_⟩⟩
 rotate_right
 ·rcases bN m o ho with ⟨n,rfl,lI,hp,_⟩|⟨hg,hk⟩
  ·rw [hnew n lI];exact h1.s8 n o hp
  ·rw [hold m hk];exact h.s8 m o hg
 rotate_right
 ·obtain ⟨h2,h3⟩:=h.sW b (sV b hh)
  refine ⟨by omega,fun h4=> ?_⟩
  rcases NW b h4 with ⟨h5,_⟩|⟨_,h5⟩
  ·omega
  ·exact h3 h5
 ·exact h.fr.trans h1.fr.Mu
 ·rcases bN m o ho with ⟨n,rfl,lI,hp,u,l,rfl⟩|⟨hg,hk⟩
  ·obtain ⟨g1,g2,g3,sub,g4,g5,g6,g7⟩:=h1.at_ n _ hp
   rw [bg,hnew n lI]
   exact ⟨g1,g2,g3,sub,fun i x hi=>by
    obtain ⟨a,e1,e2,_⟩:=g4 i x hi
    exact ⟨a,e1,e2,fun h=>by cases h⟩,fun q u' l' hq=>(g5 q u' l' hq).weak fun b hb=>by
     obtain ⟨e1,e2⟩:=Kq b hb.1 (hb.2 rfl).1
     exact ⟨e1,fun _=>⟨e2,(hb.2 rfl).2⟩⟩,g6,g7⟩
  ·exact cm (Kn:=Kn) (h.at_ m o hg) hold hk (h.kn m o hg).2 hfz (fun _ _ h=>h) fun b hb=>X7 b (lJ m o b hg hb)
 ·rcases bN m o ho with ⟨n,rfl,lI,hp,u,l,rfl⟩|⟨hg,hk⟩
  ·exact ⟨WV n lI,trivial⟩
  ·exact ⟨.inl hk,aF.aT (fun _=> .inl) o (h.kn m o hg).2⟩
 ·obtain ⟨o,ho⟩:=Option.isSome_iff_exists.1 hm
  obtain ⟨o',xE⟩:=Option.isSome_iff_exists.1 hm'
  rcases bN m o ho with ⟨n,rfl,lI,hp,_⟩|⟨hg,hk⟩
  ·rw [hnew n lI] at fQ
   rcases bN m' o' xE with ⟨n',rfl,T9,fA,_⟩|⟨hg',hk'⟩
   ·rw [hnew n' T9] at fc
    rw [h1.dV n n' b (by rw [hp];rfl) (by rw [fA];rfl) fQ fc]
   ·rw [hold m' hk'] at fc
    have:=hnb n b lI (by rw [hp];rfl) fQ
    have:=lJ m' o' b hg' fc
    omega
  ·rw [hold m hk] at fQ
   rcases bN m' o' xE with ⟨n',rfl,T9,fA,_⟩|⟨hg',hk'⟩
   ·rw [hnew n' T9] at fc
    have:=hnb n' b T9 (by rw [fA];rfl) fc
    have:=lJ m o b hg fQ
    omega
   ·rw [hold m' hk'] at fc
    exact h.dV m m' b (by rw [hg];rfl) (by rw [hg'];rfl) fQ fc
 ·obtain ⟨o,ho⟩:=Option.isSome_iff_exists.1 hm
  rcases bN m o ho with ⟨n,rfl,lI,hp,_⟩|⟨hg,hk⟩
  ·rw [hnew n lI] at hb
   have:=hnb n b lI (by rw [hp];rfl) hb
   exact .inl (by omega)
  ·rw [hold m hk] at hb
   exact h.kq m b (by rw [hg];rfl) hb
section
variable {P:Program} {tt:List (Nat×TI)} {specs:List (Nat×Spec)}
theorem ak.fnT (hT:aO P tt) (hS:ah P specs) (hm:P.follows .mixedOrders=true) {f:FuncId} {fn:Func} (hf:P.funcs[f]? =some fn) (hn:ff (ids (cj fn))=true) {s:dS} (hres:s.r.res=true)
  (h: ∀x,s.pre x-> ∃lp dR,aA P lQ dR/\ aB P lQ (cj fn) lp/\ H6 ⟨tt,specs,lQ,lp,[],dR⟩ fn (kW s.p x) (jx s.p x) (Vi s.r (· =s.f x))):ak P f (av s):=by
 intro X args hp nm k hs
 unfold av at hs
 split at hs
 rotate_left
 ·exact hs.elim
 rename_i x tc b hd
 obtain ⟨rfl,hpre,hk⟩:=br hs
 have hk:=hk _ rfl
 obtain ⟨as,e,hargs⟩:=sI s.p _ _ _ _ hd
 rw [List.append_nil] at e
 subst e
 refine ⟨_,⟨fun p fA=>absurd fA (by simp),?_⟩,hk⟩
 intro ay W ρ Kn Γ w _ _ ht hfr hst
 obtain ⟨xs,hg,hc⟩:=hargs ay W ρ Kn Γ w ht hst 0
 have hb:=St.begin hg
 obtain ⟨lp,dR,hi,hl,hfn⟩:=h x hpre
 have hcs:=hc (fun n=>xs.getD n {}) fun i y hy=>by simp [hy]
 have key:=ij (ctx:=⟨tt,specs,lQ,lp,[],dR⟩) hT ⟨hS,vh.nil P,hi⟩ (lQ.ok K2 w) hm hf (fun c hc=>by
  have:cj fn=c:=by unfold cj;rw [hc]
  subst this
  exact sY (eJ hn) hl) hfn (fun y hy=>by
   obtain ⟨a,ha,rfl⟩:=List.mem_map.1 hy
   exact A0.aT (fun m hm=>by simpa [jx] using hm.2) a (js 0 s.p x 0 a ha)) hb
 have ea:(kW s.p x).map (AV.af fun n=>xs.getD n {})=args.map (AV.af ρ):=by
  rw [hcs];simp [kW,AV.af,Function.comp_def]
 rw [ea] at key
 refine key.mono ?_
 rintro e w' ⟨st,bh,v,rfl,hv,hR,rA⟩
 obtain ⟨y,rfl,hw⟩:=O4 hR
 have bB:mG K2 w [] ⟨[v],st.heap⟩ bh {tmps:= #[v.af bh],defers:= []} w':=by
  refine ⟨fun t _=> ?_,rfl,rfl,fun t=> ?_,rA⟩
  ·match t with
   |0=>rfl
   |t+1=>rfl
  ·match t with
   |0=>exact hv
   |t+1=>exact uY _
 obtain ⟨ni,pQ⟩:=bB.weak hw
 have QS:=sO 2 s.r (s.f x) 0 hres
 have G8:=fun d=>(j8 2 (ρ:=ni) (ρ':=fun m=>ni (m- d)) (d:=d) s.r (s.f x) 0 hres fun i _=>by simp).2
 have hlen:(aW 2 nm s.r (s.f x)).2=(aW 2 0 s.r (s.f x)).2:=by simpa using G8 nm
 obtain ⟨ρ',r1,r2,r3⟩:=St.grow (v:=jo (aW 2 nm s.r (s.f x)).1) (tc:=tc) (nm:=nm) hst (fun i hi=>hfr i (by rw [hlen];exact hi)) QS pQ.st
 have hsh:=(j8 2 (ρ:=ni) (ρ':=ρ') (d:=nm) s.r (s.f x) 0 hres fun i hi=>by rw [Nat.zero_add];exact r2 i hi).1
 rw [Nat.zero_add] at hsh
 refine ⟨ρ',?_,r1,?_,?_⟩
 ·congr 1
  have h1:=pQ.tmps 0 (by
   show jo _≠_
   generalize (aW 2 0 s.r (s.f x)).1=l
   match l with
   | []=>exact fun h=>by cases h
   | [_]=>exact fun h=>by cases h
   |_::_::_=>exact fun h=>by cases h)
  have h2:v.af bh=(jo (aW 2 0 s.r (s.f x)).1).af ni:=h1
  rw [h2]
  exact (ya hsh).symm
 ·exact GJ fun c hc=>A0.aT (fun m hm=> .inr (by simpa using hm)) c (js 2 s.r (s.f x) nm c hc)
 ·rw [hlen];exact r3
end
end Go.Ev
