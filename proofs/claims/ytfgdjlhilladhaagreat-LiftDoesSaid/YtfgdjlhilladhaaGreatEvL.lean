/- Functions of typed values, out of 'fnE': blocks, loops. -/
import Derived.Test.YtfgdjlhilladhaaGreatEvK
noncomputable section
set_option linter.unusedSectionVars false
set_option linter.unusedVariables false
set_option linter.unusedSimpArgs false
namespace Go.Ev
open Go.RowKit
abbrev aj (n:Int):Int:=IntKind.wrap .i64 n
abbrev ci (n:Int):Cell:= .raw (.int .i64 n)
abbrev vi (n:Int):AV:= .v (.one (.raw (.int .i64 n)))
abbrev vb (b:Bool):AV:= .v (.one (.raw (.bool b)))
abbrev D:AV:= .dead
theorem ay {n:Int} (h1: -9223372036854775808<=n) (h2:n<=9223372036854775807):aj n=n:=by rw [aj,IntKind.wrap_i64];omega
def cI:Code->Code| .block _ c=>c| .loop c=>c|c=>c
def bn (fn:Func):Code:=match fn.body with|some c=>c|none=> .skip
def ids:Code->List Nat
 | .seq a b=>ids a++ids b
 | .cond _ a b=>ids a++ids b
 | .loop c=>ids c
 | .block id c=>id::ids c
 | .rangeFunc _ _ a b=>ids a++ids b
 |_=> []
def bx (id:Nat):Code->Option Code
 | .seq a b=>match bx id a with|some c=>some c|none=>bx id b
 | .cond _ a b=>match bx id a with|some c=>some c|none=>bx id b
 | .loop c=>bx id c
 | .block i c=>if i=id then some c else bx id c
 | .rangeFunc _ _ a b=>match bx id a with|some c=>some c|none=>bx id b
 |_=>none
def bR (id:Nat) (c:Code):Code:=match bx id c with|some c=>c|none=> .skip
def jf:List Nat->Bool
 | []=>true
 |x::r=> !r.contains x&&jf r
theorem lB: ∀ {l:List Nat},jf l=true->l.Nodup
 | [],_=>List.nodup_nil
 |x::r,h=>by
  simp only [jf,Bool.and_eq_true,Bool.not_eq_true',List.contains_eq_mem,decide_eq_false_iff_not] at h
  exact List.nodup_cons.2 ⟨h.1,lB h.2⟩
section
variable {P:Program} {tt:List (Nat×TI)} {specs:List (Nat×Spec)} {X:Addr->Value->Prop}
def au (P:Program) (X:Addr->Value->Prop) (c:Code) (lp:List (Nat×bC)):Prop:=
 ∀aC W ro n,GU aC W X-> ∀id sp,aJ lp id=some sp->(ro=none\/ nc (bR id c)=true)-> ∀st K,sp st K-> ∀ρ a w,JF aC W st ρ a w->(Code.block id (bR id c)).wpIn (fw ro) n P (Post aC W K) a w
theorem de: ∀ {c:Code} {id:Nat},id∉ids c->bx id c=none
 | .seq a b,id,h=>by
  simp only [ids,List.mem_append,not_or] at h
  simp only [bx,de h.1,de h.2]
 | .cond _ a b,id,h=>by
  simp only [ids,List.mem_append,not_or] at h
  simp only [bx,de h.1,de h.2]
 | .rangeFunc _ _ a b,id,h=>by
  simp only [ids,List.mem_append,not_or] at h
  simp only [bx,de h.1,de h.2]
 | .loop c,id,h=>by simp only [ids] at h;simp only [bx,de h]
 | .block i c,id,h=>by
  simp only [ids,List.mem_cons,not_or] at h
  simp only [bx,if_neg (Ne.symm h.1),de h.2]
 | .skip,_,_=>rfl
 | .region ..,_,_=>rfl
 | .exit _,_,_=>rfl
 | .scope _,_,_=>rfl
 | .label _,_,_=>rfl
 | .goto _,_,_=>rfl
 | .ret,_,_=>rfl
 | .refuse _,_,_=>rfl
theorem jy {lp:List (Nat×bC)} {ys:List (Nat×Spec)} {its:List (Nat×k9)} : ∀(c:Code),(ids c).Nodup->
  (∀id∈ids c,∀sp,aJ lp id=some sp-> ∀b,bx id c=some b-> ∀aC W ro n,GU aC W X->(ro=none\/ nc b=true)-> ∀st K,sp st K-> ∀ρ a w,JF aC W st ρ a w->(Code.block id b).wpIn (fw ro) n P (Post aC W K) a w)->
  uJ P ⟨tt,specs,X,lp,ys,its⟩ c
 | .seq a b,hn,h=>by
  simp only [ids,List.nodup_append] at hn
  refine ⟨jy a hn.1 fun id hi sp hs c hc=>h id (by simp [ids,hi]) sp hs c (by simp only [bx,hc]),jy b hn.2.1 fun id hi sp hs c hc=>h id (by simp [ids,hi]) sp hs c ?_⟩
  have:id∉ids a:=fun h1=>hn.2.2 id h1 id hi rfl
  simp only [bx,de this,hc]
 | .cond _ a b,hn,h=>by
  simp only [ids,List.nodup_append] at hn
  refine ⟨jy a hn.1 fun id hi sp hs c hc=>h id (by simp [ids,hi]) sp hs c (by simp only [bx,hc]),jy b hn.2.1 fun id hi sp hs c hc=>h id (by simp [ids,hi]) sp hs c ?_⟩
  have:id∉ids a:=fun h1=>hn.2.2 id h1 id hi rfl
  simp only [bx,de this,hc]
 | .rangeFunc _ _ a b,hn,h=>by
  simp only [ids,List.nodup_append] at hn
  refine ⟨jy a hn.1 fun id hi sp hs c hc=>h id (by simp [ids,hi]) sp hs c (by simp only [bx,hc]),jy b hn.2.1 fun id hi sp hs c hc=>h id (by simp [ids,hi]) sp hs c ?_⟩
  have:id∉ids a:=fun h1=>hn.2.2 id h1 id hi rfl
  simp only [bx,de this,hc]
 | .loop c,hn,h=>jy c hn fun id hi sp hs b hb=>h id hi sp hs b hb
 | .block i c,hn,h=>by
  simp only [ids,List.nodup_cons] at hn
  unfold uJ
  split
  ·rename_i hs
   refine jy c hn.2 fun id hi sp hs' b hb=>h id (by simp [ids,hi]) sp hs' b ?_
   have:i≠id:=fun e=>hn.1 (e▸hi)
   simp only [bx,if_neg this,hb]
  ·rename_i sp hs
   exact h i (by simp [ids]) sp hs c (by simp [bx])
 | .skip,_,_=>trivial
 | .region ..,_,_=>trivial
 | .exit _,_,_=>trivial
 | .scope _,_,_=>trivial
 | .label _,_,_=>trivial
 | .goto _,_,_=>trivial
 | .ret,_,_=>trivial
 | .refuse _,_,_=>trivial
theorem au.nil {c:Code} :au P X c []:=fun _ _ _ _ _ _ _ h=>by cases h
theorem iT: ∀ {c b:Code} {id:Nat},bx id c=some b->(ids c).Nodup->(ids b).Nodup/\ ∀j∈ids b,bx j c=bx j b
 | .seq a b,d,id,h,hn=>by
  simp only [ids,List.nodup_append] at hn
  simp only [bx] at h
  split at h
  ·rename_i hc
   cases h
   obtain ⟨h1,h2⟩:=iT hc hn.1
   refine ⟨h1,fun j hj=> ?_⟩
   have:=h2 j hj
   simp only [bx]
   rw [this]
   cases hb:bx j d with
   |some _=>rfl
   |none=>exact absurd hb (gH hj)
  ·rename_i hc
   obtain ⟨h1,h2⟩:=iT h hn.2.1
   refine ⟨h1,fun j hj=> ?_⟩
   have hjb:j∈ids b:=fB h j hj
   have:j∉ids a:=fun h1=>hn.2.2 j h1 j hjb rfl
   simp only [bx,de this,h2 j hj]
 | .cond _ a b,d,id,h,hn=>by
  simp only [ids,List.nodup_append] at hn
  simp only [bx] at h
  split at h
  ·rename_i hc
   cases h
   obtain ⟨h1,h2⟩:=iT hc hn.1
   refine ⟨h1,fun j hj=> ?_⟩
   have:=h2 j hj
   simp only [bx]
   rw [this]
   cases hb:bx j d with
   |some _=>rfl
   |none=>exact absurd hb (gH hj)
  ·rename_i hc
   obtain ⟨h1,h2⟩:=iT h hn.2.1
   refine ⟨h1,fun j hj=> ?_⟩
   have hjb:j∈ids b:=fB h j hj
   have:j∉ids a:=fun h1=>hn.2.2 j h1 j hjb rfl
   simp only [bx,de this,h2 j hj]
 | .rangeFunc _ _ a b,d,id,h,hn=>by
  simp only [ids,List.nodup_append] at hn
  simp only [bx] at h
  split at h
  ·rename_i hc
   cases h
   obtain ⟨h1,h2⟩:=iT hc hn.1
   refine ⟨h1,fun j hj=> ?_⟩
   have:=h2 j hj
   simp only [bx]
   rw [this]
   cases hb:bx j d with
   |some _=>rfl
   |none=>exact absurd hb (gH hj)
  ·rename_i hc
   obtain ⟨h1,h2⟩:=iT h hn.2.1
   refine ⟨h1,fun j hj=> ?_⟩
   have hjb:j∈ids b:=fB h j hj
   have:j∉ids a:=fun h1=>hn.2.2 j h1 j hjb rfl
   simp only [bx,de this,h2 j hj]
 | .loop c,d,id,h,hn=>by
  simp only [bx] at h
  obtain ⟨h1,h2⟩:=iT h hn
  exact ⟨h1,fun j hj=>by simp only [bx];exact h2 j hj⟩
 | .block i c,d,id,h,hn=>by
  simp only [ids,List.nodup_cons] at hn
  simp only [bx] at h
  split at h
  ·cases h
   refine ⟨hn.2,fun j hj=> ?_⟩
   have:i≠j:=fun e=>hn.1 (e▸hj)
   simp only [bx,if_neg this]
  ·obtain ⟨h1,h2⟩:=iT h hn.2
   refine ⟨h1,fun j hj=> ?_⟩
   have:i≠j:=fun e=>hn.1 (e▸fB h j hj)
   simp only [bx,if_neg this];exact h2 j hj
 | .skip,_,_,h,_=>by cases h
 | .region ..,_,_,h,_=>by cases h
 | .exit _,_,_,h,_=>by cases h
 | .scope _,_,_,h,_=>by cases h
 | .label _,_,_,h,_=>by cases h
 | .goto _,_,_,h,_=>by cases h
 | .ret,_,_,h,_=>by cases h
 | .refuse _,_,_,h,_=>by cases h
where
 gH: ∀ {c:Code} {j:Nat},j∈ids c->bx j c≠none
  | .seq a b,j,h=>by
   simp only [ids,List.mem_append] at h
   simp only [bx]
   rcases h with h|h
   ·have:=gH h
    split<;>simp_all
   ·have:=gH h
    split<;>simp_all
  | .cond _ a b,j,h=>by
   simp only [ids,List.mem_append] at h
   simp only [bx]
   rcases h with h|h
   ·have:=gH h
    split<;>simp_all
   ·have:=gH h
    split<;>simp_all
  | .rangeFunc _ _ a b,j,h=>by
   simp only [ids,List.mem_append] at h
   simp only [bx]
   rcases h with h|h
   ·have:=gH h
    split<;>simp_all
   ·have:=gH h
    split<;>simp_all
  | .loop c,j,h=>by simp only [ids] at h;simp only [bx];exact gH h
  | .block i c,j,h=>by
   simp only [ids,List.mem_cons] at h
   simp only [bx]
   split
   ·simp
   ·rename_i hi;exact gH (h.resolve_left (Ne.symm hi))
  | .skip,_,h=>by simp [ids] at h
  | .region ..,_,h=>by simp [ids] at h
  | .exit _,_,h=>by simp [ids] at h
  | .scope _,_,h=>by simp [ids] at h
  | .label _,_,h=>by simp [ids] at h
  | .goto _,_,h=>by simp [ids] at h
  | .ret,_,h=>by simp [ids] at h
  | .refuse _,_,h=>by simp [ids] at h
 fB: ∀ {c b:Code} {id:Nat},bx id c=some b-> ∀j∈ids b,j∈ids c
  | .seq a b,d,id,h=>by
   intro j hj
   simp only [bx] at h
   simp only [ids,List.mem_append]
   split at h
   ·rename_i hc;cases h;exact .inl (fB hc j hj)
   ·exact .inr (fB h j hj)
  | .cond _ a b,d,id,h=>by
   intro j hj
   simp only [bx] at h
   simp only [ids,List.mem_append]
   split at h
   ·rename_i hc;cases h;exact .inl (fB hc j hj)
   ·exact .inr (fB h j hj)
  | .rangeFunc _ _ a b,d,id,h=>by
   intro j hj
   simp only [bx] at h
   simp only [ids,List.mem_append]
   split at h
   ·rename_i hc;cases h;exact .inl (fB hc j hj)
   ·exact .inr (fB h j hj)
  | .loop c,d,id,h=>by intro j hj;simp only [bx] at h;simp only [ids];exact fB h j hj
  | .block i c,d,id,h=>by
   intro j hj
   simp only [bx] at h
   simp only [ids,List.mem_cons]
   split at h
   ·cases h;exact .inr hj
   ·exact .inr (fB h j hj)
  | .skip,_,_,h=>by cases h
  | .region ..,_,_,h=>by cases h
  | .exit _,_,_,h=>by cases h
  | .scope _,_,_,h=>by cases h
  | .label _,_,_,h=>by cases h
  | .goto _,_,_,h=>by cases h
  | .ret,_,_,h=>by cases h
  | .refuse _,_,_,h=>by cases h
theorem Ru {lp:List (Nat×bC)} {ys:List (Nat×Spec)} {its:List (Nat×k9)} {c:Code} (hn:(ids c).Nodup) (h:au P X c lp):uJ P ⟨tt,specs,X,lp,ys,its⟩ c:=
 jy c hn fun id _ sp hs b hb aC W ro n hX hro st K hk ρ a w bE=>by
  have:=h aC W ro n hX id sp hs (by simpa only [bR,hb] using hro) st K hk ρ a w bE
  simp only [bR,hb] at this;exact this
theorem au.aiv {c b:Code} {lp:List (Nat×bC)} {ys:List (Nat×Spec)} {its:List (Nat×k9)} {id:Nat} {sp:bC} (hl:au P X c lp) (hn':jf (ids c)=true) (hb:bx id c=some b)
  (h:uJ P ⟨tt,specs,X,lp,ys,its⟩ b-> ∀aC W ro n,GU aC W X->(ro=none\/ nc b=true)-> ∀st K,sp st K-> ∀ρ a w,JF aC W st ρ a w->b.wpIn (fw ro) n P (Post aC W (jm id (iB K))) a w):au P X c ((id,sp)::lp):=by
 have hn:=lB hn'
 intro aC W ro n hX id' sp' hs hro st K hk ρ a w bE
 unfold aJ at hs
 split at hs
 ·rename_i e;subst e;cases hs
  obtain ⟨h1,h2⟩:=iT hb hn
  have:uJ P ⟨tt,specs,X,lp,ys,its⟩ b:=jy b h1 fun j hj sp hs d hd aC W ro n hX hro st K hk ρ a w bE=>by
   have:=hl aC W ro n hX j sp hs (by simpa only [bR,h2 j hj,hd] using hro) st K hk ρ a w bE
   simp only [bR,h2 j hj,hd] at this;exact this
  simp only [bR,hb] at hro ⊢
  exact wpIn_mono (JQ (h this aC W ro n hX hro st K hk ρ a w bE)) fun e a w h=>abm h
 ·exact hl aC W ro n hX id' sp' hs hro st K hk ρ a w bE
theorem au.cons (hT:aW P tt) {lp:List (Nat×bC)} {ys:List (Nat×Spec)} {its:List (Nat×k9)} (hC:rz P ⟨tt,specs,X,lp,ys,its⟩) (hm:P.follows .mixedOrders=true) {c b:Code} {id:Nat} {sp:bC} (hl:au P X c lp) (hn':jf (ids c)=true) (hb:bx id c=some b)
  (h: ∀st K,sp st K->cy ⟨tt,specs,X,lp,ys,its⟩ b st (jm id (iB K))):au P X c ((id,sp)::lp):=
 hl.aiv (tt:=tt) (specs:=specs) (ys:=ys) (its:=its) hn' hb fun AB aC W ro n hX hro st K hk ρ a w bE=>rC (ctx:=⟨tt,specs,X,lp,ys,its⟩) hT hC hm b AB aC W ro n hX hro st _ (h st K hk) ρ a w bE
def MP (tt:List (Nat×TI)) (specs:List (Nat×Spec)) (X:Addr->Value->Prop) (lp:List (Nat×bC)) (ys:List (Nat×Spec)) (its:List (Nat×k9)) (id:Nat) (c:Code) (N:Nat):bC:=fun st K=>Cu ⟨tt,specs,X,lp,ys,its⟩ c N st (jm id K)
theorem au.Cu (hT:aW P tt) {lp:List (Nat×bC)} {ys:List (Nat×Spec)} {its:List (Nat×k9)} (hC:rz P ⟨tt,specs,X,lp,ys,its⟩) (hm:P.follows .mixedOrders=true) {c b:Code} {id:Nat} (N:Nat) (hl:au P X c lp) (hn':jf (ids c)=true) (hb:bx id c=some (.loop b)):
  au P X c ((id,MP tt specs X lp ys its id b N)::lp):=by
 have hn:=lB hn'
 intro aC W ro n hX id' sp' hs hro st K hk ρ a w bE
 unfold aJ at hs
 split at hs
 ·rename_i e;subst e;cases hs
  obtain ⟨h1,h2⟩:=iT hb hn
  have AB:uJ P ⟨tt,specs,X,lp,ys,its⟩ (.loop b):=jy (.loop b) h1 fun j hj sp hs d hd aC W ro n hX hro st K hk ρ a w bE=>by
   have:=hl aC W ro n hX j sp hs (by simpa only [bR,h2 j hj,hd] using hro) st K hk ρ a w bE
   simp only [bR,h2 j hj,hd] at this;exact this
  simp only [bR,hb] at hro ⊢
  exact JQ (acC (ctx:=⟨tt,specs,X,lp,ys,its⟩) hT hC hm b hX hro AB N st _ hk ρ a w bE)
 ·exact hl aC W ro n hX id' sp' hs hro st K hk ρ a w bE
def fq (tt:List (Nat×TI)) (specs:List (Nat×Spec)) (X:Addr->Value->Prop) (lp:List (Nat×Spec)->List (Nat×bC)) (its:List (Nat×k9)) (fn:Func):k9:=fun ys args heap R=>Na ⟨tt,specs,X,lp ys,ys,its⟩ fn args heap R
theorem dr.fn (hT:aW P tt) (hS:ae P specs) (hm:P.follows .mixedOrders=true) {f:FuncId} {fn:Func} (hf:P.funcs[f]? =some fn) (hn:jf (ids (bn fn))=true) {lp:List (Nat×Spec)->List (Nat×bC)} {its:List (Nat×k9)} (hits:av P X its)
  (AB: ∀ys,xe P ys->au P X (bn fn) (lp ys)):dr P X f (fq tt specs X lp its fn):=by
 intro ys args heap R h hy aC W ρ w hX hargs hst
 refine uM (ctx:=⟨tt,specs,X,lp ys,ys,its⟩) hT ⟨hS,hy,hits⟩ hX hm hf (fun c hc=> ?_) h hargs hst
 have:bn fn=c:=by unfold bn;rw [hc]
 subst this
 exact Ru (lB hn) (AB ys hy)
end
section
variable {P:Program}
theorem aW.nil:aW P []:=fun _ _ h=>by cases h
theorem aW.cons {t:TypeId} {i:TI} {l:List (Nat×TI)} (hu:P.underlying t=some i.desc) (hs:0<i.size) (hi:(P.info? t).map (fun q=>(q.size,q.bytes,q.zero))=some (i.size,i.bytes,some i.zero))
  (ha:(!aR i.desc||(!P.stoodInHeld t&& !P.eqGuardType P.depth t))=true) (hl:aW P l):aW P ((t,i)::l):=by
 intro u j h
 unfold aJ at h
 split at h
 ·rename_i e;subst e;cases h
  refine ⟨hu,hs,?_⟩
  cases hq:P.info? t with
  |none=>rw [hq] at hi;cases hi
  |some q=>
   rw [hq] at hi
   simp only [Option.map_some,Option.some.injEq,Prod.mk.injEq] at hi
   refine ⟨q,rfl,hi.1,hi.2.1,hi.2.2,fun uI=> ?_⟩
   rw [uI] at ha
   simpa using ha
 ·exact hl u j h
theorem dS.of {f:FuncId} {fn:Func} (hf:P.funcs[f]? =some fn) (h1:(fn.name== "runtime.NumGoroutine")=false) (h2:fn.body.isNone=false):dS P f:=by
 intro args w
 simp only [callFunc,Sem.run_bind,run_program,Result.andThen_ok,hf,h1,h2,Bool.false_eq_true,if_false,Sem.run_pure]
theorem av.cons {X:Addr->Value->Prop} {f:FuncId} {WL:k9} {l:List (Nat×k9)} (he:dS P f) (h:dr P X f WL) (hl:av P X l):av P X ((f,WL)::l):=by
 intro g q hg
 unfold aJ at hg
 split at hg
 ·rename_i e;subst e;cases hg;exact ⟨he,h⟩
 ·exact hl g q hg
end
instance anW {A B:Type} [Inhabited A]:Inhabited (A⊕B):=⟨.inl default⟩
inductive Term {S R:Type} (step:S->S⊕R) (pre:S->Prop):S->Prop
 |mk (s:S) (hp:pre s) (h: ∀s',step s= .inl s'->Term step pre s'):Term step pre s
def iJ {S R:Type} (step:S->S⊕R):Nat->S->Option R
 |0,_=>none
 |n+1,s=>match step s with
  | .inl s'=>iJ step n s'
  | .inr r=>some r
theorem KE {S R:Type} {step:S->S⊕R} : ∀(n:Nat) (s:S) (r:R),iJ step n s=some r->iJ step (n+1) s=some r
 |0,_,_,h=>by cases h
 |n+1,s,r,h=>by
  simp only [iJ] at h
  show (match step s with| .inl s'=>iJ step (n+1) s'| .inr r=>some r)=some r
  cases hs:step s with
  |inl s'=>rw [hs] at h;exact KE n s' r h
  |inr r'=>rw [hs] at h;exact h
theorem TF {S R:Type} {step:S->S⊕R} {n m:Nat} {s:S} {r:R} (h:iJ step n s=some r) (hm:n<=m):iJ step m s=some r:=by
  induction m with
  |zero=>   have:n=0:=by omega
            subst this;exact h
  | succ m ih=>
    rcases Nat.lt_or_ge m n with h1|h1
    · have:n=m+1:=by omega
      subst this;exact h
    · exact KE m s r (ih h1)
open Classical in
def run {S R:Type} [Inhabited R] (step:S->S⊕R) (s:S):R:=if h: ∃r n,iJ step n s=some r then Classical.choose h else default
theorem LP {S R:Type} [Inhabited R] {step:S->S⊕R} {n:Nat} {s:S} {r:R} (h:iJ step n s=some r):run step s=r:=by
 have hx: ∃r n,iJ step n s=some r:=⟨r,n,h⟩
 unfold run
 rw [dif_pos hx]
 obtain ⟨m,hm⟩:=Classical.choose_spec hx
 have h1:=TF h (Nat.le_max_left n m)
 have h2:=TF hm (Nat.le_max_right n m)
 rw [h1] at h2
 exact (Option.some.inj h2).symm
theorem run_eq {S R:Type} [Inhabited R] (step:S->S⊕R) (s:S):run step s=match step s with| .inl s'=>run step s'| .inr r=>r:=by
 cases hs:step s with
 |inr r=>exact LP (n:=1) (by simp only [iJ,hs])
 |inl s'=>
  dsimp only
  by_cases h: ∃r n,iJ step n s'=some r
  ·obtain ⟨r,n,h⟩:=h
   rw [LP h]
   exact LP (n:=n+1) (by simp only [iJ,hs,h])
  ·have h2: ¬ ∃r n,iJ step n s=some r:=by
    rintro ⟨r,n,hn⟩
    cases n with
    |zero=>cases hn
    |succ n=>simp only [iJ,hs] at hn;exact h ⟨r,n,hn⟩
   unfold run
   rw [dif_neg h,dif_neg h2]
theorem Term.iter {S R:Type} {step:S->S⊕R} {pre:S->Prop} {s:S} (h:Term step pre s): ∃r n,iJ step n s=some r:=by
 induction h with
 |mk s hp h ih=>
  cases hs:step s with
  |inr r=>exact ⟨r,1,by simp only [iJ,hs]⟩
  |inl s'=>
   obtain ⟨r,n,hn⟩:=ih s' hs
   exact ⟨r,n+1,by simp only [iJ,hs,hn]⟩
theorem Term.of {S R:Type} {step:S->S⊕R} {pre:S->Prop} (J:S->Prop) (μ:S->Nat) (h: ∀s,J s->pre s/\ ∀s',step s= .inl s'->J s'/\ μ s'<μ s): ∀s,J s->Term step pre s:=by
 intro s hs
 obtain ⟨n,hn⟩: ∃n,n=μ s:=⟨_,rfl⟩
 induction n using Nat.strongRecOn generalizing s with
 |_ n ih=>
  obtain ⟨h1,h2⟩:=h s hs
  exact ⟨s,h1,fun s' hs'=>by
   obtain ⟨h3,h4⟩:=h2 s' hs'
   exact ih (μ s') (by omega) s' h3 rfl⟩
def cS {A B:Type} (r:A⊕B) (p:A->Prop) (q:B->Prop):Prop:=match r with
 | .inl a=>p a
 | .inr b=>q b
def pB {S R:Type} [Inhabited R] (tm:S->AS) (step:S->S⊕R) (pre:S->Prop) (out:R->(Exit->AS->Prop)->Prop):bC:=fun st K=> ∃s0,pN st (tm s0)/\ Term step pre s0/\ ∀r,r=run step s0->out r K
def KB (id:Nat) (K:Exit->AS->Prop) (KN:AS->Prop) (e:Exit) (st:AS):Prop:=match e with
 | .normal=> ∃st',pN st st'/\ KN st'
 |e=>jm id (iB K) e st
def cz {S R:Type} (tm:S->AS) (out:R->(Exit->AS->Prop)->Prop) (K:Exit->AS->Prop) (KN:AS->Prop) (v:S⊕R):Prop:=match v with
 | .inl s=>KN (tm s)
 | .inr r=>out r K
theorem aa2 {S R:Type} [Inhabited R] {ctx:Ctx} {c:Code} {id:Nat} {tm:S->AS} {step:S->S⊕R} {pre:S->Prop} {out:R->(Exit->AS->Prop)->Prop}
  (hr: ∀s K KN,pre s->cz tm out K KN (step s)->cy ctx c (tm s) (KB id K KN)) (st:AS) (K:Exit->AS->Prop) (h:pB tm step pre out st K):cy ctx (.loop c) st (jm id (iB K)):=by
 obtain ⟨s0,hw,ht,hk⟩:=h
 obtain ⟨r,n,hn⟩:=ht.iter
 have hr0:=LP hn
 refine ⟨fun m st=> ∃s,st=tm s/\ Term step pre s/\ iJ step m s=some r,⟨n,_,hw,s0,rfl,ht,hn⟩,?_⟩
 rintro m Cs ⟨s,rfl,hts,hm⟩
 have e:(fun (e:Exit) (IA:AS)=>match e with| .normal=> ∃m' st',m'<m/\ pN IA st'/\ ∃s,st'=tm s/\ Term step pre s/\ iJ step m' s=some r|e=>jm id (iB K) e IA)=
   KB id K fun st'=> ∃m',m'<m/\ ∃s,st'=tm s/\ Term step pre s/\ iJ step m' s=some r:=by
  funext e IA
  cases e<;>try rfl
  refine propext ⟨?_,?_⟩
  ·rintro ⟨m',st',h1,h2,h3⟩;exact ⟨st',h2,m',h1,h3⟩
  ·rintro ⟨st',h2,m',h1,h3⟩;exact ⟨m',st',h1,h2,h3⟩
 refine e▸hr s K _ ?_ ?_
 ·cases hts with|mk _ hp _=>exact hp
 ·match m,hm with
  |0,hm=>cases hm
  |m+1,hm=>
   simp only [iJ] at hm
   cases hs:step s with
   |inl s'=>
    rw [hs] at hm
    cases hts with|mk _ _ h=>exact ⟨m,by omega,s',rfl,h s' hs,hm⟩
   |inr r'=>
    rw [hs] at hm
    have:r'=run step s0:=by rw [hr0];exact Option.some.inj hm
    exact hk r' this
def cZ:Addr->Value->Prop:=fun _ _=>False
theorem cZ.ok (aC:mY) (W:World):GU aC W cZ:=fun _ _ h=>h.elim
theorem uU (rk:Nat) {ρ ρ':Env} {d:Nat} : ∀(cs:List cD) (nm:Nat),(∀i,i<(cO rk nm cs).2.length->ρ' (nm+i+d)=ρ (nm+i))->(cO rk (nm+d) cs).1.map (Cell.af ρ')=(cO rk nm cs).1.map (Cell.af ρ)/\ (cO rk (nm+d) cs).2=(cO rk nm cs).2
 | [],nm,_=>⟨rfl,rfl⟩
 | .flat v::r,nm,h=>by
  obtain ⟨h1,h2⟩:=uU rk (d:=d) r nm h
  simp only [cO,List.map_cons,h1,h2];exact ⟨rfl,trivial⟩
 | .sl u l::r,nm,h=>by
  have h0:=h 0 (by simp [cO])
  obtain ⟨h1,h2⟩:=uU rk (ρ:=ρ) (ρ':=ρ') (d:=d) r (nm+1) fun i hi=>by
   have:=h (i+1) (by simpa [cO] using hi)
   rwa [show nm+(i+1)+d=nm+1+i+d by omega,show nm+(i+1)=nm+1+i by omega] at this
  rw [Nat.add_zero] at h0
  rw [show nm+1+d=nm+d+1 by omega] at h1 h2
  simp only [cO,List.map_cons,h1,h2,Cell.af,h0];exact ⟨trivial,trivial⟩
theorem CO (rk:Nat): ∀(cs:List cD) (nm:Nat),∀c∈(cO rk nm cs).1,c.ok fun m=>nm<=m/\ m<nm+(cO rk nm cs).2.length
 | [],nm,c,h=>by simp [cO] at h
 | .flat v::r,nm,c,h=>by
  simp only [cO,List.mem_cons] at h
  rcases h with rfl|h
  ·trivial
  ·exact CO rk r nm c h
 | .sl u l::r,nm,c,h=>by
  simp only [cO,List.mem_cons] at h
  rcases h with rfl|h
  ·simp only [cO,List.length_cons,Cell.ok];omega
  ·exact Cell.bG (fun m hm=>by simp only [cO,List.length_cons];omega) c (CO rk r (nm+1) c h)
theorem zv (rk:Nat): ∀(cs:List cD) (nm:Nat),∀o∈(cO rk nm cs).2,∃u,∃l:List u.T,o= .row u l rk
 | [],nm,o,h=>by simp [cO] at h
 | .flat v::r,nm,o,h=>zv rk r nm o h
 | .sl u l::r,nm,o,h=>by
  simp only [cO,List.mem_cons] at h
  rcases h with rfl|h
  ·exact ⟨u,l,rfl⟩
  ·exact zv rk r (nm+1) o h
theorem Od {a:Bool} {cs cs':List Cell} {ρ ρ':Env} (h:cs'.map (Cell.af ρ')=cs.map (Cell.af ρ)):(wZ a cs').af ρ'=(wZ a cs).af ρ:=by
 have hl:cs'.length=cs.length:=by simpa using congrArg List.length h
 cases a with
 |true=>simp only [wZ,A0.af,h]
 |false=>
  match cs,cs',hl with
  | [],[],_=>rfl
  | [c],[c'],_=>simp only [List.map_cons,List.map_nil,List.cons.injEq,and_true] at h;simp only [wZ,A0.af,h]
  |_::_::_,_::_::_,_=>simp only [wZ,A0.af,h]
theorem YN {a:Bool} {cs:List Cell} {Kn:Nat->Prop} (h: ∀c∈cs,c.ok Kn):(wZ a cs).ok Kn:=by
 cases a with
 |true=>exact h
 |false=>
  match cs,h with
  | [],h=>exact h
  | [c],h=>exact h c (by simp)
  |_::_::_,h=>exact h
def wI.res:wI->Bool
 | .ptr _=>false
 | .ik _ _=>false
 | .mv _ _ _=>false
 | .pair a b=>a.res&&b.res
 |_=>true
theorem uV (rk:Nat) {ρ ρ':Env} {d:Nat} : ∀(p:wI) (x:p.ty.T) (nm:Nat),p.res=true->(∀i,i<(bz rk nm p x).2.length->ρ' (nm+i+d)=ρ (nm+i))->(bz rk (nm+d) p x).1.map (A0.af ρ')=(bz rk nm p x).1.map (A0.af ρ)/\ (bz rk (nm+d) p x).2=(bz rk nm p x).2
 | .one t,x,nm,_,h=>by
  obtain ⟨h1,h2⟩:=uU rk (ρ:=ρ) (ρ':=ρ') (d:=d) (t.aM x) nm h
  simp only [bz,List.map_cons,List.map_nil,Od h1,h2];exact ⟨trivial,trivial⟩
 | .agg t,x,nm,_,h=>by
  obtain ⟨h1,h2⟩:=uU rk (ρ:=ρ) (ρ':=ρ') (d:=d) (t.aM x) nm h
  simp only [bz,List.map_cons,List.map_nil,Od h1,h2];exact ⟨trivial,trivial⟩
 | .ptr t,x,nm,hr,h=>by cases hr
 | .ik f p,x,nm,hr,h=>by cases hr
 | .mv f agg t,x,nm,hr,h=>by cases hr
 | .pair a b,x,nm,hr,h=>by
  simp only [wI.res,Bool.and_eq_true] at hr
  obtain ⟨h1,h2⟩:=uV rk (ρ:=ρ) (ρ':=ρ') (d:=d) a x.1 nm hr.1 fun i hi=>h i (by simp only [bz,List.length_append];omega)
  obtain ⟨h3,h4⟩:=uV rk (ρ:=ρ) (ρ':=ρ') (d:=d) b x.2 (nm+(bz rk nm a x.1).2.length) hr.2 fun i hi=>by
   have:=h ((bz rk nm a x.1).2.length+i) (by simp only [bz,List.length_append];omega)
   rwa [<- Nat.add_assoc nm] at this
  rw [show nm+(bz rk nm a x.1).2.length+d=nm+d+(bz rk nm a x.1).2.length by omega] at h3 h4
  simp only [bz,List.map_append,h1,h2,h3,h4];exact ⟨trivial,trivial⟩
 | .none,x,nm,_,h=>⟨rfl,rfl⟩
theorem rI (rk:Nat): ∀(p:wI) (x:p.ty.T) (nm:Nat),∀c∈(bz rk nm p x).1,c.ok fun m=>nm<=m/\ m<nm+(bz rk nm p x).2.length
 | .one t,x,nm,c,h=>by
  simp only [bz,List.mem_singleton] at h
  subst h;exact YN (CO rk _ nm)
 | .agg t,x,nm,c,h=>by
  simp only [bz,List.mem_singleton] at h
  subst h;exact YN (CO rk _ nm)
 | .ptr t,x,nm,c,h=>by
  simp only [bz,List.mem_singleton] at h
  subst h;simp only [bz,List.length_singleton,A0.ok,Cell.ok];omega
 | .mv f agg t,x,nm,c,h=>by
  simp only [bz,List.mem_singleton] at h
  subst h
  intro q hq
  obtain ⟨a,ha,rfl⟩:=List.mem_map.1 hq
  have:=CO rk (t.aM x) nm a ha
  unfold afs
  split
  ·trivial
  ·exact this
  ·trivial
 | .ik f p,x,nm,c,h=>by
  simp only [bz,List.mem_singleton] at h
  subst h
  intro q hq
  obtain ⟨a,ha,rfl⟩:=List.mem_map.1 hq
  have:=rI rk p x nm a ha
  unfold UX
  split
  ·exact this
  ·trivial
 | .pair a b,x,nm,c,h=>by
  simp only [bz,List.mem_append] at h
  rcases h with h|h
  ·exact A0.bG (fun m hm=>by simp only [bz,List.length_append];omega) c (rI rk a x.1 nm c h)
  ·exact A0.bG (fun m hm=>by simp only [bz,List.length_append];omega) c (rI rk b x.2 _ c h)
 | .none,x,nm,c,h=>by simp [bz] at h
theorem FU (rk:Nat): ∀(p:wI) (x:p.ty.T) (nm:Nat),p.res=true-> ∀o∈(bz rk nm p x).2,∃u,∃l:List u.T,o= .row u l rk
 | .one t,x,nm,_,o,h=>zv rk _ nm o h
 | .agg t,x,nm,_,o,h=>zv rk _ nm o h
 | .ptr t,x,nm,hr,o,h=>by cases hr
 | .ik f p,x,nm,hr,o,h=>by cases hr
 | .mv f agg t,x,nm,hr,o,h=>by cases hr
 | .pair a b,x,nm,hr,o,h=>by
  simp only [wI.res,Bool.and_eq_true] at hr
  simp only [bz,List.mem_append] at h
  rcases h with h|h
  ·exact FU rk a x.1 nm hr.1 o h
  ·exact FU rk b x.2 _ hr.2 o h
 | .none,x,nm,_,o,h=>by simp [bz] at h
theorem Pq {l l':List A0} {ρ ρ':Env} (h:l'.map (A0.af ρ')=l.map (A0.af ρ)):(vS l').af ρ'=(vS l).af ρ:=by
 have hl:l'.length=l.length:=by simpa using congrArg List.length h
 match l,l',hl with
 | [],[],_=>rfl
 | [c],[c'],_=>simp only [List.map_cons,List.map_nil,List.cons.injEq,and_true] at h;simp only [vS,AV.af,h]
 |_::_::_,_::_::_,_=>simp only [vS,AV.af,h]
theorem Zu {l:List A0} {Kn:Nat->Prop} (h: ∀c∈l,c.ok Kn):(vS l).ok Kn:=by
 match l,h with
 | [],h=>exact h
 | [c],h=>exact h c (by simp)
 |_::_::_,h=>exact h
theorem St.grow {aC:mY} {W:World} {ρ cn:Env} {Kn:Nat->Prop} {Γ:HP} {w w':World} {nm:Nat} {os:List aX} {v:AV} {tc:List Nat} (h:St aC W ρ Kn Γ w) (hn: ∀i,i<os.length-> ¬Kn (nm+i)) (hrow: ∀o∈os,∃u,∃l:List u.T,o= .row u l 2) (h1:St W3 w cn (· <os.length) (aA os) w'):
  ∃ρ',(∀m,Kn m->ρ' m=ρ m)/\ (∀n,n<os.length->ρ' (n+nm)=cn n)/\ St aC W ρ' (tP Kn nm {val:=v,fresh:=os,aO:=tc}) (dO {val:=v,fresh:=os,aO:=tc} nm Γ) w':=by
 let ρ':Env:=fun m=>if nm<=m/\ m<nm+os.length then cn (m- nm) else ρ m
 have hold: ∀m,Kn m->ρ' m=ρ m:=fun m hm=>by
  simp only [ρ']
  rw [if_neg]
  rintro ⟨h2,h3⟩
  exact hn (m- nm) (by omega) (by rw [show nm+(m- nm)=m by omega];exact hm)
 have hnew: ∀n,n<os.length->ρ' (n+nm)=cn n:=fun n hn=>by
  simp only [ρ']
  rw [if_pos (by omega),show n+nm- nm=n by omega]
 have dw: ∀m o,dO {val:=v,fresh:=os,aO:=tc} nm Γ m=some o->(∃n,m=n+nm/\ n<os.length/\ aA os n=some o/\ ∃u,∃l:List u.T,o= .row u l 2)\/ (Γ m=some o/\ Kn m):=by
  intro m o ho
  simp only [dO,dP] at ho
  split at ho
  ·rename_i hc
   have hlt:m- nm<os.length:=by omega
   refine .inl ⟨m- nm,by omega,hlt,by rw [bY];exact ho,?_⟩
   rw [List.getElem?_eq_getElem hlt] at ho
   obtain ⟨u,l,e⟩:=hrow _ (List.getElem_mem hlt)
   rw [e] at ho
   simp only [live,Option.some.injEq] at ho
   exact ⟨u,l,ho.symm⟩
  ·exact .inr ⟨ho,(h.kn m o ho).1⟩
 have hf1: ∀b,b<w.heap.size->w'.heap[b]? =w.heap[b]? :=fun b hb=>h1.fr.block b hb id
 have hnb: ∀n b,n<os.length->(aA os n).isSome=true->(cn n).has b->w.heap.size<=b:=fun n b _ hs hb=>by
  rcases h1.yb n b hs hb with h2|h2
  ·exact h2
  ·exact h2.elim
 have w5: ∀m o b,Γ m=some o->(ρ m).has b->b<w.heap.size:=fun m o b ho hb=>h.lt m b (by rw [ho];rfl) hb
 have ak2: ∀b,LOb ρ' (dO {val:=v,fresh:=os,aO:=tc} nm Γ) b->(w.heap.size<=b/\ LOb cn (aA os) b)\/ (b<w.heap.size/\ LOb ρ Γ b):=by
  rintro b ⟨m,h2,h3⟩
  obtain ⟨o,ho⟩:=Option.isSome_iff_exists.1 h2
  rcases dw m o ho with ⟨n,rfl,Ng,hp,_⟩|⟨hg,hk⟩
  ·rw [hnew n Ng] at h3
   exact .inl ⟨hnb n b Ng (by rw [hp];rfl) h3,n,by rw [hp];rfl,h3⟩
  ·rw [hold m hk] at h3
   exact .inr ⟨w5 m o b hg h3,m,by rw [hg];rfl,h3⟩
 have Kj: ∀b,HI (dO {val:=v,fresh:=os,aO:=tc} nm Γ) b->HI Γ b:=fun b ⟨m,S,h2,h3⟩=>by
  rcases dw m _ h2 with ⟨n,_,_,_,u,l,e⟩|⟨hg,hk⟩
  ·cases e
  ·exact ⟨m,S,hg,h3⟩
 have hLO: ∀b,LO ρ' (dO {val:=v,fresh:=os,aO:=tc} nm Γ) b->(w.heap.size<=b/\ LO cn (aA os) b)\/ (b<w.heap.size/\ LO ρ Γ b):=by
  rintro b (h2|h2)
  ·exact (ak2 b h2).imp (fun h=>⟨h.1,.inl h.2⟩) (fun h=>⟨h.1,.inl h.2⟩)
  ·exact .inr ⟨(h.F5 b (Kj b h2)).1,.inr (Kj b h2)⟩
 have hsz:=h.fr.size
 have apF:=h1.fr.size
 have hfz: ∀b,lV ρ Γ w b->lV ρ' (dO {val:=v,fresh:=os,aO:=tc} nm Γ) w' b/\ w'.heap[b]? =w.heap[b]? :=fun b hb=>by
  have hlt:=hb.1.lt
  refine ⟨⟨hb.1.same (hf1 b hlt),fun hl=> ?_⟩,hf1 b hlt⟩
  rcases hLO b hl with ⟨h2,_⟩|⟨_,h2⟩
  ·omega
  ·exact hb.2 h2
 have aha: ∀b,lV cn (aA os) w' b->VR W3 w b->lV ρ' (dO {val:=v,fresh:=os,aO:=tc} nm Γ) w' b/\ VR aC W b:=fun b hb hp=>by
  have hge:w.heap.size<=b:=by
   rcases hp with h2|h2|h2
   ·exact h2
   ·exact h2.elim
   ·exact h2.elim
  refine ⟨⟨hb.1,fun hl=> ?_⟩,.inl (by omega)⟩
  rcases hLO b hl with ⟨_,h2⟩|⟨h2,_⟩
  ·exact hb.2 h2
  ·omega
 have am6: ∀m:Nat,m<os.length->tP Kn nm {val:=v,fresh:=os,aO:=tc} (m+nm):=fun m hm=> .inr (by simp only [];omega)
 refine ⟨ρ',hold,hnew,⟨?_,fun m o ho=> ?_,fun m o ho=> ?_,fun m m' b hm hm' lX kH=> ?_,fun m b hm hb=> ?_,fun b hh=> ?_,fun m o ho=> ?_⟩⟩
 rotate_right
 ·rcases dw m o ho with ⟨n,rfl,Ng,hp,_⟩|⟨hg,hk⟩
  ·rw [hnew n Ng];exact h1.Nl n o hp
  ·rw [hold m hk];exact h.Nl m o hg
 rotate_right
 ·obtain ⟨h2,h3⟩:=h.F5 b (Kj b hh)
  refine ⟨by omega,fun h4=> ?_⟩
  rcases ak2 b h4 with ⟨h5,_⟩|⟨_,h5⟩
  ·omega
  ·exact h3 h5
 ·exact h.fr.trans h1.fr.Ze
 ·rcases dw m o ho with ⟨n,rfl,Ng,hp,u,l,rfl⟩|⟨hg,hk⟩
  ·obtain ⟨g1,g2,g3,sub,g4,g5,g6,g7⟩:=h1.at_ n _ hp
   rw [dF,hnew n Ng]
   exact ⟨g1,g2,g3,sub,fun i x hi=>by
    obtain ⟨a,e1,e2,_⟩:=g4 i x hi
    exact ⟨a,e1,e2,fun h=>by cases h⟩,fun q u' l' hq=>(g5 q u' l' hq).weak fun b hb=>by
     obtain ⟨e1,e2⟩:=aha b hb.1 (hb.2 rfl)
     exact ⟨e1,fun _=>e2⟩,g6,g7⟩
  ·exact dj (Kn:=Kn) (h.at_ m o hg) hold hk (h.kn m o hg).2 hfz (fun _ _ h=>h) fun b hb=>hf1 b (w5 m o b hg hb)
 ·rcases dw m o ho with ⟨n,rfl,Ng,hp,u,l,rfl⟩|⟨hg,hk⟩
  ·exact ⟨am6 n Ng,trivial⟩
  ·exact ⟨.inl hk,aX.bG (fun _=> .inl) o (h.kn m o hg).2⟩
 ·obtain ⟨o,ho⟩:=Option.isSome_iff_exists.1 hm
  obtain ⟨o',Cx⟩:=Option.isSome_iff_exists.1 hm'
  rcases dw m o ho with ⟨n,rfl,Ng,hp,_⟩|⟨hg,hk⟩
  ·rw [hnew n Ng] at lX
   rcases dw m' o' Cx with ⟨n',rfl,ahc,m6,_⟩|⟨hg',hk'⟩
   ·rw [hnew n' ahc] at kH
    rw [h1.qC n n' b (by rw [hp];rfl) (by rw [m6];rfl) lX kH]
   ·rw [hold m' hk'] at kH
    have:=hnb n b Ng (by rw [hp];rfl) lX
    have:=w5 m' o' b hg' kH
    omega
  ·rw [hold m hk] at lX
   rcases dw m' o' Cx with ⟨n',rfl,ahc,m6,_⟩|⟨hg',hk'⟩
   ·rw [hnew n' ahc] at kH
    have:=hnb n' b ahc (by rw [m6];rfl) kH
    have:=w5 m o b hg lX
    omega
   ·rw [hold m' hk'] at kH
    exact h.qC m m' b (by rw [hg];rfl) (by rw [hg'];rfl) lX kH
 ·obtain ⟨o,ho⟩:=Option.isSome_iff_exists.1 hm
  rcases dw m o ho with ⟨n,rfl,Ng,hp,_⟩|⟨hg,hk⟩
  ·rw [hnew n Ng] at hb
   have:=hnb n b Ng (by rw [hp];rfl) hb
   exact .inl (by omega)
  ·rw [hold m hk] at hb
   exact h.yb m b (by rw [hg];rfl) hb
section
variable {P:Program} {tt:List (Nat×TI)} {specs:List (Nat×Spec)}
theorem ah.fnT (hT:aW P tt) (hS:ae P specs) (hm:P.follows .mixedOrders=true) {f:FuncId} {fn:Func} (hf:P.funcs[f]? =some fn) (hn:jf (ids (bn fn))=true) {s:bB} (hres:s.r.res=true)
  (h: ∀x,s.pre x-> ∃lp its,av P cZ its/\ au P cZ (bn fn) lp/\ Na ⟨tt,specs,cZ,lp,[],its⟩ fn (ij s.p x) (iq s.p x) (Ss s.r (· =s.f x))):ah P f (ak s):=by
 intro X args hp nm k hs
 unfold ak at hs
 split at hs
 rotate_left
 ·exact hs.elim
 rename_i x tc b hd
 obtain ⟨rfl,hpre,hk⟩:=cl hs
 have hk:=hk _ rfl
 obtain ⟨as,e,hargs⟩:=zq s.p _ _ _ _ hd
 rw [List.append_nil] at e
 subst e
 refine ⟨_,⟨fun p m6=>absurd m6 (by simp),?_⟩,hk⟩
 intro aC W ρ Kn Γ w _ _ ht hfr hst
 obtain ⟨xs,hg,hc⟩:=hargs aC W ρ Kn Γ w ht hst 0
 have hb:=St.begin hg
 obtain ⟨lp,its,hi,hl,hfn⟩:=h x hpre
 have hcs:=hc (fun n=>xs.getD n {}) fun i y hy=>by simp [hy]
 have key:=uM (ctx:=⟨tt,specs,cZ,lp,[],its⟩) hT ⟨hS,xe.nil P,hi⟩ (cZ.ok W3 w) hm hf (fun c hc=>by
  have:bn fn=c:=by unfold bn;rw [hc]
  subst this
  exact Ru (lB hn) hl) hfn (fun y hy=>by
   obtain ⟨a,ha,rfl⟩:=List.mem_map.1 hy
   exact A0.bG (fun m hm=>by simpa [iq] using hm.2) a (rI 0 s.p x 0 a ha)) hb
 have ea:(ij s.p x).map (AV.af fun n=>xs.getD n {})=args.map (AV.af ρ):=by
  rw [hcs];simp [ij,AV.af,Function.comp_def]
 rw [ea] at key
 refine key.mono ?_
 rintro e w' ⟨st,cn,v,rfl,hv,hR,adT⟩
 obtain ⟨y,rfl,hw⟩:=aci hR
 have bE:ry W3 w [] ⟨[v],st.heap⟩ cn {tmps:= #[v.af cn],defers:= []} w':=by
  refine ⟨fun t _=> ?_,rfl,rfl,fun t=> ?_,adT⟩
  ·match t with
   |0=>rfl
   |t+1=>rfl
  ·match t with
   |0=>exact hv
   |t+1=>exact MO _
 obtain ⟨zh,C3⟩:=bE.weak hw
 have alD:=FU 2 s.r (s.f x) 0 hres
 have VP:=fun d=>(uV 2 (ρ:=zh) (ρ':=fun m=>zh (m- d)) (d:=d) s.r (s.f x) 0 hres fun i _=>by simp).2
 have hlen:(bz 2 nm s.r (s.f x)).2=(bz 2 0 s.r (s.f x)).2:=by simpa using VP nm
 obtain ⟨ρ',r1,r2,r3⟩:=St.grow (v:=vS (bz 2 nm s.r (s.f x)).1) (tc:=tc) (nm:=nm) hst (fun i hi=>hfr i (by rw [hlen];exact hi)) alD C3.st
 have hsh:=(uV 2 (ρ:=zh) (ρ':=ρ') (d:=nm) s.r (s.f x) 0 hres fun i hi=>by rw [Nat.zero_add];exact r2 i hi).1
 rw [Nat.zero_add] at hsh
 refine ⟨ρ',?_,r1,?_,?_⟩
 ·congr 1
  have h1:=C3.tmps 0 (by
   show vS _≠_
   generalize (bz 2 0 s.r (s.f x)).1=l
   match l with
   | []=>exact fun h=>by cases h
   | [_]=>exact fun h=>by cases h
   |_::_::_=>exact fun h=>by cases h)
  have h2:v.af cn=(vS (bz 2 0 s.r (s.f x)).1).af zh:=h1
  rw [h2]
  exact (Pq hsh).symm
 ·exact Zu fun c hc=>A0.bG (fun m hm=> .inr (by simpa using hm)) c (rI 2 s.r (s.f x) nm c hc)
 ·rw [hlen];exact r3
end
end Go.Ev
