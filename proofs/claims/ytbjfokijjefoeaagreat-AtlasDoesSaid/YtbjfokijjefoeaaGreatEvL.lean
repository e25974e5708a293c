/- Functions of typed values, out of 'fnE': blocks, loops. -/
import Derived.Test.YtbjfokijjefoeaaGreatEvK
noncomputable section
set_option linter.unusedSectionVars false
set_option linter.unusedVariables false
set_option linter.unusedSimpArgs false
namespace Go.Ev
open Go.RowKit
abbrev az (n:Int):Int:=IntKind.wrap .i64 n
abbrev ci (n:Int):Cell:= .raw (.int .i64 n)
abbrev vi (n:Int):AV:= .v (.one (.raw (.int .i64 n)))
abbrev vb (b:Bool):AV:= .v (.one (.raw (.bool b)))
abbrev D:AV:= .dead
theorem aR {n:Int} (h1: -9223372036854775808<=n) (h2:n<=9223372036854775807):az n=n:=by rw [az,IntKind.wrap_i64];omega
def cI:Code->Code| .block _ c=>c| .loop c=>c|c=>c
def bV (fn:Func):Code:=match fn.body with|some c=>c|none=> .skip
def ids:Code->List Nat
 | .seq a b=>ids a++ids b
 | .cond _ a b=>ids a++ids b
 | .loop c=>ids c
 | .block id c=>id::ids c
 | .rangeFunc _ _ a b=>ids a++ids b
 |_=> []
def bx (id:Nat):Code->Option Code
 | .seq a b=>match bx id a with|some c=>some c|none=>bx id b
 | .cond _ a b=>match bx id a with|some c=>some c|none=>bx id b
 | .loop c=>bx id c
 | .block i c=>if i=id then some c else bx id c
 | .rangeFunc _ _ a b=>match bx id a with|some c=>some c|none=>bx id b
 |_=>none
def bq (id:Nat) (c:Code):Code:=match bx id c with|some c=>c|none=> .skip
def fS:List Nat->Bool
 | []=>true
 |x::r=> !r.contains x&&fS r
theorem je: ∀ {l:List Nat},fS l=true->l.Nodup
 | [],_=>List.nodup_nil
 |x::r,h=>by
  simp only [fS,Bool.and_eq_true,Bool.not_eq_true',List.contains_eq_mem,decide_eq_false_iff_not] at h
  exact List.nodup_cons.2 ⟨h.1,je h.2⟩
section
variable {P:Program} {tt:List (Nat×TI)} {specs:List (Nat×Spec)} {X:Addr->Value->Prop}
def au (P:Program) (X:Addr->Value->Prop) (c:Code) (lp:List (Nat×bR)):Prop:=
 ∀ax W ro n,Dy ax W X-> ∀id sp,aG lp id=some sp->(ro=none\/ mN (bq id c)=true)-> ∀st K,sp st K-> ∀ρ a w,FU ax W st ρ a w->(Code.block id (bq id c)).wpIn (fw ro) n P (Post ax W K) a w
theorem cO: ∀ {c:Code} {id:Nat},id∉ids c->bx id c=none
 | .seq a b,id,h=>by
  simp only [ids,List.mem_append,not_or] at h
  simp only [bx,cO h.1,cO h.2]
 | .cond _ a b,id,h=>by
  simp only [ids,List.mem_append,not_or] at h
  simp only [bx,cO h.1,cO h.2]
 | .rangeFunc _ _ a b,id,h=>by
  simp only [ids,List.mem_append,not_or] at h
  simp only [bx,cO h.1,cO h.2]
 | .loop c,id,h=>by simp only [ids] at h;simp only [bx,cO h]
 | .block i c,id,h=>by
  simp only [ids,List.mem_cons,not_or] at h
  simp only [bx,if_neg (Ne.symm h.1),cO h.2]
 | .skip,_,_=>rfl
 | .region ..,_,_=>rfl
 | .exit _,_,_=>rfl
 | .scope _,_,_=>rfl
 | .label _,_,_=>rfl
 | .goto _,_,_=>rfl
 | .ret,_,_=>rfl
 | .refuse _,_,_=>rfl
theorem jd {lp:List (Nat×bR)} {ys:List (Nat×Spec)} {dL:List (Nat×jM)} : ∀(c:Code),(ids c).Nodup->
  (∀id∈ids c,∀sp,aG lp id=some sp-> ∀b,bx id c=some b-> ∀ax W ro n,Dy ax W X->(ro=none\/ mN b=true)-> ∀st K,sp st K-> ∀ρ a w,FU ax W st ρ a w->(Code.block id b).wpIn (fw ro) n P (Post ax W K) a w)->
  s5 P ⟨tt,specs,X,lp,ys,dL⟩ c
 | .seq a b,hn,h=>by
  simp only [ids,List.nodup_append] at hn
  refine ⟨jd a hn.1 fun id hi sp hs c hc=>h id (by simp [ids,hi]) sp hs c (by simp only [bx,hc]),jd b hn.2.1 fun id hi sp hs c hc=>h id (by simp [ids,hi]) sp hs c ?_⟩
  have:id∉ids a:=fun h1=>hn.2.2 id h1 id hi rfl
  simp only [bx,cO this,hc]
 | .cond _ a b,hn,h=>by
  simp only [ids,List.nodup_append] at hn
  refine ⟨jd a hn.1 fun id hi sp hs c hc=>h id (by simp [ids,hi]) sp hs c (by simp only [bx,hc]),jd b hn.2.1 fun id hi sp hs c hc=>h id (by simp [ids,hi]) sp hs c ?_⟩
  have:id∉ids a:=fun h1=>hn.2.2 id h1 id hi rfl
  simp only [bx,cO this,hc]
 | .rangeFunc _ _ a b,hn,h=>by
  simp only [ids,List.nodup_append] at hn
  refine ⟨jd a hn.1 fun id hi sp hs c hc=>h id (by simp [ids,hi]) sp hs c (by simp only [bx,hc]),jd b hn.2.1 fun id hi sp hs c hc=>h id (by simp [ids,hi]) sp hs c ?_⟩
  have:id∉ids a:=fun h1=>hn.2.2 id h1 id hi rfl
  simp only [bx,cO this,hc]
 | .loop c,hn,h=>jd c hn fun id hi sp hs b hb=>h id hi sp hs b hb
 | .block i c,hn,h=>by
  simp only [ids,List.nodup_cons] at hn
  unfold s5
  split
  ·rename_i hs
   refine jd c hn.2 fun id hi sp hs' b hb=>h id (by simp [ids,hi]) sp hs' b ?_
   have:i≠id:=fun e=>hn.1 (e▸hi)
   simp only [bx,if_neg this,hb]
  ·rename_i sp hs
   exact h i (by simp [ids]) sp hs c (by simp [bx])
 | .skip,_,_=>trivial
 | .region ..,_,_=>trivial
 | .exit _,_,_=>trivial
 | .scope _,_,_=>trivial
 | .label _,_,_=>trivial
 | .goto _,_,_=>trivial
 | .ret,_,_=>trivial
 | .refuse _,_,_=>trivial
theorem au.nil {c:Code} :au P X c []:=fun _ _ _ _ _ _ _ h=>by cases h
theorem iz: ∀ {c b:Code} {id:Nat},bx id c=some b->(ids c).Nodup->(ids b).Nodup/\ ∀j∈ids b,bx j c=bx j b
 | .seq a b,d,id,h,hn=>by
  simp only [ids,List.nodup_append] at hn
  simp only [bx] at h
  split at h
  ·rename_i hc
   cases h
   obtain ⟨h1,h2⟩:=iz hc hn.1
   refine ⟨h1,fun j hj=> ?_⟩
   have:=h2 j hj
   simp only [bx]
   rw [this]
   cases hb:bx j d with
   |some _=>rfl
   |none=>exact absurd hb (fH hj)
  ·rename_i hc
   obtain ⟨h1,h2⟩:=iz h hn.2.1
   refine ⟨h1,fun j hj=> ?_⟩
   have hjb:j∈ids b:=eR h j hj
   have:j∉ids a:=fun h1=>hn.2.2 j h1 j hjb rfl
   simp only [bx,cO this,h2 j hj]
 | .cond _ a b,d,id,h,hn=>by
  simp only [ids,List.nodup_append] at hn
  simp only [bx] at h
  split at h
  ·rename_i hc
   cases h
   obtain ⟨h1,h2⟩:=iz hc hn.1
   refine ⟨h1,fun j hj=> ?_⟩
   have:=h2 j hj
   simp only [bx]
   rw [this]
   cases hb:bx j d with
   |some _=>rfl
   |none=>exact absurd hb (fH hj)
  ·rename_i hc
   obtain ⟨h1,h2⟩:=iz h hn.2.1
   refine ⟨h1,fun j hj=> ?_⟩
   have hjb:j∈ids b:=eR h j hj
   have:j∉ids a:=fun h1=>hn.2.2 j h1 j hjb rfl
   simp only [bx,cO this,h2 j hj]
 | .rangeFunc _ _ a b,d,id,h,hn=>by
  simp only [ids,List.nodup_append] at hn
  simp only [bx] at h
  split at h
  ·rename_i hc
   cases h
   obtain ⟨h1,h2⟩:=iz hc hn.1
   refine ⟨h1,fun j hj=> ?_⟩
   have:=h2 j hj
   simp only [bx]
   rw [this]
   cases hb:bx j d with
   |some _=>rfl
   |none=>exact absurd hb (fH hj)
  ·rename_i hc
   obtain ⟨h1,h2⟩:=iz h hn.2.1
   refine ⟨h1,fun j hj=> ?_⟩
   have hjb:j∈ids b:=eR h j hj
   have:j∉ids a:=fun h1=>hn.2.2 j h1 j hjb rfl
   simp only [bx,cO this,h2 j hj]
 | .loop c,d,id,h,hn=>by
  simp only [bx] at h
  obtain ⟨h1,h2⟩:=iz h hn
  exact ⟨h1,fun j hj=>by simp only [bx];exact h2 j hj⟩
 | .block i c,d,id,h,hn=>by
  simp only [ids,List.nodup_cons] at hn
  simp only [bx] at h
  split at h
  ·cases h
   refine ⟨hn.2,fun j hj=> ?_⟩
   have:i≠j:=fun e=>hn.1 (e▸hj)
   simp only [bx,if_neg this]
  ·obtain ⟨h1,h2⟩:=iz h hn.2
   refine ⟨h1,fun j hj=> ?_⟩
   have:i≠j:=fun e=>hn.1 (e▸eR h j hj)
   simp only [bx,if_neg this];exact h2 j hj
 | .skip,_,_,h,_=>by cases h
 | .region ..,_,_,h,_=>by cases h
 | .exit _,_,_,h,_=>by cases h
 | .scope _,_,_,h,_=>by cases h
 | .label _,_,_,h,_=>by cases h
 | .goto _,_,_,h,_=>by cases h
 | .ret,_,_,h,_=>by cases h
 | .refuse _,_,_,h,_=>by cases h
where
 fH: ∀ {c:Code} {j:Nat},j∈ids c->bx j c≠none
  | .seq a b,j,h=>by
   simp only [ids,List.mem_append] at h
   simp only [bx]
   rcases h with h|h
   ·have:=fH h
    split<;>simp_all
   ·have:=fH h
    split<;>simp_all
  | .cond _ a b,j,h=>by
   simp only [ids,List.mem_append] at h
   simp only [bx]
   rcases h with h|h
   ·have:=fH h
    split<;>simp_all
   ·have:=fH h
    split<;>simp_all
  | .rangeFunc _ _ a b,j,h=>by
   simp only [ids,List.mem_append] at h
   simp only [bx]
   rcases h with h|h
   ·have:=fH h
    split<;>simp_all
   ·have:=fH h
    split<;>simp_all
  | .loop c,j,h=>by simp only [ids] at h;simp only [bx];exact fH h
  | .block i c,j,h=>by
   simp only [ids,List.mem_cons] at h
   simp only [bx]
   split
   ·simp
   ·rename_i hi;exact fH (h.resolve_left (Ne.symm hi))
  | .skip,_,h=>by simp [ids] at h
  | .region ..,_,h=>by simp [ids] at h
  | .exit _,_,h=>by simp [ids] at h
  | .scope _,_,h=>by simp [ids] at h
  | .label _,_,h=>by simp [ids] at h
  | .goto _,_,h=>by simp [ids] at h
  | .ret,_,h=>by simp [ids] at h
  | .refuse _,_,h=>by simp [ids] at h
 eR: ∀ {c b:Code} {id:Nat},bx id c=some b-> ∀j∈ids b,j∈ids c
  | .seq a b,d,id,h=>by
   intro j hj
   simp only [bx] at h
   simp only [ids,List.mem_append]
   split at h
   ·rename_i hc;cases h;exact .inl (eR hc j hj)
   ·exact .inr (eR h j hj)
  | .cond _ a b,d,id,h=>by
   intro j hj
   simp only [bx] at h
   simp only [ids,List.mem_append]
   split at h
   ·rename_i hc;cases h;exact .inl (eR hc j hj)
   ·exact .inr (eR h j hj)
  | .rangeFunc _ _ a b,d,id,h=>by
   intro j hj
   simp only [bx] at h
   simp only [ids,List.mem_append]
   split at h
   ·rename_i hc;cases h;exact .inl (eR hc j hj)
   ·exact .inr (eR h j hj)
  | .loop c,d,id,h=>by intro j hj;simp only [bx] at h;simp only [ids];exact eR h j hj
  | .block i c,d,id,h=>by
   intro j hj
   simp only [bx] at h
   simp only [ids,List.mem_cons]
   split at h
   ·cases h;exact .inr hj
   ·exact .inr (eR h j hj)
  | .skip,_,_,h=>by cases h
  | .region ..,_,_,h=>by cases h
  | .exit _,_,_,h=>by cases h
  | .scope _,_,_,h=>by cases h
  | .label _,_,_,h=>by cases h
  | .goto _,_,_,h=>by cases h
  | .ret,_,_,h=>by cases h
  | .refuse _,_,_,h=>by cases h
theorem Fx {lp:List (Nat×bR)} {ys:List (Nat×Spec)} {dL:List (Nat×jM)} {c:Code} (hn:(ids c).Nodup) (h:au P X c lp):s5 P ⟨tt,specs,X,lp,ys,dL⟩ c:=
 jd c hn fun id _ sp hs b hb ax W ro n hX hro st K hk ρ a w br=>by
  have:=h ax W ro n hX id sp hs (by simpa only [bq,hb] using hro) st K hk ρ a w br
  simp only [bq,hb] at this;exact this
theorem au.acQ {c b:Code} {lp:List (Nat×bR)} {ys:List (Nat×Spec)} {dL:List (Nat×jM)} {id:Nat} {sp:bR} (hl:au P X c lp) (hn':fS (ids c)=true) (hb:bx id c=some b)
  (h:s5 P ⟨tt,specs,X,lp,ys,dL⟩ b-> ∀ax W ro n,Dy ax W X->(ro=none\/ mN b=true)-> ∀st K,sp st K-> ∀ρ a w,FU ax W st ρ a w->b.wpIn (fw ro) n P (Post ax W (mA id (lJ K))) a w):au P X c ((id,sp)::lp):=by
 have hn:=je hn'
 intro ax W ro n hX id' sp' hs hro st K hk ρ a w br
 unfold aG at hs
 split at hs
 ·rename_i e;subst e;cases hs
  obtain ⟨h1,h2⟩:=iz hb hn
  have:s5 P ⟨tt,specs,X,lp,ys,dL⟩ b:=jd b h1 fun j hj sp hs d hd ax W ro n hX hro st K hk ρ a w br=>by
   have:=hl ax W ro n hX j sp hs (by simpa only [bq,h2 j hj,hd] using hro) st K hk ρ a w br
   simp only [bq,h2 j hj,hd] at this;exact this
  simp only [bq,hb] at hro ⊢
  exact wpIn_mono (Gb (h this ax W ro n hX hro st K hk ρ a w br)) fun e a w h=>Ww h
 ·exact hl ax W ro n hX id' sp' hs hro st K hk ρ a w br
theorem au.cons (hT:aU P tt) {lp:List (Nat×bR)} {ys:List (Nat×Spec)} {dL:List (Nat×jM)} (hC:qx P ⟨tt,specs,X,lp,ys,dL⟩) (hm:P.follows .mixedOrders=true) {c b:Code} {id:Nat} {sp:bR} (hl:au P X c lp) (hn':fS (ids c)=true) (hb:bx id c=some b)
  (h: ∀st K,sp st K->dx ⟨tt,specs,X,lp,ys,dL⟩ b st (mA id (lJ K))):au P X c ((id,sp)::lp):=
 hl.acQ (tt:=tt) (specs:=specs) (ys:=ys) (dL:=dL) hn' hb fun vR ax W ro n hX hro st K hk ρ a w br=>qB (ctx:=⟨tt,specs,X,lp,ys,dL⟩) hT hC hm b vR ax W ro n hX hro st _ (h st K hk) ρ a w br
def Jh (tt:List (Nat×TI)) (specs:List (Nat×Spec)) (X:Addr->Value->Prop) (lp:List (Nat×bR)) (ys:List (Nat×Spec)) (dL:List (Nat×jM)) (id:Nat) (c:Code) (N:Nat):bR:=fun st K=>z7 ⟨tt,specs,X,lp,ys,dL⟩ c N st (mA id K)
theorem au.z7 (hT:aU P tt) {lp:List (Nat×bR)} {ys:List (Nat×Spec)} {dL:List (Nat×jM)} (hC:qx P ⟨tt,specs,X,lp,ys,dL⟩) (hm:P.follows .mixedOrders=true) {c b:Code} {id:Nat} (N:Nat) (hl:au P X c lp) (hn':fS (ids c)=true) (hb:bx id c=some (.loop b)):
  au P X c ((id,Jh tt specs X lp ys dL id b N)::lp):=by
 have hn:=je hn'
 intro ax W ro n hX id' sp' hs hro st K hk ρ a w br
 unfold aG at hs
 split at hs
 ·rename_i e;subst e;cases hs
  obtain ⟨h1,h2⟩:=iz hb hn
  have vR:s5 P ⟨tt,specs,X,lp,ys,dL⟩ (.loop b):=jd (.loop b) h1 fun j hj sp hs d hd ax W ro n hX hro st K hk ρ a w br=>by
   have:=hl ax W ro n hX j sp hs (by simpa only [bq,h2 j hj,hd] using hro) st K hk ρ a w br
   simp only [bq,h2 j hj,hd] at this;exact this
  simp only [bq,hb] at hro ⊢
  exact Gb (Xv (ctx:=⟨tt,specs,X,lp,ys,dL⟩) hT hC hm b hX hro vR N st _ hk ρ a w br)
 ·exact hl ax W ro n hX id' sp' hs hro st K hk ρ a w br
def yj (tt:List (Nat×TI)) (specs:List (Nat×Spec)) (X:Addr->Value->Prop) (lp:List (Nat×Spec)->List (Nat×bR)) (dL:List (Nat×jM)) (fn:Func):jM:=fun ys args heap R=>ML ⟨tt,specs,X,lp ys,ys,dL⟩ fn args heap R
theorem kZ.fn (hT:aU P tt) (hS:ae P specs) (hm:P.follows .mixedOrders=true) {f:FuncId} {fn:Func} (hf:P.funcs[f]? =some fn) (hn:fS (ids (bV fn))=true) {lp:List (Nat×Spec)->List (Nat×bR)} {dL:List (Nat×jM)} (hits:av P X dL)
  (vR: ∀ys,y9 P ys->au P X (bV fn) (lp ys)):kZ P X f (yj tt specs X lp dL fn):=by
 intro ys args heap R h hy ax W ρ w hX hargs hst
 refine oX (ctx:=⟨tt,specs,X,lp ys,ys,dL⟩) hT ⟨hS,hy,hits⟩ hX hm hf (fun c hc=> ?_) h hargs hst
 have:bV fn=c:=by unfold bV;rw [hc]
 subst this
 exact Fx (je hn) (vR ys hy)
end
section
variable {P:Program}
theorem aU.nil:aU P []:=fun _ _ h=>by cases h
theorem aU.cons {t:TypeId} {i:TI} {l:List (Nat×TI)} (hu:P.underlying t=some i.desc) (hs:0<i.size) (hi:(P.info? t).map (fun q=>(q.size,q.bytes,q.zero))=some (i.size,i.bytes,some i.zero))
  (ha:(!aF i.desc||(!P.stoodInHeld t&& !P.eqGuardType P.depth t))=true) (hl:aU P l):aU P ((t,i)::l):=by
 intro u j h
 unfold aG at h
 split at h
 ·rename_i e;subst e;cases h
  refine ⟨hu,hs,?_⟩
  cases hq:P.info? t with
  |none=>rw [hq] at hi;cases hi
  |some q=>
   rw [hq] at hi
   simp only [Option.map_some,Option.some.injEq,Prod.mk.injEq] at hi
   refine ⟨q,rfl,hi.1,hi.2.1,hi.2.2,fun oS=> ?_⟩
   rw [oS] at ha
   simpa using ha
 ·exact hl u j h
theorem kY.of {f:FuncId} {fn:Func} (hf:P.funcs[f]? =some fn) (h1:(fn.name== "runtime.NumGoroutine")=false) (h2:fn.body.isNone=false):kY P f:=by
 intro args w
 simp only [callFunc,Sem.run_bind,run_program,Result.andThen_ok,hf,h1,h2,Bool.false_eq_true,if_false,Sem.run_pure]
theorem av.cons {X:Addr->Value->Prop} {f:FuncId} {RR:jM} {l:List (Nat×jM)} (he:kY P f) (h:kZ P X f RR) (hl:av P X l):av P X ((f,RR)::l):=by
 intro g q hg
 unfold aG at hg
 split at hg
 ·rename_i e;subst e;cases hg;exact ⟨he,h⟩
 ·exact hl g q hg
end
instance aiM {A B:Type} [Inhabited A]:Inhabited (A⊕B):=⟨.inl default⟩
inductive Term {S R:Type} (step:S->S⊕R) (pre:S->Prop):S->Prop
 |mk (s:S) (hp:pre s) (h: ∀s',step s= .inl s'->Term step pre s'):Term step pre s
def gX {S R:Type} (step:S->S⊕R):Nat->S->Option R
 |0,_=>none
 |n+1,s=>match step s with
  | .inl s'=>gX step n s'
  | .inr r=>some r
theorem G0 {S R:Type} {step:S->S⊕R} : ∀(n:Nat) (s:S) (r:R),gX step n s=some r->gX step (n+1) s=some r
 |0,_,_,h=>by cases h
 |n+1,s,r,h=>by
  simp only [gX] at h
  show (match step s with| .inl s'=>gX step (n+1) s'| .inr r=>some r)=some r
  cases hs:step s with
  |inl s'=>rw [hs] at h;exact G0 n s' r h
  |inr r'=>rw [hs] at h;exact h
theorem OS {S R:Type} {step:S->S⊕R} {n m:Nat} {s:S} {r:R} (h:gX step n s=some r) (hm:n<=m):gX step m s=some r:=by
  induction m with
  |zero=>   have:n=0:=by omega
            subst this;exact h
  | succ m ih=>
    rcases Nat.lt_or_ge m n with h1|h1
    · have:n=m+1:=by omega
      subst this;exact h
    · exact G0 m s r (ih h1)
open Classical in
def run {S R:Type} [Inhabited R] (step:S->S⊕R) (s:S):R:=if h: ∃r n,gX step n s=some r then Classical.choose h else default
theorem Iv {S R:Type} [Inhabited R] {step:S->S⊕R} {n:Nat} {s:S} {r:R} (h:gX step n s=some r):run step s=r:=by
 have hx: ∃r n,gX step n s=some r:=⟨r,n,h⟩
 unfold run
 rw [dif_pos hx]
 obtain ⟨m,hm⟩:=Classical.choose_spec hx
 have h1:=OS h (Nat.le_max_left n m)
 have h2:=OS hm (Nat.le_max_right n m)
 rw [h1] at h2
 exact (Option.some.inj h2).symm
theorem run_eq {S R:Type} [Inhabited R] (step:S->S⊕R) (s:S):run step s=match step s with| .inl s'=>run step s'| .inr r=>r:=by
 cases hs:step s with
 |inr r=>exact Iv (n:=1) (by simp only [gX,hs])
 |inl s'=>
  dsimp only
  by_cases h: ∃r n,gX step n s'=some r
  ·obtain ⟨r,n,h⟩:=h
   rw [Iv h]
   exact Iv (n:=n+1) (by simp only [gX,hs,h])
  ·have h2: ¬ ∃r n,gX step n s=some r:=by
    rintro ⟨r,n,hn⟩
    cases n with
    |zero=>cases hn
    |succ n=>simp only [gX,hs] at hn;exact h ⟨r,n,hn⟩
   unfold run
   rw [dif_neg h,dif_neg h2]
theorem Term.iter {S R:Type} {step:S->S⊕R} {pre:S->Prop} {s:S} (h:Term step pre s): ∃r n,gX step n s=some r:=by
 induction h with
 |mk s hp h ih=>
  cases hs:step s with
  |inr r=>exact ⟨r,1,by simp only [gX,hs]⟩
  |inl s'=>
   obtain ⟨r,n,hn⟩:=ih s' hs
   exact ⟨r,n+1,by simp only [gX,hs,hn]⟩
theorem Term.of {S R:Type} {step:S->S⊕R} {pre:S->Prop} (J:S->Prop) (μ:S->Nat) (h: ∀s,J s->pre s/\ ∀s',step s= .inl s'->J s'/\ μ s'<μ s): ∀s,J s->Term step pre s:=by
 intro s hs
 obtain ⟨n,hn⟩: ∃n,n=μ s:=⟨_,rfl⟩
 induction n using Nat.strongRecOn generalizing s with
 |_ n ih=>
  obtain ⟨h1,h2⟩:=h s hs
  exact ⟨s,h1,fun s' hs'=>by
   obtain ⟨h3,h4⟩:=h2 s' hs'
   exact ih (μ s') (by omega) s' h3 rfl⟩
def cS {A B:Type} (r:A⊕B) (p:A->Prop) (q:B->Prop):Prop:=match r with
 | .inl a=>p a
 | .inr b=>q b
def G6 {S R:Type} [Inhabited R] (tm:S->AS) (step:S->S⊕R) (pre:S->Prop) (out:R->(Exit->AS->Prop)->Prop):bR:=fun st K=> ∃s0,vn st (tm s0)/\ Term step pre s0/\ ∀r,r=run step s0->out r K
def KB (id:Nat) (K:Exit->AS->Prop) (KN:AS->Prop) (e:Exit) (st:AS):Prop:=match e with
 | .normal=> ∃st',vn st st'/\ KN st'
 |e=>mA id (lJ K) e st
def oT {S R:Type} (tm:S->AS) (out:R->(Exit->AS->Prop)->Prop) (K:Exit->AS->Prop) (KN:AS->Prop) (v:S⊕R):Prop:=match v with
 | .inl s=>KN (tm s)
 | .inr r=>out r K
theorem Wb {S R:Type} [Inhabited R] {ctx:Ctx} {c:Code} {id:Nat} {tm:S->AS} {step:S->S⊕R} {pre:S->Prop} {out:R->(Exit->AS->Prop)->Prop}
  (hr: ∀s K KN,pre s->oT tm out K KN (step s)->dx ctx c (tm s) (KB id K KN)) (st:AS) (K:Exit->AS->Prop) (h:G6 tm step pre out st K):dx ctx (.loop c) st (mA id (lJ K)):=by
 obtain ⟨s0,hw,ht,hk⟩:=h
 obtain ⟨r,n,hn⟩:=ht.iter
 have hr0:=Iv hn
 refine ⟨fun m st=> ∃s,st=tm s/\ Term step pre s/\ gX step m s=some r,⟨n,_,hw,s0,rfl,ht,hn⟩,?_⟩
 rintro m rZ ⟨s,rfl,hts,hm⟩
 have e:(fun (e:Exit) (zY:AS)=>match e with| .normal=> ∃m' st',m'<m/\ vn zY st'/\ ∃s,st'=tm s/\ Term step pre s/\ gX step m' s=some r|e=>mA id (lJ K) e zY)=
   KB id K fun st'=> ∃m',m'<m/\ ∃s,st'=tm s/\ Term step pre s/\ gX step m' s=some r:=by
  funext e zY
  cases e<;>try rfl
  refine propext ⟨?_,?_⟩
  ·rintro ⟨m',st',h1,h2,h3⟩;exact ⟨st',h2,m',h1,h3⟩
  ·rintro ⟨st',h2,m',h1,h3⟩;exact ⟨m',st',h1,h2,h3⟩
 refine e▸hr s K _ ?_ ?_
 ·cases hts with|mk _ hp _=>exact hp
 ·match m,hm with
  |0,hm=>cases hm
  |m+1,hm=>
   simp only [gX] at hm
   cases hs:step s with
   |inl s'=>
    rw [hs] at hm
    cases hts with|mk _ _ h=>exact ⟨m,by omega,s',rfl,h s' hs,hm⟩
   |inr r'=>
    rw [hs] at hm
    have:r'=run step s0:=by rw [hr0];exact Option.some.inj hm
    exact hk r' this
def iE:Addr->Value->Prop:=fun _ _=>False
theorem iE.ok (ax:kz) (W:World):Dy ax W iE:=fun _ _ h=>h.elim
theorem tg (rk:Nat) {ρ ρ':Env} {d:Nat} : ∀(cs:List ck) (nm:Nat),(∀i,i<(cx rk nm cs).2.length->ρ' (nm+i+d)=ρ (nm+i))->(cx rk (nm+d) cs).1.map (Cell.af ρ')=(cx rk nm cs).1.map (Cell.af ρ)/\ (cx rk (nm+d) cs).2=(cx rk nm cs).2
 | [],nm,_=>⟨rfl,rfl⟩
 | .flat v::r,nm,h=>by
  obtain ⟨h1,h2⟩:=tg rk (d:=d) r nm h
  simp only [cx,List.map_cons,h1,h2];exact ⟨rfl,trivial⟩
 | .sl u l::r,nm,h=>by
  have h0:=h 0 (by simp [cx])
  obtain ⟨h1,h2⟩:=tg rk (ρ:=ρ) (ρ':=ρ') (d:=d) r (nm+1) fun i hi=>by
   have:=h (i+1) (by simpa [cx] using hi)
   rwa [show nm+(i+1)+d=nm+1+i+d by omega,show nm+(i+1)=nm+1+i by omega] at this
  rw [Nat.add_zero] at h0
  rw [show nm+1+d=nm+d+1 by omega] at h1 h2
  simp only [cx,List.map_cons,h1,h2,Cell.af,h0];exact ⟨trivial,trivial⟩
theorem Ao (rk:Nat): ∀(cs:List ck) (nm:Nat),∀c∈(cx rk nm cs).1,c.ok fun m=>nm<=m/\ m<nm+(cx rk nm cs).2.length
 | [],nm,c,h=>by simp [cx] at h
 | .flat v::r,nm,c,h=>by
  simp only [cx,List.mem_cons] at h
  rcases h with rfl|h
  ·trivial
  ·exact Ao rk r nm c h
 | .sl u l::r,nm,c,h=>by
  simp only [cx,List.mem_cons] at h
  rcases h with rfl|h
  ·simp only [cx,List.length_cons,Cell.ok];omega
  ·exact Cell.bg (fun m hm=>by simp only [cx,List.length_cons];omega) c (Ao rk r (nm+1) c h)
theorem xg (rk:Nat): ∀(cs:List ck) (nm:Nat),∀o∈(cx rk nm cs).2,∃u,∃l:List u.T,o= .row u l rk
 | [],nm,o,h=>by simp [cx] at h
 | .flat v::r,nm,o,h=>xg rk r nm o h
 | .sl u l::r,nm,o,h=>by
  simp only [cx,List.mem_cons] at h
  rcases h with rfl|h
  ·exact ⟨u,l,rfl⟩
  ·exact xg rk r (nm+1) o h
theorem Kh {a:Bool} {cs cs':List Cell} {ρ ρ':Env} (h:cs'.map (Cell.af ρ')=cs.map (Cell.af ρ)):(so a cs').af ρ'=(so a cs).af ρ:=by
 have hl:cs'.length=cs.length:=by simpa using congrArg List.length h
 cases a with
 |true=>simp only [so,A0.af,h]
 |false=>
  match cs,cs',hl with
  | [],[],_=>rfl
  | [c],[c'],_=>simp only [List.map_cons,List.map_nil,List.cons.injEq,and_true] at h;simp only [so,A0.af,h]
  |_::_::_,_::_::_,_=>simp only [so,A0.af,h]
theorem TP {a:Bool} {cs:List Cell} {Kn:Nat->Prop} (h: ∀c∈cs,c.ok Kn):(so a cs).ok Kn:=by
 cases a with
 |true=>exact h
 |false=>
  match cs,h with
  | [],h=>exact h
  | [c],h=>exact h c (by simp)
  |_::_::_,h=>exact h
def qw.res:qw->Bool
 | .ptr _=>false
 | .mB _ _=>false
 | .mv _ _ _=>false
 | .pair a b=>a.res&&b.res
 |_=>true
theorem gF (rk:Nat) {ρ ρ':Env} {d:Nat} : ∀(p:qw) (x:p.ty.T) (nm:Nat),p.res=true->(∀i,i<(aT rk nm p x).2.length->ρ' (nm+i+d)=ρ (nm+i))->(aT rk (nm+d) p x).1.map (A0.af ρ')=(aT rk nm p x).1.map (A0.af ρ)/\ (aT rk (nm+d) p x).2=(aT rk nm p x).2
 | .one t,x,nm,_,h=>by
  obtain ⟨h1,h2⟩:=tg rk (ρ:=ρ) (ρ':=ρ') (d:=d) (t.aJ x) nm h
  simp only [aT,List.map_cons,List.map_nil,Kh h1,h2];exact ⟨trivial,trivial⟩
 | .agg t,x,nm,_,h=>by
  obtain ⟨h1,h2⟩:=tg rk (ρ:=ρ) (ρ':=ρ') (d:=d) (t.aJ x) nm h
  simp only [aT,List.map_cons,List.map_nil,Kh h1,h2];exact ⟨trivial,trivial⟩
 | .ptr t,x,nm,hr,h=>by cases hr
 | .mB f p,x,nm,hr,h=>by cases hr
 | .mv f agg t,x,nm,hr,h=>by cases hr
 | .pair a b,x,nm,hr,h=>by
  simp only [qw.res,Bool.and_eq_true] at hr
  obtain ⟨h1,h2⟩:=gF rk (ρ:=ρ) (ρ':=ρ') (d:=d) a x.1 nm hr.1 fun i hi=>h i (by simp only [aT,List.length_append];omega)
  obtain ⟨h3,h4⟩:=gF rk (ρ:=ρ) (ρ':=ρ') (d:=d) b x.2 (nm+(aT rk nm a x.1).2.length) hr.2 fun i hi=>by
   have:=h ((aT rk nm a x.1).2.length+i) (by simp only [aT,List.length_append];omega)
   rwa [<- Nat.add_assoc nm] at this
  rw [show nm+(aT rk nm a x.1).2.length+d=nm+d+(aT rk nm a x.1).2.length by omega] at h3 h4
  simp only [aT,List.map_append,h1,h2,h3,h4];exact ⟨trivial,trivial⟩
 | .none,x,nm,_,h=>⟨rfl,rfl⟩
theorem jY (rk:Nat): ∀(p:qw) (x:p.ty.T) (nm:Nat),∀c∈(aT rk nm p x).1,c.ok fun m=>nm<=m/\ m<nm+(aT rk nm p x).2.length
 | .one t,x,nm,c,h=>by
  simp only [aT,List.mem_singleton] at h
  subst h;exact TP (Ao rk _ nm)
 | .agg t,x,nm,c,h=>by
  simp only [aT,List.mem_singleton] at h
  subst h;exact TP (Ao rk _ nm)
 | .ptr t,x,nm,c,h=>by
  simp only [aT,List.mem_singleton] at h
  subst h;simp only [aT,List.length_singleton,A0.ok,Cell.ok];omega
 | .mv f agg t,x,nm,c,h=>by
  simp only [aT,List.mem_singleton] at h
  subst h
  intro q hq
  obtain ⟨a,ha,rfl⟩:=List.mem_map.1 hq
  have:=Ao rk (t.aJ x) nm a ha
  unfold Z4
  split
  ·trivial
  ·exact this
  ·trivial
 | .mB f p,x,nm,c,h=>by
  simp only [aT,List.mem_singleton] at h
  subst h
  intro q hq
  obtain ⟨a,ha,rfl⟩:=List.mem_map.1 hq
  have:=jY rk p x nm a ha
  unfold P5
  split
  ·exact this
  ·trivial
 | .pair a b,x,nm,c,h=>by
  simp only [aT,List.mem_append] at h
  rcases h with h|h
  ·exact A0.bg (fun m hm=>by simp only [aT,List.length_append];omega) c (jY rk a x.1 nm c h)
  ·exact A0.bg (fun m hm=>by simp only [aT,List.length_append];omega) c (jY rk b x.2 _ c h)
 | .none,x,nm,c,h=>by simp [aT] at h
theorem sq (rk:Nat): ∀(p:qw) (x:p.ty.T) (nm:Nat),p.res=true-> ∀o∈(aT rk nm p x).2,∃u,∃l:List u.T,o= .row u l rk
 | .one t,x,nm,_,o,h=>xg rk _ nm o h
 | .agg t,x,nm,_,o,h=>xg rk _ nm o h
 | .ptr t,x,nm,hr,o,h=>by cases hr
 | .mB f p,x,nm,hr,o,h=>by cases hr
 | .mv f agg t,x,nm,hr,o,h=>by cases hr
 | .pair a b,x,nm,hr,o,h=>by
  simp only [qw.res,Bool.and_eq_true] at hr
  simp only [aT,List.mem_append] at h
  rcases h with h|h
  ·exact sq rk a x.1 nm hr.1 o h
  ·exact sq rk b x.2 _ hr.2 o h
 | .none,x,nm,_,o,h=>by simp [aT] at h
theorem xV {l l':List A0} {ρ ρ':Env} (h:l'.map (A0.af ρ')=l.map (A0.af ρ)):(jJ l').af ρ'=(jJ l).af ρ:=by
 have hl:l'.length=l.length:=by simpa using congrArg List.length h
 match l,l',hl with
 | [],[],_=>rfl
 | [c],[c'],_=>simp only [List.map_cons,List.map_nil,List.cons.injEq,and_true] at h;simp only [jJ,AV.af,h]
 |_::_::_,_::_::_,_=>simp only [jJ,AV.af,h]
theorem FM {l:List A0} {Kn:Nat->Prop} (h: ∀c∈l,c.ok Kn):(jJ l).ok Kn:=by
 match l,h with
 | [],h=>exact h
 | [c],h=>exact h c (by simp)
 |_::_::_,h=>exact h
theorem St.grow {ax:kz} {W:World} {ρ bu:Env} {Kn:Nat->Prop} {Γ:HP} {w w':World} {nm:Nat} {os:List aI} {v:AV} {tc:List Nat} (h:St ax W ρ Kn Γ w) (hn: ∀i,i<os.length-> ¬Kn (nm+i)) (hrow: ∀o∈os,∃u,∃l:List u.T,o= .row u l 2) (h1:St KS w bu (· <os.length) (aq os) w'):
  ∃ρ',(∀m,Kn m->ρ' m=ρ m)/\ (∀n,n<os.length->ρ' (n+nm)=bu n)/\ St ax W ρ' (jO Kn nm {val:=v,fresh:=os,aC:=tc}) (bC {val:=v,fresh:=os,aC:=tc} nm Γ) w':=by
 let ρ':Env:=fun m=>if nm<=m/\ m<nm+os.length then bu (m- nm) else ρ m
 have hold: ∀m,Kn m->ρ' m=ρ m:=fun m hm=>by
  simp only [ρ']
  rw [if_neg]
  rintro ⟨h2,h3⟩
  exact hn (m- nm) (by omega) (by rw [show nm+(m- nm)=m by omega];exact hm)
 have hnew: ∀n,n<os.length->ρ' (n+nm)=bu n:=fun n hn=>by
  simp only [ρ']
  rw [if_pos (by omega),show n+nm- nm=n by omega]
 have cj: ∀m o,bC {val:=v,fresh:=os,aC:=tc} nm Γ m=some o->(∃n,m=n+nm/\ n<os.length/\ aq os n=some o/\ ∃u,∃l:List u.T,o= .row u l 2)\/ (Γ m=some o/\ Kn m):=by
  intro m o ho
  simp only [bC,cf] at ho
  split at ho
  ·rename_i hc
   have hlt:m- nm<os.length:=by omega
   refine .inl ⟨m- nm,by omega,hlt,by rw [bO];exact ho,?_⟩
   rw [List.getElem?_eq_getElem hlt] at ho
   obtain ⟨u,l,e⟩:=hrow _ (List.getElem_mem hlt)
   rw [e] at ho
   simp only [live,Option.some.injEq] at ho
   exact ⟨u,l,ho.symm⟩
  ·exact .inr ⟨ho,(h.kn m o ho).1⟩
 have hf1: ∀b,b<w.heap.size->w'.heap[b]? =w.heap[b]? :=fun b hb=>h1.fr.block b hb id
 have hnb: ∀n b,n<os.length->(aq os n).isSome=true->(bu n).has b->w.heap.size<=b:=fun n b _ hs hb=>by
  rcases h1.oF n b hs hb with h2|h2
  ·exact h2
  ·exact h2.elim
 have mK: ∀m o b,Γ m=some o->(ρ m).has b->b<w.heap.size:=fun m o b ho hb=>h.lt m b (by rw [ho];rfl) hb
 have VM: ∀b,LOb ρ' (bC {val:=v,fresh:=os,aC:=tc} nm Γ) b->(w.heap.size<=b/\ LOb bu (aq os) b)\/ (b<w.heap.size/\ LOb ρ Γ b):=by
  rintro b ⟨m,h2,h3⟩
  obtain ⟨o,ho⟩:=Option.isSome_iff_exists.1 h2
  rcases cj m o ho with ⟨n,rfl,oE,hp,_⟩|⟨hg,hk⟩
  ·rw [hnew n oE] at h3
   exact .inl ⟨hnb n b oE (by rw [hp];rfl) h3,n,by rw [hp];rfl,h3⟩
  ·rw [hold m hk] at h3
   exact .inr ⟨mK m o b hg h3,m,by rw [hg];rfl,h3⟩
 have yf: ∀b,HI (bC {val:=v,fresh:=os,aC:=tc} nm Γ) b->HI Γ b:=fun b ⟨m,S,h2,h3⟩=>by
  rcases cj m _ h2 with ⟨n,_,_,_,u,l,e⟩|⟨hg,hk⟩
  ·cases e
  ·exact ⟨m,S,hg,h3⟩
 have hLO: ∀b,LO ρ' (bC {val:=v,fresh:=os,aC:=tc} nm Γ) b->(w.heap.size<=b/\ LO bu (aq os) b)\/ (b<w.heap.size/\ LO ρ Γ b):=by
  rintro b (h2|h2)
  ·exact (VM b h2).imp (fun h=>⟨h.1,.inl h.2⟩) (fun h=>⟨h.1,.inl h.2⟩)
  ·exact .inr ⟨(h.zo b (yf b h2)).1,.inr (yf b h2)⟩
 have hsz:=h.fr.size
 have aea:=h1.fr.size
 have hfz: ∀b,gW ρ Γ w b->gW ρ' (bC {val:=v,fresh:=os,aC:=tc} nm Γ) w' b/\ w'.heap[b]? =w.heap[b]? :=fun b hb=>by
  have hlt:=hb.1.lt
  refine ⟨⟨hb.1.same (hf1 b hlt),fun hl=> ?_⟩,hf1 b hlt⟩
  rcases hLO b hl with ⟨h2,_⟩|⟨_,h2⟩
  ·omega
  ·exact hb.2 h2
 have Rv: ∀b,gW bu (aq os) w' b->Fh KS w b->gW ρ' (bC {val:=v,fresh:=os,aC:=tc} nm Γ) w' b/\ Fh ax W b:=fun b hb hp=>by
  have hge:w.heap.size<=b:=by
   rcases hp with h2|h2|h2
   ·exact h2
   ·exact h2.elim
   ·exact h2.elim
  refine ⟨⟨hb.1,fun hl=> ?_⟩,.inl (by omega)⟩
  rcases hLO b hl with ⟨_,h2⟩|⟨h2,_⟩
  ·exact hb.2 h2
  ·omega
 have adX: ∀m:Nat,m<os.length->jO Kn nm {val:=v,fresh:=os,aC:=tc} (m+nm):=fun m hm=> .inr (by simp only [];omega)
 refine ⟨ρ',hold,hnew,⟨?_,fun m o ho=> ?_,fun m o ho=> ?_,fun m m' b hm hm' gS iQ=> ?_,fun m b hm hb=> ?_,fun b hh=> ?_,fun m o ho=> ?_⟩⟩
 rotate_right
 ·rcases cj m o ho with ⟨n,rfl,oE,hp,_⟩|⟨hg,hk⟩
  ·rw [hnew n oE];exact h1.yl n o hp
  ·rw [hold m hk];exact h.yl m o hg
 rotate_right
 ·obtain ⟨h2,h3⟩:=h.zo b (yf b hh)
  refine ⟨by omega,fun h4=> ?_⟩
  rcases VM b h4 with ⟨h5,_⟩|⟨_,h5⟩
  ·omega
  ·exact h3 h5
 ·exact h.fr.trans h1.fr.Nc
 ·rcases cj m o ho with ⟨n,rfl,oE,hp,u,l,rfl⟩|⟨hg,hk⟩
  ·obtain ⟨g1,g2,g3,sub,g4,g5,g6,g7⟩:=h1.at_ n _ hp
   rw [bh,hnew n oE]
   exact ⟨g1,g2,g3,sub,fun i x hi=>by
    obtain ⟨a,e1,e2,_⟩:=g4 i x hi
    exact ⟨a,e1,e2,fun h=>by cases h⟩,fun q u' l' hq=>(g5 q u' l' hq).weak fun b hb=>by
     obtain ⟨e1,e2⟩:=Rv b hb.1 (hb.2 rfl).1
     exact ⟨e1,fun _=>⟨e2,(hb.2 rfl).2⟩⟩,g6,g7⟩
  ·exact ct (Kn:=Kn) (h.at_ m o hg) hold hk (h.kn m o hg).2 hfz (fun _ _ h=>h) fun b hb=>hf1 b (mK m o b hg hb)
 ·rcases cj m o ho with ⟨n,rfl,oE,hp,u,l,rfl⟩|⟨hg,hk⟩
  ·exact ⟨adX n oE,trivial⟩
  ·exact ⟨.inl hk,aI.bg (fun _=> .inl) o (h.kn m o hg).2⟩
 ·obtain ⟨o,ho⟩:=Option.isSome_iff_exists.1 hm
  obtain ⟨o',yx⟩:=Option.isSome_iff_exists.1 hm'
  rcases cj m o ho with ⟨n,rfl,oE,hp,_⟩|⟨hg,hk⟩
  ·rw [hnew n oE] at gS
   rcases cj m' o' yx with ⟨n',rfl,abx,eo,_⟩|⟨hg',hk'⟩
   ·rw [hnew n' abx] at iQ
    rw [h1.dK n n' b (by rw [hp];rfl) (by rw [eo];rfl) gS iQ]
   ·rw [hold m' hk'] at iQ
    have:=hnb n b oE (by rw [hp];rfl) gS
    have:=mK m' o' b hg' iQ
    omega
  ·rw [hold m hk] at gS
   rcases cj m' o' yx with ⟨n',rfl,abx,eo,_⟩|⟨hg',hk'⟩
   ·rw [hnew n' abx] at iQ
    have:=hnb n' b abx (by rw [eo];rfl) iQ
    have:=mK m o b hg gS
    omega
   ·rw [hold m' hk'] at iQ
    exact h.dK m m' b (by rw [hg];rfl) (by rw [hg'];rfl) gS iQ
 ·obtain ⟨o,ho⟩:=Option.isSome_iff_exists.1 hm
  rcases cj m o ho with ⟨n,rfl,oE,hp,_⟩|⟨hg,hk⟩
  ·rw [hnew n oE] at hb
   have:=hnb n b oE (by rw [hp];rfl) hb
   exact .inl (by omega)
  ·rw [hold m hk] at hb
   exact h.oF m b (by rw [hg];rfl) hb
section
variable {P:Program} {tt:List (Nat×TI)} {specs:List (Nat×Spec)}
theorem ah.fnT (hT:aU P tt) (hS:ae P specs) (hm:P.follows .mixedOrders=true) {f:FuncId} {fn:Func} (hf:P.funcs[f]? =some fn) (hn:fS (ids (bV fn))=true) {s:cC} (hres:s.r.res=true)
  (h: ∀x,s.pre x-> ∃lp dL,av P iE dL/\ au P iE (bV fn) lp/\ ML ⟨tt,specs,iE,lp,[],dL⟩ fn (gB s.p x) (gC s.p x) (S5 s.r (· =s.f x))):ah P f (aj s):=by
 intro X args hp nm k hs
 unfold aj at hs
 split at hs
 rotate_left
 ·exact hs.elim
 rename_i x tc b hd
 obtain ⟨rfl,hpre,hk⟩:=bn hs
 have hk:=hk _ rfl
 obtain ⟨as,e,hargs⟩:=sk s.p _ _ _ _ hd
 rw [List.append_nil] at e
 subst e
 refine ⟨_,⟨fun p eo=>absurd eo (by simp),?_⟩,hk⟩
 intro ax W ρ Kn Γ w _ _ ht hfr hst
 obtain ⟨xs,hg,hc⟩:=hargs ax W ρ Kn Γ w ht hst 0
 have hb:=St.begin hg
 obtain ⟨lp,dL,hi,hl,hfn⟩:=h x hpre
 have hcs:=hc (fun n=>xs.getD n {}) fun i y hy=>by simp [hy]
 have key:=oX (ctx:=⟨tt,specs,iE,lp,[],dL⟩) hT ⟨hS,y9.nil P,hi⟩ (iE.ok KS w) hm hf (fun c hc=>by
  have:bV fn=c:=by unfold bV;rw [hc]
  subst this
  exact Fx (je hn) hl) hfn (fun y hy=>by
   obtain ⟨a,ha,rfl⟩:=List.mem_map.1 hy
   exact A0.bg (fun m hm=>by simpa [gC] using hm.2) a (jY 0 s.p x 0 a ha)) hb
 have ea:(gB s.p x).map (AV.af fun n=>xs.getD n {})=args.map (AV.af ρ):=by
  rw [hcs];simp [gB,AV.af,Function.comp_def]
 rw [ea] at key
 refine key.mono ?_
 rintro e w' ⟨st,bu,v,rfl,hv,hR,tx⟩
 obtain ⟨y,rfl,hw⟩:=Xg hR
 have br:qv KS w [] ⟨[v],st.heap⟩ bu {tmps:= #[v.af bu],defers:= []} w':=by
  refine ⟨fun t _=> ?_,rfl,rfl,fun t=> ?_,tx⟩
  ·match t with
   |0=>rfl
   |t+1=>rfl
  ·match t with
   |0=>exact hv
   |t+1=>exact w4 _
 obtain ⟨oN,oD⟩:=br.weak hw
 have OJ:=sq 2 s.r (s.f x) 0 hres
 have AH:=fun d=>(gF 2 (ρ:=oN) (ρ':=fun m=>oN (m- d)) (d:=d) s.r (s.f x) 0 hres fun i _=>by simp).2
 have hlen:(aT 2 nm s.r (s.f x)).2=(aT 2 0 s.r (s.f x)).2:=by simpa using AH nm
 obtain ⟨ρ',r1,r2,r3⟩:=St.grow (v:=jJ (aT 2 nm s.r (s.f x)).1) (tc:=tc) (nm:=nm) hst (fun i hi=>hfr i (by rw [hlen];exact hi)) OJ oD.st
 have hsh:=(gF 2 (ρ:=oN) (ρ':=ρ') (d:=nm) s.r (s.f x) 0 hres fun i hi=>by rw [Nat.zero_add];exact r2 i hi).1
 rw [Nat.zero_add] at hsh
 refine ⟨ρ',?_,r1,?_,?_⟩
 ·congr 1
  have h1:=oD.tmps 0 (by
   show jJ _≠_
   generalize (aT 2 0 s.r (s.f x)).1=l
   match l with
   | []=>exact fun h=>by cases h
   | [_]=>exact fun h=>by cases h
   |_::_::_=>exact fun h=>by cases h)
  have h2:v.af bu=(jJ (aT 2 0 s.r (s.f x)).1).af oN:=h1
  rw [h2]
  exact (xV hsh).symm
 ·exact FM fun c hc=>A0.bg (fun m hm=> .inr (by simpa using hm)) c (jY 2 s.r (s.f x) nm c hc)
 ·rw [hlen];exact r3
end
end Go.Ev
