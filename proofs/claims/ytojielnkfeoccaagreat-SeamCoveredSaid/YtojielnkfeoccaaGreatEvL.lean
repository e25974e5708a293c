/- Functions of typed values, out of 'fnE': blocks, loops. -/
import Derived.Test.YtojielnkfeoccaaGreatEvK
noncomputable section
set_option linter.unusedSectionVars false
set_option linter.unusedVariables false
set_option linter.unusedSimpArgs false
namespace Go.Ev
open Go.RowKit
abbrev aj (n:Int):Int:=IntKind.wrap .i64 n
abbrev ci (n:Int):Cell:= .raw (.int .i64 n)
abbrev vi (n:Int):AV:= .v (.one (.raw (.int .i64 n)))
abbrev vb (b:Bool):AV:= .v (.one (.raw (.bool b)))
abbrev D:AV:= .dead
theorem bf {n:Int} (h1: -9223372036854775808<=n) (h2:n<=9223372036854775807):aj n=n:=by rw [aj,IntKind.wrap_i64];omega
def cI:Code->Code| .block _ c=>c| .loop c=>c|c=>c
def bh (fn:Func):Code:=match fn.body with|some c=>c|none=> .skip
def ids:Code->List Nat
 | .seq a b=>ids a++ids b
 | .cond _ a b=>ids a++ids b
 | .loop c=>ids c
 | .block id c=>id::ids c
 | .rangeFunc _ _ a b=>ids a++ids b
 |_=> []
def bF (id:Nat):Code->Option Code
 | .seq a b=>match bF id a with|some c=>some c|none=>bF id b
 | .cond _ a b=>match bF id a with|some c=>some c|none=>bF id b
 | .loop c=>bF id c
 | .block i c=>if i=id then some c else bF id c
 | .rangeFunc _ _ a b=>match bF id a with|some c=>some c|none=>bF id b
 |_=>none
def blk (id:Nat) (c:Code):Code:=match bF id c with|some c=>c|none=> .skip
def fG:List Nat->Bool
 | []=>true
 |x::r=> !r.contains x&&fG r
theorem iM: ∀ {l:List Nat},fG l=true->l.Nodup
 | [],_=>List.nodup_nil
 |x::r,h=>by
  simp only [fG,Bool.and_eq_true,Bool.not_eq_true',List.contains_eq_mem,decide_eq_false_iff_not] at h
  exact List.nodup_cons.2 ⟨h.1,iM h.2⟩
section
variable {P:Program} {tt:List (Nat×TI)} {specs:List (Nat×Spec)} {X:Addr->Value->Prop}
def ay (P:Program) (X:Addr->Value->Prop) (c:Code) (lp:List (Nat×bE)):Prop:=
 ∀ax W ro n,Ac ax W X-> ∀id sp,aG lp id=some sp->(ro=none\/ kM (blk id c)=true)-> ∀st K,sp st K-> ∀ρ a w,Cc ax W st ρ a w->(Code.block id (blk id c)).wpIn (fw ro) n P (Post ax W K) a w
theorem dw: ∀ {c:Code} {id:Nat},id∉ids c->bF id c=none
 | .seq a b,id,h=>by
  simp only [ids,List.mem_append,not_or] at h
  simp only [bF,dw h.1,dw h.2]
 | .cond _ a b,id,h=>by
  simp only [ids,List.mem_append,not_or] at h
  simp only [bF,dw h.1,dw h.2]
 | .rangeFunc _ _ a b,id,h=>by
  simp only [ids,List.mem_append,not_or] at h
  simp only [bF,dw h.1,dw h.2]
 | .loop c,id,h=>by simp only [ids] at h;simp only [bF,dw h]
 | .block i c,id,h=>by
  simp only [ids,List.mem_cons,not_or] at h
  simp only [bF,if_neg (Ne.symm h.1),dw h.2]
 | .skip,_,_=>rfl
 | .region ..,_,_=>rfl
 | .exit _,_,_=>rfl
 | .scope _,_,_=>rfl
 | .label _,_,_=>rfl
 | .goto _,_,_=>rfl
 | .ret,_,_=>rfl
 | .refuse _,_,_=>rfl
theorem iL {lp:List (Nat×bE)} {ys:List (Nat×Spec)} {its:List (Nat×iu)} : ∀(c:Code),(ids c).Nodup->
  (∀id∈ids c,∀sp,aG lp id=some sp-> ∀b,bF id c=some b-> ∀ax W ro n,Ac ax W X->(ro=none\/ kM b=true)-> ∀st K,sp st K-> ∀ρ a w,Cc ax W st ρ a w->(Code.block id b).wpIn (fw ro) n P (Post ax W K) a w)->
  qb P ⟨tt,specs,X,lp,ys,its⟩ c
 | .seq a b,hn,h=>by
  simp only [ids,List.nodup_append] at hn
  refine ⟨iL a hn.1 fun id hi sp hs c hc=>h id (by simp [ids,hi]) sp hs c (by simp only [bF,hc]),iL b hn.2.1 fun id hi sp hs c hc=>h id (by simp [ids,hi]) sp hs c ?_⟩
  have:id∉ids a:=fun h1=>hn.2.2 id h1 id hi rfl
  simp only [bF,dw this,hc]
 | .cond _ a b,hn,h=>by
  simp only [ids,List.nodup_append] at hn
  refine ⟨iL a hn.1 fun id hi sp hs c hc=>h id (by simp [ids,hi]) sp hs c (by simp only [bF,hc]),iL b hn.2.1 fun id hi sp hs c hc=>h id (by simp [ids,hi]) sp hs c ?_⟩
  have:id∉ids a:=fun h1=>hn.2.2 id h1 id hi rfl
  simp only [bF,dw this,hc]
 | .rangeFunc _ _ a b,hn,h=>by
  simp only [ids,List.nodup_append] at hn
  refine ⟨iL a hn.1 fun id hi sp hs c hc=>h id (by simp [ids,hi]) sp hs c (by simp only [bF,hc]),iL b hn.2.1 fun id hi sp hs c hc=>h id (by simp [ids,hi]) sp hs c ?_⟩
  have:id∉ids a:=fun h1=>hn.2.2 id h1 id hi rfl
  simp only [bF,dw this,hc]
 | .loop c,hn,h=>iL c hn fun id hi sp hs b hb=>h id hi sp hs b hb
 | .block i c,hn,h=>by
  simp only [ids,List.nodup_cons] at hn
  unfold qb
  split
  ·rename_i hs
   refine iL c hn.2 fun id hi sp hs' b hb=>h id (by simp [ids,hi]) sp hs' b ?_
   have:i≠id:=fun e=>hn.1 (e▸hi)
   simp only [bF,if_neg this,hb]
  ·rename_i sp hs
   exact h i (by simp [ids]) sp hs c (by simp [bF])
 | .skip,_,_=>trivial
 | .region ..,_,_=>trivial
 | .exit _,_,_=>trivial
 | .scope _,_,_=>trivial
 | .label _,_,_=>trivial
 | .goto _,_,_=>trivial
 | .ret,_,_=>trivial
 | .refuse _,_,_=>trivial
theorem ay.nil {c:Code} :ay P X c []:=fun _ _ _ _ _ _ _ h=>by cases h
theorem gM: ∀ {c b:Code} {id:Nat},bF id c=some b->(ids c).Nodup->(ids b).Nodup/\ ∀j∈ids b,bF j c=bF j b
 | .seq a b,d,id,h,hn=>by
  simp only [ids,List.nodup_append] at hn
  simp only [bF] at h
  split at h
  ·rename_i hc
   cases h
   obtain ⟨h1,h2⟩:=gM hc hn.1
   refine ⟨h1,fun j hj=> ?_⟩
   have:=h2 j hj
   simp only [bF]
   rw [this]
   cases hb:bF j d with
   |some _=>rfl
   |none=>exact absurd hb (fR hj)
  ·rename_i hc
   obtain ⟨h1,h2⟩:=gM h hn.2.1
   refine ⟨h1,fun j hj=> ?_⟩
   have hjb:j∈ids b:=fm h j hj
   have:j∉ids a:=fun h1=>hn.2.2 j h1 j hjb rfl
   simp only [bF,dw this,h2 j hj]
 | .cond _ a b,d,id,h,hn=>by
  simp only [ids,List.nodup_append] at hn
  simp only [bF] at h
  split at h
  ·rename_i hc
   cases h
   obtain ⟨h1,h2⟩:=gM hc hn.1
   refine ⟨h1,fun j hj=> ?_⟩
   have:=h2 j hj
   simp only [bF]
   rw [this]
   cases hb:bF j d with
   |some _=>rfl
   |none=>exact absurd hb (fR hj)
  ·rename_i hc
   obtain ⟨h1,h2⟩:=gM h hn.2.1
   refine ⟨h1,fun j hj=> ?_⟩
   have hjb:j∈ids b:=fm h j hj
   have:j∉ids a:=fun h1=>hn.2.2 j h1 j hjb rfl
   simp only [bF,dw this,h2 j hj]
 | .rangeFunc _ _ a b,d,id,h,hn=>by
  simp only [ids,List.nodup_append] at hn
  simp only [bF] at h
  split at h
  ·rename_i hc
   cases h
   obtain ⟨h1,h2⟩:=gM hc hn.1
   refine ⟨h1,fun j hj=> ?_⟩
   have:=h2 j hj
   simp only [bF]
   rw [this]
   cases hb:bF j d with
   |some _=>rfl
   |none=>exact absurd hb (fR hj)
  ·rename_i hc
   obtain ⟨h1,h2⟩:=gM h hn.2.1
   refine ⟨h1,fun j hj=> ?_⟩
   have hjb:j∈ids b:=fm h j hj
   have:j∉ids a:=fun h1=>hn.2.2 j h1 j hjb rfl
   simp only [bF,dw this,h2 j hj]
 | .loop c,d,id,h,hn=>by
  simp only [bF] at h
  obtain ⟨h1,h2⟩:=gM h hn
  exact ⟨h1,fun j hj=>by simp only [bF];exact h2 j hj⟩
 | .block i c,d,id,h,hn=>by
  simp only [ids,List.nodup_cons] at hn
  simp only [bF] at h
  split at h
  ·cases h
   refine ⟨hn.2,fun j hj=> ?_⟩
   have:i≠j:=fun e=>hn.1 (e▸hj)
   simp only [bF,if_neg this]
  ·obtain ⟨h1,h2⟩:=gM h hn.2
   refine ⟨h1,fun j hj=> ?_⟩
   have:i≠j:=fun e=>hn.1 (e▸fm h j hj)
   simp only [bF,if_neg this];exact h2 j hj
 | .skip,_,_,h,_=>by cases h
 | .region ..,_,_,h,_=>by cases h
 | .exit _,_,_,h,_=>by cases h
 | .scope _,_,_,h,_=>by cases h
 | .label _,_,_,h,_=>by cases h
 | .goto _,_,_,h,_=>by cases h
 | .ret,_,_,h,_=>by cases h
 | .refuse _,_,_,h,_=>by cases h
where
 fR: ∀ {c:Code} {j:Nat},j∈ids c->bF j c≠none
  | .seq a b,j,h=>by
   simp only [ids,List.mem_append] at h
   simp only [bF]
   rcases h with h|h
   ·have:=fR h
    split<;>simp_all
   ·have:=fR h
    split<;>simp_all
  | .cond _ a b,j,h=>by
   simp only [ids,List.mem_append] at h
   simp only [bF]
   rcases h with h|h
   ·have:=fR h
    split<;>simp_all
   ·have:=fR h
    split<;>simp_all
  | .rangeFunc _ _ a b,j,h=>by
   simp only [ids,List.mem_append] at h
   simp only [bF]
   rcases h with h|h
   ·have:=fR h
    split<;>simp_all
   ·have:=fR h
    split<;>simp_all
  | .loop c,j,h=>by simp only [ids] at h;simp only [bF];exact fR h
  | .block i c,j,h=>by
   simp only [ids,List.mem_cons] at h
   simp only [bF]
   split
   ·simp
   ·rename_i hi;exact fR (h.resolve_left (Ne.symm hi))
  | .skip,_,h=>by simp [ids] at h
  | .region ..,_,h=>by simp [ids] at h
  | .exit _,_,h=>by simp [ids] at h
  | .scope _,_,h=>by simp [ids] at h
  | .label _,_,h=>by simp [ids] at h
  | .goto _,_,h=>by simp [ids] at h
  | .ret,_,h=>by simp [ids] at h
  | .refuse _,_,h=>by simp [ids] at h
 fm: ∀ {c b:Code} {id:Nat},bF id c=some b-> ∀j∈ids b,j∈ids c
  | .seq a b,d,id,h=>by
   intro j hj
   simp only [bF] at h
   simp only [ids,List.mem_append]
   split at h
   ·rename_i hc;cases h;exact .inl (fm hc j hj)
   ·exact .inr (fm h j hj)
  | .cond _ a b,d,id,h=>by
   intro j hj
   simp only [bF] at h
   simp only [ids,List.mem_append]
   split at h
   ·rename_i hc;cases h;exact .inl (fm hc j hj)
   ·exact .inr (fm h j hj)
  | .rangeFunc _ _ a b,d,id,h=>by
   intro j hj
   simp only [bF] at h
   simp only [ids,List.mem_append]
   split at h
   ·rename_i hc;cases h;exact .inl (fm hc j hj)
   ·exact .inr (fm h j hj)
  | .loop c,d,id,h=>by intro j hj;simp only [bF] at h;simp only [ids];exact fm h j hj
  | .block i c,d,id,h=>by
   intro j hj
   simp only [bF] at h
   simp only [ids,List.mem_cons]
   split at h
   ·cases h;exact .inr hj
   ·exact .inr (fm h j hj)
  | .skip,_,_,h=>by cases h
  | .region ..,_,_,h=>by cases h
  | .exit _,_,_,h=>by cases h
  | .scope _,_,_,h=>by cases h
  | .label _,_,_,h=>by cases h
  | .goto _,_,_,h=>by cases h
  | .ret,_,_,h=>by cases h
  | .refuse _,_,_,h=>by cases h
theorem BX {lp:List (Nat×bE)} {ys:List (Nat×Spec)} {its:List (Nat×iu)} {c:Code} (hn:(ids c).Nodup) (h:ay P X c lp):qb P ⟨tt,specs,X,lp,ys,its⟩ c:=
 iL c hn fun id _ sp hs b hb ax W ro n hX hro st K hk ρ a w bD=>by
  have:=h ax W ro n hX id sp hs (by simpa only [blk,hb] using hro) st K hk ρ a w bD
  simp only [blk,hb] at this;exact this
theorem ay.Xh {c b:Code} {lp:List (Nat×bE)} {ys:List (Nat×Spec)} {its:List (Nat×iu)} {id:Nat} {sp:bE} (hl:ay P X c lp) (hn':fG (ids c)=true) (hb:bF id c=some b)
  (h:qb P ⟨tt,specs,X,lp,ys,its⟩ b-> ∀ax W ro n,Ac ax W X->(ro=none\/ kM b=true)-> ∀st K,sp st K-> ∀ρ a w,Cc ax W st ρ a w->b.wpIn (fw ro) n P (Post ax W (jK id (ja K))) a w):ay P X c ((id,sp)::lp):=by
 have hn:=iM hn'
 intro ax W ro n hX id' sp' hs hro st K hk ρ a w bD
 unfold aG at hs
 split at hs
 ·rename_i e;subst e;cases hs
  obtain ⟨h1,h2⟩:=gM hb hn
  have:qb P ⟨tt,specs,X,lp,ys,its⟩ b:=iL b h1 fun j hj sp hs d hd ax W ro n hX hro st K hk ρ a w bD=>by
   have:=hl ax W ro n hX j sp hs (by simpa only [blk,h2 j hj,hd] using hro) st K hk ρ a w bD
   simp only [blk,h2 j hj,hd] at this;exact this
  simp only [blk,hb] at hro ⊢
  exact wpIn_mono (Cs (h this ax W ro n hX hro st K hk ρ a w bD)) fun e a w h=>QU h
 ·exact hl ax W ro n hX id' sp' hs hro st K hk ρ a w bD
theorem ay.cons (hT:aX P tt) {lp:List (Nat×bE)} {ys:List (Nat×Spec)} {its:List (Nat×iu)} (hC:nW P ⟨tt,specs,X,lp,ys,its⟩) (hm:P.follows .mixedOrders=true) {c b:Code} {id:Nat} {sp:bE} (hl:ay P X c lp) (hn':fG (ids c)=true) (hb:bF id c=some b)
  (h: ∀st K,sp st K->cK ⟨tt,specs,X,lp,ys,its⟩ b st (jK id (ja K))):ay P X c ((id,sp)::lp):=
 hl.Xh (tt:=tt) (specs:=specs) (ys:=ys) (its:=its) hn' hb fun sj ax W ro n hX hro st K hk ρ a w bD=>oh (ctx:=⟨tt,specs,X,lp,ys,its⟩) hT hC hm b sj ax W ro n hX hro st _ (h st K hk) ρ a w bD
def p9 (tt:List (Nat×TI)) (specs:List (Nat×Spec)) (X:Addr->Value->Prop) (lp:List (Nat×bE)) (ys:List (Nat×Spec)) (its:List (Nat×iu)) (id:Nat) (c:Code) (N:Nat):bE:=fun st K=>vS ⟨tt,specs,X,lp,ys,its⟩ c N st (jK id K)
theorem ay.vS (hT:aX P tt) {lp:List (Nat×bE)} {ys:List (Nat×Spec)} {its:List (Nat×iu)} (hC:nW P ⟨tt,specs,X,lp,ys,its⟩) (hm:P.follows .mixedOrders=true) {c b:Code} {id:Nat} (N:Nat) (hl:ay P X c lp) (hn':fG (ids c)=true) (hb:bF id c=some (.loop b)):
  ay P X c ((id,p9 tt specs X lp ys its id b N)::lp):=by
 have hn:=iM hn'
 intro ax W ro n hX id' sp' hs hro st K hk ρ a w bD
 unfold aG at hs
 split at hs
 ·rename_i e;subst e;cases hs
  obtain ⟨h1,h2⟩:=gM hb hn
  have sj:qb P ⟨tt,specs,X,lp,ys,its⟩ (.loop b):=iL (.loop b) h1 fun j hj sp hs d hd ax W ro n hX hro st K hk ρ a w bD=>by
   have:=hl ax W ro n hX j sp hs (by simpa only [blk,h2 j hj,hd] using hro) st K hk ρ a w bD
   simp only [blk,h2 j hj,hd] at this;exact this
  simp only [blk,hb] at hro ⊢
  exact Cs (Ri (ctx:=⟨tt,specs,X,lp,ys,its⟩) hT hC hm b hX hro sj N st _ hk ρ a w bD)
 ·exact hl ax W ro n hX id' sp' hs hro st K hk ρ a w bD
def fh (tt:List (Nat×TI)) (specs:List (Nat×Spec)) (X:Addr->Value->Prop) (lp:List (Nat×Spec)->List (Nat×bE)) (its:List (Nat×iu)) (fn:Func):iu:=fun ys args heap R=>N1 ⟨tt,specs,X,lp ys,ys,its⟩ fn args heap R
theorem dB.fn (hT:aX P tt) (hS:af P specs) (hm:P.follows .mixedOrders=true) {f:FuncId} {fn:Func} (hf:P.funcs[f]? =some fn) (hn:fG (ids (bh fn))=true) {lp:List (Nat×Spec)->List (Nat×bE)} {its:List (Nat×iu)} (hits:aA P X its)
  (sj: ∀ys,rh P ys->ay P X (bh fn) (lp ys)):dB P X f (fh tt specs X lp its fn):=by
 intro ys args heap R h hy ax W ρ w hX hargs hst
 refine mm (ctx:=⟨tt,specs,X,lp ys,ys,its⟩) hT ⟨hS,hy,hits⟩ hX hm hf (fun c hc=> ?_) h hargs hst
 have:bh fn=c:=by unfold bh;rw [hc]
 subst this
 exact BX (iM hn) (sj ys hy)
end
section
variable {P:Program}
theorem aX.nil:aX P []:=fun _ _ h=>by cases h
theorem aX.cons {t:TypeId} {i:TI} {l:List (Nat×TI)} (hu:P.underlying t=some i.desc) (hs:0<i.size) (hi:(P.info? t).map (fun q=>(q.size,q.bytes,q.zero))=some (i.size,i.bytes,some i.zero))
  (ha:(!az i.desc||(!P.stoodInHeld t&& !P.eqGuardType P.depth t))=true) (hl:aX P l):aX P ((t,i)::l):=by
 intro u j h
 unfold aG at h
 split at h
 ·rename_i e;subst e;cases h
  refine ⟨hu,hs,?_⟩
  cases hq:P.info? t with
  |none=>rw [hq] at hi;cases hi
  |some q=>
   rw [hq] at hi
   simp only [Option.map_some,Option.some.injEq,Prod.mk.injEq] at hi
   refine ⟨q,rfl,hi.1,hi.2.1,hi.2.2,fun l5=> ?_⟩
   rw [l5] at ha
   simpa using ha
 ·exact hl u j h
theorem Enters.of {f:FuncId} {fn:Func} (hf:P.funcs[f]? =some fn) (h1:(fn.name== "runtime.NumGoroutine")=false) (h2:fn.body.isNone=false):Enters P f:=by
 intro args w
 simp only [callFunc,Sem.run_bind,run_program,Result.andThen_ok,hf,h1,h2,Bool.false_eq_true,if_false,Sem.run_pure]
theorem aA.cons {X:Addr->Value->Prop} {f:FuncId} {MC:iu} {l:List (Nat×iu)} (he:Enters P f) (h:dB P X f MC) (hl:aA P X l):aA P X ((f,MC)::l):=by
 intro g q hg
 unfold aG at hg
 split at hg
 ·rename_i e;subst e;cases hg;exact ⟨he,h⟩
 ·exact hl g q hg
end
instance ad6 {A B:Type} [Inhabited A]:Inhabited (A⊕B):=⟨.inl default⟩
inductive Term {S R:Type} (step:S->S⊕R) (pre:S->Prop):S->Prop
 |mk (s:S) (hp:pre s) (h: ∀s',step s= .inl s'->Term step pre s'):Term step pre s
def gG {S R:Type} (step:S->S⊕R):Nat->S->Option R
 |0,_=>none
 |n+1,s=>match step s with
  | .inl s'=>gG step n s'
  | .inr r=>some r
theorem Dc {S R:Type} {step:S->S⊕R} : ∀(n:Nat) (s:S) (r:R),gG step n s=some r->gG step (n+1) s=some r
 |0,_,_,h=>by cases h
 |n+1,s,r,h=>by
  simp only [gG] at h
  show (match step s with| .inl s'=>gG step (n+1) s'| .inr r=>some r)=some r
  cases hs:step s with
  |inl s'=>rw [hs] at h;exact Dc n s' r h
  |inr r'=>rw [hs] at h;exact h
theorem JY {S R:Type} {step:S->S⊕R} {n m:Nat} {s:S} {r:R} (h:gG step n s=some r) (hm:n<=m):gG step m s=some r:=by
  induction m with
  |zero=>   have:n=0:=by omega
            subst this;exact h
  | succ m ih=>
    rcases Nat.lt_or_ge m n with h1|h1
    · have:n=m+1:=by omega
      subst this;exact h
    · exact Dc m s r (ih h1)
open Classical in
def run {S R:Type} [Inhabited R] (step:S->S⊕R) (s:S):R:=if h: ∃r n,gG step n s=some r then Classical.choose h else default
theorem DM {S R:Type} [Inhabited R] {step:S->S⊕R} {n:Nat} {s:S} {r:R} (h:gG step n s=some r):run step s=r:=by
 have hx: ∃r n,gG step n s=some r:=⟨r,n,h⟩
 unfold run
 rw [dif_pos hx]
 obtain ⟨m,hm⟩:=Classical.choose_spec hx
 have h1:=JY h (Nat.le_max_left n m)
 have h2:=JY hm (Nat.le_max_right n m)
 rw [h1] at h2
 exact (Option.some.inj h2).symm
theorem run_eq {S R:Type} [Inhabited R] (step:S->S⊕R) (s:S):run step s=match step s with| .inl s'=>run step s'| .inr r=>r:=by
 cases hs:step s with
 |inr r=>exact DM (n:=1) (by simp only [gG,hs])
 |inl s'=>
  dsimp only
  by_cases h: ∃r n,gG step n s'=some r
  ·obtain ⟨r,n,h⟩:=h
   rw [DM h]
   exact DM (n:=n+1) (by simp only [gG,hs,h])
  ·have h2: ¬ ∃r n,gG step n s=some r:=by
    rintro ⟨r,n,hn⟩
    cases n with
    |zero=>cases hn
    |succ n=>simp only [gG,hs] at hn;exact h ⟨r,n,hn⟩
   unfold run
   rw [dif_neg h,dif_neg h2]
theorem Term.iter {S R:Type} {step:S->S⊕R} {pre:S->Prop} {s:S} (h:Term step pre s): ∃r n,gG step n s=some r:=by
 induction h with
 |mk s hp h ih=>
  cases hs:step s with
  |inr r=>exact ⟨r,1,by simp only [gG,hs]⟩
  |inl s'=>
   obtain ⟨r,n,hn⟩:=ih s' hs
   exact ⟨r,n+1,by simp only [gG,hs,hn]⟩
theorem Term.of {S R:Type} {step:S->S⊕R} {pre:S->Prop} (J:S->Prop) (μ:S->Nat) (h: ∀s,J s->pre s/\ ∀s',step s= .inl s'->J s'/\ μ s'<μ s): ∀s,J s->Term step pre s:=by
 intro s hs
 obtain ⟨n,hn⟩: ∃n,n=μ s:=⟨_,rfl⟩
 induction n using Nat.strongRecOn generalizing s with
 |_ n ih=>
  obtain ⟨h1,h2⟩:=h s hs
  exact ⟨s,h1,fun s' hs'=>by
   obtain ⟨h3,h4⟩:=h2 s' hs'
   exact ih (μ s') (by omega) s' h3 rfl⟩
def cS {A B:Type} (r:A⊕B) (p:A->Prop) (q:B->Prop):Prop:=match r with
 | .inl a=>p a
 | .inr b=>q b
def vm {S R:Type} [Inhabited R] (tm:S->AS) (step:S->S⊕R) (pre:S->Prop) (out:R->(Exit->AS->Prop)->Prop):bE:=fun st K=> ∃s0,mS st (tm s0)/\ Term step pre s0/\ ∀r,r=run step s0->out r K
def KB (id:Nat) (K:Exit->AS->Prop) (KN:AS->Prop) (e:Exit) (st:AS):Prop:=match e with
 | .normal=> ∃st',mS st st'/\ KN st'
 |e=>jK id (ja K) e st
def fN {S R:Type} (tm:S->AS) (out:R->(Exit->AS->Prop)->Prop) (K:Exit->AS->Prop) (KN:AS->Prop) (v:S⊕R):Prop:=match v with
 | .inl s=>KN (tm s)
 | .inr r=>out r K
theorem QC {S R:Type} [Inhabited R] {ctx:Ctx} {c:Code} {id:Nat} {tm:S->AS} {step:S->S⊕R} {pre:S->Prop} {out:R->(Exit->AS->Prop)->Prop}
  (hr: ∀s K KN,pre s->fN tm out K KN (step s)->cK ctx c (tm s) (KB id K KN)) (st:AS) (K:Exit->AS->Prop) (h:vm tm step pre out st K):cK ctx (.loop c) st (jK id (ja K)):=by
 obtain ⟨s0,hw,ht,hk⟩:=h
 obtain ⟨r,n,hn⟩:=ht.iter
 have hr0:=DM hn
 refine ⟨fun m st=> ∃s,st=tm s/\ Term step pre s/\ gG step m s=some r,⟨n,_,hw,s0,rfl,ht,hn⟩,?_⟩
 rintro m st1 ⟨s,rfl,hts,hm⟩
 have e:(fun (e:Exit) (st2:AS)=>match e with| .normal=> ∃m' st',m'<m/\ mS st2 st'/\ ∃s,st'=tm s/\ Term step pre s/\ gG step m' s=some r|e=>jK id (ja K) e st2)=
   KB id K fun st'=> ∃m',m'<m/\ ∃s,st'=tm s/\ Term step pre s/\ gG step m' s=some r:=by
  funext e st2
  cases e<;>try rfl
  refine propext ⟨?_,?_⟩
  ·rintro ⟨m',st',h1,h2,h3⟩;exact ⟨st',h2,m',h1,h3⟩
  ·rintro ⟨st',h2,m',h1,h3⟩;exact ⟨m',st',h1,h2,h3⟩
 refine e▸hr s K _ ?_ ?_
 ·cases hts with|mk _ hp _=>exact hp
 ·match m,hm with
  |0,hm=>cases hm
  |m+1,hm=>
   simp only [gG] at hm
   cases hs:step s with
   |inl s'=>
    rw [hs] at hm
    cases hts with|mk _ _ h=>exact ⟨m,by omega,s',rfl,h s' hs,hm⟩
   |inr r'=>
    rw [hs] at hm
    have:r'=run step s0:=by rw [hr0];exact Option.some.inj hm
    exact hk r' this
def cT:Addr->Value->Prop:=fun _ _=>False
theorem cT.ok (ax:jh) (W:World):Ac ax W cT:=fun _ _ h=>h.elim
theorem qn (rk:Nat) {ρ ρ':Env} {d:Nat} : ∀(cs:List cD) (nm:Nat),(∀i,i<(dG rk nm cs).2.length->ρ' (nm+i+d)=ρ (nm+i))->(dG rk (nm+d) cs).1.map (Cell.ae ρ')=(dG rk nm cs).1.map (Cell.ae ρ)/\ (dG rk (nm+d) cs).2=(dG rk nm cs).2
 | [],nm,_=>⟨rfl,rfl⟩
 | .flat v::r,nm,h=>by
  obtain ⟨h1,h2⟩:=qn rk (d:=d) r nm h
  simp only [dG,List.map_cons,h1,h2];exact ⟨rfl,trivial⟩
 | .sl u l::r,nm,h=>by
  have h0:=h 0 (by simp [dG])
  obtain ⟨h1,h2⟩:=qn rk (ρ:=ρ) (ρ':=ρ') (d:=d) r (nm+1) fun i hi=>by
   have:=h (i+1) (by simpa [dG] using hi)
   rwa [show nm+(i+1)+d=nm+1+i+d by omega,show nm+(i+1)=nm+1+i by omega] at this
  rw [Nat.add_zero] at h0
  rw [show nm+1+d=nm+d+1 by omega] at h1 h2
  simp only [dG,List.map_cons,h1,h2,Cell.ae,h0];exact ⟨trivial,trivial⟩
theorem wF (rk:Nat): ∀(cs:List cD) (nm:Nat),∀c∈(dG rk nm cs).1,c.ok fun m=>nm<=m/\ m<nm+(dG rk nm cs).2.length
 | [],nm,c,h=>by simp [dG] at h
 | .flat v::r,nm,c,h=>by
  simp only [dG,List.mem_cons] at h
  rcases h with rfl|h
  ·trivial
  ·exact wF rk r nm c h
 | .sl u l::r,nm,c,h=>by
  simp only [dG,List.mem_cons] at h
  rcases h with rfl|h
  ·simp only [dG,List.length_cons,Cell.ok];omega
  ·exact Cell.bC (fun m hm=>by simp only [dG,List.length_cons];omega) c (wF rk r (nm+1) c h)
theorem th (rk:Nat): ∀(cs:List cD) (nm:Nat),∀o∈(dG rk nm cs).2,∃u,∃l:List u.T,o= .row u l rk
 | [],nm,o,h=>by simp [dG] at h
 | .flat v::r,nm,o,h=>th rk r nm o h
 | .sl u l::r,nm,o,h=>by
  simp only [dG,List.mem_cons] at h
  rcases h with rfl|h
  ·exact ⟨u,l,rfl⟩
  ·exact th rk r (nm+1) o h
theorem Fe {a:Bool} {cs cs':List Cell} {ρ ρ':Env} (h:cs'.map (Cell.ae ρ')=cs.map (Cell.ae ρ)):(wE a cs').ae ρ'=(wE a cs).ae ρ:=by
 have hl:cs'.length=cs.length:=by simpa using congrArg List.length h
 cases a with
 |true=>simp only [wE,A0.ae,h]
 |false=>
  match cs,cs',hl with
  | [],[],_=>rfl
  | [c],[c'],_=>simp only [List.map_cons,List.map_nil,List.cons.injEq,and_true] at h;simp only [wE,A0.ae,h]
  |_::_::_,_::_::_,_=>simp only [wE,A0.ae,h]
theorem NU {a:Bool} {cs:List Cell} {Kn:Nat->Prop} (h: ∀c∈cs,c.ok Kn):(wE a cs).ok Kn:=by
 cases a with
 |true=>exact h
 |false=>
  match cs,h with
  | [],h=>exact h
  | [c],h=>exact h c (by simp)
  |_::_::_,h=>exact h
def nX.res:nX->Bool
 | .ptr _=>false
 | .eN _ _=>false
 | .mv _ _ _=>false
 | .pair a b=>a.res&&b.res
 |_=>true
theorem qo (rk:Nat) {ρ ρ':Env} {d:Nat} : ∀(p:nX) (x:p.ty.T) (nm:Nat),p.res=true->(∀i,i<(bV rk nm p x).2.length->ρ' (nm+i+d)=ρ (nm+i))->(bV rk (nm+d) p x).1.map (A0.ae ρ')=(bV rk nm p x).1.map (A0.ae ρ)/\ (bV rk (nm+d) p x).2=(bV rk nm p x).2
 | .one t,x,nm,_,h=>by
  obtain ⟨h1,h2⟩:=qn rk (ρ:=ρ) (ρ':=ρ') (d:=d) (t.aL x) nm h
  simp only [bV,List.map_cons,List.map_nil,Fe h1,h2];exact ⟨trivial,trivial⟩
 | .agg t,x,nm,_,h=>by
  obtain ⟨h1,h2⟩:=qn rk (ρ:=ρ) (ρ':=ρ') (d:=d) (t.aL x) nm h
  simp only [bV,List.map_cons,List.map_nil,Fe h1,h2];exact ⟨trivial,trivial⟩
 | .ptr t,x,nm,hr,h=>by cases hr
 | .eN f p,x,nm,hr,h=>by cases hr
 | .mv f agg t,x,nm,hr,h=>by cases hr
 | .pair a b,x,nm,hr,h=>by
  simp only [nX.res,Bool.and_eq_true] at hr
  obtain ⟨h1,h2⟩:=qo rk (ρ:=ρ) (ρ':=ρ') (d:=d) a x.1 nm hr.1 fun i hi=>h i (by simp only [bV,List.length_append];omega)
  obtain ⟨h3,h4⟩:=qo rk (ρ:=ρ) (ρ':=ρ') (d:=d) b x.2 (nm+(bV rk nm a x.1).2.length) hr.2 fun i hi=>by
   have:=h ((bV rk nm a x.1).2.length+i) (by simp only [bV,List.length_append];omega)
   rwa [<- Nat.add_assoc nm] at this
  rw [show nm+(bV rk nm a x.1).2.length+d=nm+d+(bV rk nm a x.1).2.length by omega] at h3 h4
  simp only [bV,List.map_append,h1,h2,h3,h4];exact ⟨trivial,trivial⟩
 | .none,x,nm,_,h=>⟨rfl,rfl⟩
theorem mq (rk:Nat): ∀(p:nX) (x:p.ty.T) (nm:Nat),∀c∈(bV rk nm p x).1,c.ok fun m=>nm<=m/\ m<nm+(bV rk nm p x).2.length
 | .one t,x,nm,c,h=>by
  simp only [bV,List.mem_singleton] at h
  subst h;exact NU (wF rk _ nm)
 | .agg t,x,nm,c,h=>by
  simp only [bV,List.mem_singleton] at h
  subst h;exact NU (wF rk _ nm)
 | .ptr t,x,nm,c,h=>by
  simp only [bV,List.mem_singleton] at h
  subst h;simp only [bV,List.length_singleton,A0.ok,Cell.ok];omega
 | .mv f agg t,x,nm,c,h=>by
  simp only [bV,List.mem_singleton] at h
  subst h
  intro q hq
  obtain ⟨a,ha,rfl⟩:=List.mem_map.1 hq
  have:=wF rk (t.aL x) nm a ha
  unfold WK
  split
  ·trivial
  ·exact this
  ·trivial
 | .eN f p,x,nm,c,h=>by
  simp only [bV,List.mem_singleton] at h
  subst h
  intro q hq
  obtain ⟨a,ha,rfl⟩:=List.mem_map.1 hq
  have:=mq rk p x nm a ha
  unfold OJ
  split
  ·exact this
  ·trivial
 | .pair a b,x,nm,c,h=>by
  simp only [bV,List.mem_append] at h
  rcases h with h|h
  ·exact A0.bC (fun m hm=>by simp only [bV,List.length_append];omega) c (mq rk a x.1 nm c h)
  ·exact A0.bC (fun m hm=>by simp only [bV,List.length_append];omega) c (mq rk b x.2 _ c h)
 | .none,x,nm,c,h=>by simp [bV] at h
theorem zf (rk:Nat): ∀(p:nX) (x:p.ty.T) (nm:Nat),p.res=true-> ∀o∈(bV rk nm p x).2,∃u,∃l:List u.T,o= .row u l rk
 | .one t,x,nm,_,o,h=>th rk _ nm o h
 | .agg t,x,nm,_,o,h=>th rk _ nm o h
 | .ptr t,x,nm,hr,o,h=>by cases hr
 | .eN f p,x,nm,hr,o,h=>by cases hr
 | .mv f agg t,x,nm,hr,o,h=>by cases hr
 | .pair a b,x,nm,hr,o,h=>by
  simp only [nX.res,Bool.and_eq_true] at hr
  simp only [bV,List.mem_append] at h
  rcases h with h|h
  ·exact zf rk a x.1 nm hr.1 o h
  ·exact zf rk b x.2 _ hr.2 o h
 | .none,x,nm,_,o,h=>by simp [bV] at h
theorem Q1 {l l':List A0} {ρ ρ':Env} (h:l'.map (A0.ae ρ')=l.map (A0.ae ρ)):(pq l').ae ρ'=(pq l).ae ρ:=by
 have hl:l'.length=l.length:=by simpa using congrArg List.length h
 match l,l',hl with
 | [],[],_=>rfl
 | [c],[c'],_=>simp only [List.map_cons,List.map_nil,List.cons.injEq,and_true] at h;simp only [pq,AV.ae,h]
 |_::_::_,_::_::_,_=>simp only [pq,AV.ae,h]
theorem It {l:List A0} {Kn:Nat->Prop} (h: ∀c∈l,c.ok Kn):(pq l).ok Kn:=by
 match l,h with
 | [],h=>exact h
 | [c],h=>exact h c (by simp)
 |_::_::_,h=>exact h
theorem St.grow {ax:jh} {W:World} {ρ cJ:Env} {Kn:Nat->Prop} {Γ:HP} {w w':World} {nm:Nat} {os:List aQ} {v:AV} {tc:List Nat} (h:St ax W ρ Kn Γ w) (hn: ∀i,i<os.length-> ¬Kn (nm+i)) (hrow: ∀o∈os,∃u,∃l:List u.T,o= .row u l 2) (h1:St Kg w cJ (· <os.length) (av os) w'):
  ∃ρ',(∀m,Kn m->ρ' m=ρ m)/\ (∀n,n<os.length->ρ' (n+nm)=cJ n)/\ St ax W ρ' (iK Kn nm {val:=v,fresh:=os,aB:=tc}) (cq {val:=v,fresh:=os,aB:=tc} nm Γ) w':=by
 let ρ':Env:=fun m=>if nm<=m/\ m<nm+os.length then cJ (m- nm) else ρ m
 have hold: ∀m,Kn m->ρ' m=ρ m:=fun m hm=>by
  simp only [ρ']
  rw [if_neg]
  rintro ⟨h2,h3⟩
  exact hn (m- nm) (by omega) (by rw [show nm+(m- nm)=m by omega];exact hm)
 have hnew: ∀n,n<os.length->ρ' (n+nm)=cJ n:=fun n hn=>by
  simp only [ρ']
  rw [if_pos (by omega),show n+nm- nm=n by omega]
 have cm: ∀m o,cq {val:=v,fresh:=os,aB:=tc} nm Γ m=some o->(∃n,m=n+nm/\ n<os.length/\ av os n=some o/\ ∃u,∃l:List u.T,o= .row u l 2)\/ (Γ m=some o/\ Kn m):=by
  intro m o ho
  simp only [cq,ct] at ho
  split at ho
  ·rename_i hc
   have hlt:m- nm<os.length:=by omega
   refine .inl ⟨m- nm,by omega,hlt,by rw [bP];exact ho,?_⟩
   rw [List.getElem?_eq_getElem hlt] at ho
   obtain ⟨u,l,e⟩:=hrow _ (List.getElem_mem hlt)
   rw [e] at ho
   simp only [live,Option.some.injEq] at ho
   exact ⟨u,l,ho.symm⟩
  ·exact .inr ⟨ho,(h.kn m o ho).1⟩
 have Yo: ∀b,b<w.heap.size->w'.heap[b]? =w.heap[b]? :=fun b hb=>h1.fr.block b hb id
 have hnb: ∀n b,n<os.length->(av os n).isSome=true->(cJ n).has b->w.heap.size<=b:=fun n b _ hs hb=>by
  rcases h1.mA n b hs hb with h2|h2
  ·exact h2
  ·exact h2.elim
 have mw: ∀m o b,Γ m=some o->(ρ m).has b->b<w.heap.size:=fun m o b ho hb=>h.lt m b (by rw [ho];rfl) hb
 have aap: ∀b,Vp ρ' (cq {val:=v,fresh:=os,aB:=tc} nm Γ) b->(w.heap.size<=b/\ Vp cJ (av os) b)\/ (b<w.heap.size/\ Vp ρ Γ b):=by
  rintro b ⟨m,h2,h3⟩
  obtain ⟨o,ho⟩:=Option.isSome_iff_exists.1 h2
  rcases cm m o ho with ⟨n,rfl,yP,hp,_⟩|⟨hg,hk⟩
  ·rw [hnew n yP] at h3
   exact .inl ⟨hnb n b yP (by rw [hp];rfl) h3,n,by rw [hp];rfl,h3⟩
  ·rw [hold m hk] at h3
   exact .inr ⟨mw m o b hg h3,m,by rw [hg];rfl,h3⟩
 have Bj: ∀b,HI (cq {val:=v,fresh:=os,aB:=tc} nm Γ) b->HI Γ b:=fun b ⟨m,S,h2,h3⟩=>by
  rcases cm m _ h2 with ⟨n,_,_,_,u,l,e⟩|⟨hg,hk⟩
  ·cases e
  ·exact ⟨m,S,hg,h3⟩
 have ZB: ∀b,LO ρ' (cq {val:=v,fresh:=os,aB:=tc} nm Γ) b->(w.heap.size<=b/\ LO cJ (av os) b)\/ (b<w.heap.size/\ LO ρ Γ b):=by
  rintro b (h2|h2)
  ·exact (aap b h2).imp (fun h=>⟨h.1,.inl h.2⟩) (fun h=>⟨h.1,.inl h.2⟩)
  ·exact .inr ⟨(h.wZ b (Bj b h2)).1,.inr (Bj b h2)⟩
 have hsz:=h.fr.size
 have adC:=h1.fr.size
 have hfz: ∀b,gW ρ Γ w b->gW ρ' (cq {val:=v,fresh:=os,aB:=tc} nm Γ) w' b/\ w'.heap[b]? =w.heap[b]? :=fun b hb=>by
  have hlt:=hb.1.lt
  refine ⟨⟨hb.1.same (Yo b hlt),fun hl=> ?_⟩,Yo b hlt⟩
  rcases ZB b hl with ⟨h2,_⟩|⟨_,h2⟩
  ·omega
  ·exact hb.2 h2
 have SQ: ∀b,gW cJ (av os) w' b->B7 Kg w b->gW ρ' (cq {val:=v,fresh:=os,aB:=tc} nm Γ) w' b/\ B7 ax W b:=fun b hb hp=>by
  have hge:w.heap.size<=b:=by
   rcases hp with h2|h2|h2
   ·exact h2
   ·exact h2.elim
   ·exact h2.elim
  refine ⟨⟨hb.1,fun hl=> ?_⟩,.inl (by omega)⟩
  rcases ZB b hl with ⟨_,h2⟩|⟨h2,_⟩
  ·exact hb.2 h2
  ·omega
 have adg: ∀m:Nat,m<os.length->iK Kn nm {val:=v,fresh:=os,aB:=tc} (m+nm):=fun m hm=> .inr (by simp only [];omega)
 refine ⟨ρ',hold,hnew,⟨?_,fun m o ho=> ?_,fun m o ho=> ?_,fun m m' b hm hm' ik iW=> ?_,fun m b hm hb=> ?_,fun b hh=> ?_,fun m o ho=> ?_⟩⟩
 rotate_right
 ·rcases cm m o ho with ⟨n,rfl,yP,hp,_⟩|⟨hg,hk⟩
  ·rw [hnew n yP];exact h1.vX n o hp
  ·rw [hold m hk];exact h.vX m o hg
 rotate_right
 ·obtain ⟨h2,h3⟩:=h.wZ b (Bj b hh)
  refine ⟨by omega,fun h4=> ?_⟩
  rcases aap b h4 with ⟨h5,_⟩|⟨_,h5⟩
  ·omega
  ·exact h3 h5
 ·exact h.fr.trans h1.fr.Oy
 ·rcases cm m o ho with ⟨n,rfl,yP,hp,u,l,rfl⟩|⟨hg,hk⟩
  ·obtain ⟨g1,g2,g3,sub,g4,g5,g6,g7⟩:=h1.at_ n _ hp
   rw [bu,hnew n yP]
   exact ⟨g1,g2,g3,sub,fun i x hi=>by
    obtain ⟨a,e1,e2,_⟩:=g4 i x hi
    exact ⟨a,e1,e2,fun h=>by cases h⟩,fun q u' l' hq=>(g5 q u' l' hq).weak fun b hb=>by
     obtain ⟨e1,e2⟩:=SQ b hb.1 (hb.2 rfl).1
     exact ⟨e1,fun _=>⟨e2,(hb.2 rfl).2⟩⟩,g6,g7⟩
  ·exact cr (Kn:=Kn) (h.at_ m o hg) hold hk (h.kn m o hg).2 hfz (fun _ _ h=>h) fun b hb=>Yo b (mw m o b hg hb)
 ·rcases cm m o ho with ⟨n,rfl,yP,hp,u,l,rfl⟩|⟨hg,hk⟩
  ·exact ⟨adg n yP,trivial⟩
  ·exact ⟨.inl hk,aQ.bC (fun _=> .inl) o (h.kn m o hg).2⟩
 ·obtain ⟨o,ho⟩:=Option.isSome_iff_exists.1 hm
  obtain ⟨o',tY⟩:=Option.isSome_iff_exists.1 hm'
  rcases cm m o ho with ⟨n,rfl,yP,hp,_⟩|⟨hg,hk⟩
  ·rw [hnew n yP] at ik
   rcases cm m' o' tY with ⟨n',rfl,V7,gN,_⟩|⟨hg',hk'⟩
   ·rw [hnew n' V7] at iW
    rw [h1.eS n n' b (by rw [hp];rfl) (by rw [gN];rfl) ik iW]
   ·rw [hold m' hk'] at iW
    have:=hnb n b yP (by rw [hp];rfl) ik
    have:=mw m' o' b hg' iW
    omega
  ·rw [hold m hk] at ik
   rcases cm m' o' tY with ⟨n',rfl,V7,gN,_⟩|⟨hg',hk'⟩
   ·rw [hnew n' V7] at iW
    have:=hnb n' b V7 (by rw [gN];rfl) iW
    have:=mw m o b hg ik
    omega
   ·rw [hold m' hk'] at iW
    exact h.eS m m' b (by rw [hg];rfl) (by rw [hg'];rfl) ik iW
 ·obtain ⟨o,ho⟩:=Option.isSome_iff_exists.1 hm
  rcases cm m o ho with ⟨n,rfl,yP,hp,_⟩|⟨hg,hk⟩
  ·rw [hnew n yP] at hb
   have:=hnb n b yP (by rw [hp];rfl) hb
   exact .inl (by omega)
  ·rw [hold m hk] at hb
   exact h.mA m b (by rw [hg];rfl) hb
section
variable {P:Program} {tt:List (Nat×TI)} {specs:List (Nat×Spec)}
theorem ak.fnT (hT:aX P tt) (hS:af P specs) (hm:P.follows .mixedOrders=true) {f:FuncId} {fn:Func} (hf:P.funcs[f]? =some fn) (hn:fG (ids (bh fn))=true) {s:fg} (hres:s.r.res=true)
  (h: ∀x,s.pre x-> ∃lp its,aA P cT its/\ ay P cT (bh fn) lp/\ N1 ⟨tt,specs,cT,lp,[],its⟩ fn (jy s.p x) (jB s.p x) (vB s.r (· =s.f x))):ak P f (aq s):=by
 intro X args hp nm k hs
 unfold aq at hs
 split at hs
 rotate_left
 ·exact hs.elim
 rename_i x tc b hd
 obtain ⟨rfl,hpre,hk⟩:=br hs
 have hk:=hk _ rfl
 obtain ⟨as,e,hargs⟩:=pJ s.p _ _ _ _ hd
 rw [List.append_nil] at e
 subst e
 refine ⟨_,⟨fun p gN=>absurd gN (by simp),?_⟩,hk⟩
 intro ax W ρ Kn Γ w _ _ ht hfr hst
 obtain ⟨xs,hg,hc⟩:=hargs ax W ρ Kn Γ w ht hst 0
 have hb:=St.begin hg
 obtain ⟨lp,its,hi,hl,hfn⟩:=h x hpre
 have hcs:=hc (fun n=>xs.getD n {}) fun i y hy=>by simp [hy]
 have key:=mm (ctx:=⟨tt,specs,cT,lp,[],its⟩) hT ⟨hS,rh.nil P,hi⟩ (cT.ok Kg w) hm hf (fun c hc=>by
  have:bh fn=c:=by unfold bh;rw [hc]
  subst this
  exact BX (iM hn) hl) hfn (fun y hy=>by
   obtain ⟨a,ha,rfl⟩:=List.mem_map.1 hy
   exact A0.bC (fun m hm=>by simpa [jB] using hm.2) a (mq 0 s.p x 0 a ha)) hb
 have ea:(jy s.p x).map (AV.ae fun n=>xs.getD n {})=args.map (AV.ae ρ):=by
  rw [hcs];simp [jy,AV.ae,Function.comp_def]
 rw [ea] at key
 refine key.mono ?_
 rintro e w' ⟨st,cJ,v,rfl,hv,hR,sn⟩
 obtain ⟨y,rfl,hw⟩:=Gb hR
 have bD:nT Kg w [] ⟨[v],st.heap⟩ cJ {tmps:= #[v.ae cJ],defers:= []} w':=by
  refine ⟨fun t _=> ?_,rfl,rfl,fun t=> ?_,sn⟩
  ·match t with
   |0=>rfl
   |t+1=>rfl
  ·match t with
   |0=>exact hv
   |t+1=>exact nQ _
 obtain ⟨rA,nV⟩:=bD.weak hw
 have hrows:=zf 2 s.r (s.f x) 0 hres
 have vg:=fun d=>(qo 2 (ρ:=rA) (ρ':=fun m=>rA (m- d)) (d:=d) s.r (s.f x) 0 hres fun i _=>by simp).2
 have hlen:(bV 2 nm s.r (s.f x)).2=(bV 2 0 s.r (s.f x)).2:=by simpa using vg nm
 obtain ⟨ρ',r1,r2,r3⟩:=St.grow (v:=pq (bV 2 nm s.r (s.f x)).1) (tc:=tc) (nm:=nm) hst (fun i hi=>hfr i (by rw [hlen];exact hi)) hrows nV.st
 have hsh:=(qo 2 (ρ:=rA) (ρ':=ρ') (d:=nm) s.r (s.f x) 0 hres fun i hi=>by rw [Nat.zero_add];exact r2 i hi).1
 rw [Nat.zero_add] at hsh
 refine ⟨ρ',?_,r1,?_,?_⟩
 ·congr 1
  have h1:=nV.tmps 0 (by
   show pq _≠_
   generalize (bV 2 0 s.r (s.f x)).1=l
   match l with
   | []=>exact fun h=>by cases h
   | [_]=>exact fun h=>by cases h
   |_::_::_=>exact fun h=>by cases h)
  have h2:v.ae cJ=(pq (bV 2 0 s.r (s.f x)).1).ae rA:=h1
  rw [h2]
  exact (Q1 hsh).symm
 ·exact It fun c hc=>A0.bC (fun m hm=> .inr (by simpa using hm)) c (mq 2 s.r (s.f x) nm c hc)
 ·rw [hlen];exact r3
end
end Go.Ev
