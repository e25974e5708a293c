/- Proofs of printed conditions: how the parts are joined. -/
import Derived.Test.YtojielnkfeoccaaGreatEvL
noncomputable section
set_option linter.unusedSectionVars false
set_option linter.unusedVariables false
set_option linter.unusedSimpArgs false
namespace Go.Ev
abbrev I2:Type:=Int×Int
abbrev I3:Type:=Int×(Int×Int)
abbrev I6:Type:=(Int×Int)×((Int×Int)×Int×Int)
abbrev I9:Type:=(Int×Int×Int)×((Int×Int×Int)×Int×Int×Int)
abbrev aY:Int×Int:=((0:Int),(0:Int))
abbrev EY:Int×(Int×Int):=((0:Int),(0:Int),(0:Int))
abbrev aV:(Int×Int)×((Int×Int)×Int×Int):=(((0:Int),(0:Int)),((0:Int),(0:Int)),(0:Int),(0:Int))
abbrev vW:(Int×Int×Int)×((Int×Int×Int)×Int×Int×Int):=(((0:Int),(0:Int),(0:Int)),((0:Int),(0:Int),(0:Int)),(0:Int),(0:Int),(0:Int))
abbrev yi:Ty:= .int .i64
abbrev aH:Ty:=Ty.prod (Ty.int IntKind.i64) (Ty.int IntKind.i64)
abbrev cj:Ty:=Ty.prod (Ty.int IntKind.i64) (Ty.prod (Ty.int IntKind.i64) (Ty.int IntKind.i64))
abbrev bZ:Ty:=Ty.prod (Ty.prod (Ty.int IntKind.i64) (Ty.int IntKind.i64)) (Ty.prod (Ty.prod (Ty.int IntKind.i64) (Ty.int IntKind.i64)) (Ty.prod (Ty.int IntKind.i64) (Ty.int IntKind.i64)))
abbrev kB:Ty:=Ty.prod (Ty.prod (Ty.int IntKind.i64) (Ty.prod (Ty.int IntKind.i64) (Ty.int IntKind.i64))) (Ty.prod (Ty.prod (Ty.int IntKind.i64) (Ty.prod (Ty.int IntKind.i64) (Ty.int IntKind.i64))) (Ty.prod (Ty.int IntKind.i64) (Ty.prod (Ty.int IntKind.i64) (Ty.int IntKind.i64))))
def Kz (ps:List Nat):Code->Option (Code×Code)
 | .seq a b=>match Kz ps a with|some q=>some q|none=>Kz ps b
 | .cond _ a b=>match Kz ps a with|some q=>some q|none=>Kz ps b
 | .loop c=>Kz ps c
 | .block _ c=>Kz ps c
 | .rangeFunc _ qs a b=>if qs.toList=ps then some (a,b) else none
 |_=>none
def rfA (ps:List Nat) (c:Code):Code:=match Kz ps c with|some q=>q.1|none=> .skip
def rfB (ps:List Nat) (c:Code):Code:=match Kz ps c with|some q=>q.2|none=> .skip
def au {α β:Type} (a:α) (f:α->β):β:=f a
def aM {α:Type} (a:α) (f:α->Prop):Prop:=f a
theorem Jf {α:Type} {Q:α->Prop} {p:Prop} [Decidable p] {x y:α} {t1 t2:Prop} (hq:Q (if p then x else y)) (h1:p->Q x->t1) (h2: ¬p->Q y->t2):cB (decide p) t1 t2:=by
 by_cases h:p
 ·rw [if_pos h] at hq;rw [decide_eq_true h];exact h1 h hq
 ·rw [if_neg h] at hq;rw [decide_eq_false h];exact h2 h hq
theorem Hg {α:Type} {Q:α->Prop} {b:Bool} {x y:α} {t1 t2:Prop} (hq:Q (if b=true then x else y)) (h1:b=true->Q x->t1) (h2: ¬b=true->Q y->t2):cB b t1 t2:=by
 cases b with
 |true=>exact h1 rfl hq
 |false=>exact h2 (by simp) hq
theorem kN {b:Bool} {t:Prop} (h:b=true) (ht:t):ob b t:=by subst h;exact ht
theorem jR {b c:Bool} (h1:b=true) (h2:c=true):(b&&c)=true:=by rw [h1,h2];rfl
theorem FD {α β:Type} {Q:β->Prop} {g:α} {F:α->β} {P t:α->Prop} (hp:aM g P) (hq:Q (au g F)) (h: ∀y,P y->Q (F y)->t y): ∀y,y=g->t y:=by
 rintro y rfl;exact h _ hp hq
theorem Dd {α β:Type} {Q:β->Prop} {g:α} {F:α->β} {t:α->Prop} (hq:Q (au g F)) (h: ∀y,Q (F y)->t y): ∀y,y=g->t y:=by
 rintro y rfl;exact h _ hq
theorem ZU {A B β:Type} {Q:β->Prop} {r:A⊕B} {F:A->β} {G:B->β} {P:A->Prop} {P':B->Prop} {t:A->Prop} {t':B->Prop} (hp:cS r P P') (hq:Q (Sum.elim F G r)) (h1: ∀a,P a->Q (F a)->t a) (h2: ∀b,P' b->Q (G b)->t' b):cS r t t':=by
 cases r with
 |inl a=>exact h1 a hp hq
 |inr b=>exact h2 b hp hq
theorem ej {π:List Src} {st st':AS} (h1:GV π st.tmps st'.tmps) (h2:qW π st.heap π st'.heap) (h3:qD (ua π st'.heap)=true):mS st st':=⟨π,h1,h2,h3⟩
theorem ah {π:List Src} {h:List aQ} {m:Nat} {o p:aQ} (h1:av h m=some p) (h2:gg π o=some p):Bn π h (.same m) o:=⟨p,h1,h2⟩
theorem WN {π:List Src} {h:List aQ} {t:Ty} :Bn π h .nil (.row t [] 2):=⟨t,2,rfl,by decide⟩
theorem af.eO {P:Program} {tt:List (Nat×TI)} {specs:List (Nat×Spec)} {X:Addr->Value->Prop} {lp:List (Nat×bE)} {its:List (Nat×iu)} (h:af P specs) (hi:aA P X its):nW P ⟨tt,specs,X,lp,[],its⟩:=⟨h,rh.nil P,hi⟩
structure Vc (p:Prop):Prop where
 h:p
theorem Vc.eq {p q:Prop} (e:p=q) (h:q):Vc p:=⟨e▸h⟩
def Eh:List aQ->Nat->Nat->Nat
 | [],_,b=>b
 | .eJ _ _::r,i,_=>Eh r (i+1) (i+1)
 |_::r,i,b=>Eh r (i+1) b
def yU (l:List (Nat×bE)):bE:=fun st K=>match aG l (Eh st.heap 0 0) with
 |some sp=>sp st K
 |none=>False
def qc (i:Nat) (f:Loop->bE):bE:=fun st K=>match st.heap[i]? with
 |some (.loop r _ _)=>f r st K
 |_=>False
def wk (i:Nat) (f:Env->bE):bE:=fun st K=>match st.heap[i]? with
 |some (.eJ ρ _)=>f ρ st K
 |_=>False
structure rC (ctx:Ctx) (c:Code) (id:Nat) (sp:bE):Prop where
 h: ∀st K,sp st K->cK ctx c st (jK id (ja K))
def NN (ctx:Ctx) (c:Code) (id:Nat) {T:Type} (sp:T->bE):bE:=fun st K=> ∃t:T,rC ctx c id (sp t)/\ sp t st K
def IX (n:Nat) (tmps:List AV) (r:Loop) (mI:Env) (ps:List Nat) (co:Ctx) (fn:Func):List (Nat×Spec):= [(n,W9 cT n tmps r mI ps.toArray (cK co (rfA ps (bh fn))) (cK co (rfB ps (bh fn))))]
def rD (ctx:Ctx) (c:Code) (id:Nat) (sp:bE):Prop:= ∀st K,sp st K->Vc (cK ctx c st (jK id (ja K)))
section
variable {ctx:Ctx} {c:Code} {id:Nat}
theorem rD.nil:rD ctx c id (yU []):=fun _ _ h=>h.elim
theorem rD.cons {n:Nat} {sp:bE} {l:List (Nat×bE)} (h:rD ctx c id sp) (hl:rD ctx c id (yU l)):rD ctx c id (yU ((n,sp)::l)):=fun st K hk=>by
 unfold yU aG at hk
 by_cases e:n=Eh st.heap 0 0
 ·rw [if_pos e] at hk;exact h st K hk
 ·rw [if_neg e] at hk;exact hl st K hk
theorem rD.qc {i:Nat} {f:Loop->bE} (h: ∀r,rD ctx c id (f r)):rD ctx c id (qc i f):=fun st K hk=>by
 unfold Ev.qc at hk
 split at hk
 ·exact h _ st K hk
 ·exact hk.elim
theorem rD.wk {i:Nat} {f:Env->bE} (h: ∀r,rD ctx c id (f r)):rD ctx c id (wk i f):=fun st K hk=>by
 unfold Ev.wk at hk
 split at hk
 ·exact h _ st K hk
 ·exact hk.elim
theorem rD.cert {T:Type} {sp:T->bE} :rD ctx c id (NN ctx c id sp):=fun st K ⟨_,h,hs⟩=>⟨h.h st K hs⟩
theorem rD.LD {sp:bE} (h:rD ctx c id sp):rC ctx c id sp:=⟨fun st K hs=>(h st K hs).h⟩
end
section
variable {P:Program} {tt:List (Nat×TI)} {specs:List (Nat×Spec)}
theorem ak.aag (hT:aX P tt) (hS:af P specs) (hm:P.follows .mixedOrders=true) {n:FuncId} {fn:Func} (hf:P.funcs[n]? =some fn) (hn:fG (ids (bh fn))=true) (p r:nX) (pre:p.ty.T->Prop) (f:p.ty.T->r.ty.T) (hres:r.res=true)
  (h: ∀x,pre x-> ∃lp its,aA P cT its/\ ay P cT (bh fn) lp/\ Vc (N1 ⟨tt,specs,cT,lp,[],its⟩ fn (jy p x) (jB p x) (vB r (· =f x)))):ak P n (aq ⟨p,r,pre,f⟩):=
 ak.fnT (s:=⟨p,r,pre,f⟩) hT hS hm hf hn hres fun x hx=>by
  obtain ⟨lp,its,h1,h2,h3⟩:=h x hx
  exact ⟨lp,its,h1,h2,h3.h⟩
theorem ay.Xj (hT:aX P tt) {X:Addr->Value->Prop} {lp:List (Nat×bE)} {ys:List (Nat×Spec)} {its:List (Nat×iu)} (hC:nW P ⟨tt,specs,X,lp,ys,its⟩) (hm:P.follows .mixedOrders=true) {c b:Code} {id:Nat} {sp:bE} (hl:ay P X c lp) (hn':fG (ids c)=true) (hb:bF id c=some b)
  (h: ∀st K,sp st K->Vc (cK ⟨tt,specs,X,lp,ys,its⟩ b st (jK id (ja K)))):ay P X c ((id,sp)::lp):=ay.cons hT hC hm hl hn' hb fun st K hk=>(h st K hk).h
theorem ay.RS (hT:aX P tt) {X:Addr->Value->Prop} {lp:List (Nat×bE)} {ys:List (Nat×Spec)} {its:List (Nat×iu)} (hC:nW P ⟨tt,specs,X,lp,ys,its⟩) (hm:P.follows .mixedOrders=true) {c b:Code} {id:Nat} {sp:bE} (hl:ay P X c lp) (hn':fG (ids c)=true) (hb:bF id c=some b)
  (h:rD ⟨tt,specs,X,lp,ys,its⟩ b id sp):ay P X c ((id,sp)::lp):=ay.cons hT hC hm hl hn' hb fun st K hk=>(h st K hk).h
theorem nC {S R:Type} [Inhabited R] {ctx:Ctx} {c:Code} {id:Nat} {tm:S->AS} {step:S->S⊕R} {pre:S->Prop} {out:R->(Exit->AS->Prop)->Prop}
  (hr: ∀s K KN,pre s->fN tm out K KN (step s)->Vc (cK ctx c (tm s) (KB id K KN))) (st:AS) (K:Exit->AS->Prop) (h:vm tm step pre out st K):Vc (cK ctx (.loop c) st (jK id (ja K))):=⟨QC (fun s K KN h1 h2=>(hr s K KN h1 h2).h) st K h⟩
end
end Go.Ev
namespace Go.Ev
open Go.RowKit
section
variable {P:Program} {tt:List (Nat×TI)} {specs:List (Nat×Spec)}
end
def R3:iu:=fun _ _ _ _=>False
theorem PS {P:Program} {X:Addr->Value->Prop} {f:FuncId} :dB P X f R3:=fun _ _ _ _ h=>h.elim
end Go.Ev
