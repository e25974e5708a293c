/- Proofs of printed conditions: how the parts are joined. -/
import Derived.Test.YtfgdjlhilladhaaGreatEvL
noncomputable section
set_option linter.unusedSectionVars false
set_option linter.unusedVariables false
set_option linter.unusedSimpArgs false
namespace Go.Ev
abbrev I2:Type:=Int×Int
abbrev I3:Type:=Int×(Int×Int)
abbrev I6:Type:=(Int×Int)×((Int×Int)×Int×Int)
abbrev I9:Type:=(Int×Int×Int)×((Int×Int×Int)×Int×Int×Int)
abbrev jg:Int×Int:=((0:Int),(0:Int))
abbrev ef:Int×(Int×Int):=((0:Int),(0:Int),(0:Int))
abbrev aK:(Int×Int)×((Int×Int)×Int×Int):=(((0:Int),(0:Int)),((0:Int),(0:Int)),(0:Int),(0:Int))
abbrev jq:(Int×Int×Int)×((Int×Int×Int)×Int×Int×Int):=(((0:Int),(0:Int),(0:Int)),((0:Int),(0:Int),(0:Int)),(0:Int),(0:Int),(0:Int))
abbrev yi:Ty:= .int .i64
abbrev aQ:Ty:=Ty.prod (Ty.int IntKind.i64) (Ty.int IntKind.i64)
abbrev aU:Ty:=Ty.prod (Ty.int IntKind.i64) (Ty.prod (Ty.int IntKind.i64) (Ty.int IntKind.i64))
abbrev aZ:Ty:=Ty.prod (Ty.prod (Ty.int IntKind.i64) (Ty.int IntKind.i64)) (Ty.prod (Ty.prod (Ty.int IntKind.i64) (Ty.int IntKind.i64)) (Ty.prod (Ty.int IntKind.i64) (Ty.int IntKind.i64)))
abbrev fk:Ty:=Ty.prod (Ty.prod (Ty.int IntKind.i64) (Ty.prod (Ty.int IntKind.i64) (Ty.int IntKind.i64))) (Ty.prod (Ty.prod (Ty.int IntKind.i64) (Ty.prod (Ty.int IntKind.i64) (Ty.int IntKind.i64))) (Ty.prod (Ty.int IntKind.i64) (Ty.prod (Ty.int IntKind.i64) (Ty.int IntKind.i64))))
def U1 (ps:List Nat):Code->Option (Code×Code)
 | .seq a b=>match U1 ps a with|some q=>some q|none=>U1 ps b
 | .cond _ a b=>match U1 ps a with|some q=>some q|none=>U1 ps b
 | .loop c=>U1 ps c
 | .block _ c=>U1 ps c
 | .rangeFunc _ qs a b=>if qs.toList=ps then some (a,b) else none
 |_=>none
def rfA (ps:List Nat) (c:Code):Code:=match U1 ps c with|some q=>q.1|none=> .skip
def rfB (ps:List Nat) (c:Code):Code:=match U1 ps c with|some q=>q.2|none=> .skip
def aq {α β:Type} (a:α) (f:α->β):β:=f a
def az {α:Type} (a:α) (f:α->Prop):Prop:=f a
theorem CG {α:Type} {Q:α->Prop} {p:Prop} [Decidable p] {x y:α} {t1 t2:Prop} (hq:Q (if p then x else y)) (h1:p->Q x->t1) (h2: ¬p->Q y->t2):cB (decide p) t1 t2:=by
 by_cases h:p
 ·rw [if_pos h] at hq;rw [decide_eq_true h];exact h1 h hq
 ·rw [if_neg h] at hq;rw [decide_eq_false h];exact h2 h hq
theorem FO {α:Type} {Q:α->Prop} {b:Bool} {x y:α} {t1 t2:Prop} (hq:Q (if b=true then x else y)) (h1:b=true->Q x->t1) (h2: ¬b=true->Q y->t2):cB b t1 t2:=by
 cases b with
 |true=>exact h1 rfl hq
 |false=>exact h2 (by simp) hq
theorem b7 {b:Bool} {t:Prop} (h:b=true) (ht:t):ob b t:=by subst h;exact ht
theorem dK {b c:Bool} (h1:b=true) (h2:c=true):(b&&c)=true:=by rw [h1,h2];rfl
theorem oK {α β:Type} {Q:β->Prop} {g:α} {F:α->β} {P t:α->Prop} (hp:az g P) (hq:Q (aq g F)) (h: ∀y,P y->Q (F y)->t y): ∀y,y=g->t y:=by
 rintro y rfl;exact h _ hp hq
theorem pL {α β:Type} {Q:β->Prop} {g:α} {F:α->β} {t:α->Prop} (hq:Q (aq g F)) (h: ∀y,Q (F y)->t y): ∀y,y=g->t y:=by
 rintro y rfl;exact h _ hq
theorem akL {A B β:Type} {Q:β->Prop} {r:A⊕B} {F:A->β} {G:B->β} {P:A->Prop} {P':B->Prop} {t:A->Prop} {t':B->Prop} (hp:cS r P P') (hq:Q (Sum.elim F G r)) (h1: ∀a,P a->Q (F a)->t a) (h2: ∀b,P' b->Q (G b)->t' b):cS r t t':=by
 cases r with
 |inl a=>exact h1 a hp hq
 |inr b=>exact h2 b hp hq
theorem bP {π:List Src} {st st':AS} (h1:QC π st.tmps st'.tmps) (h2:wL π st.heap π st'.heap) (h3:xV (AG π st'.heap)=true):pN st st':=⟨π,h1,h2,h3⟩
theorem ai {π:List Src} {h:List aX} {m:Nat} {o p:aX} (h1:aA h m=some p) (h2:lQ π o=some p):IX π h (.same m) o:=⟨p,h1,h2⟩
theorem ah0 {π:List Src} {h:List aX} {t:Ty} :IX π h .nil (.row t [] 2):=⟨t,2,rfl,by decide⟩
theorem ae.bD {P:Program} {tt:List (Nat×TI)} {specs:List (Nat×Spec)} {X:Addr->Value->Prop} {lp:List (Nat×bC)} {its:List (Nat×k9)} (h:ae P specs) (hi:av P X its):rz P ⟨tt,specs,X,lp,[],its⟩:=⟨h,xe.nil P,hi⟩
structure Vc (p:Prop):Prop where
 h:p
theorem Vc.eq {p q:Prop} (e:p=q) (h:q):Vc p:=⟨e▸h⟩
def ML:List aX->Nat->Nat->Nat
 | [],_,b=>b
 | .ji _ _::r,i,_=>ML r (i+1) (i+1)
 |_::r,i,b=>ML r (i+1) b
def FL (l:List (Nat×bC)):bC:=fun st K=>match aJ l (ML st.heap 0 0) with
 |some sp=>sp st K
 |none=>False
def uK (i:Nat) (f:Loop->bC):bC:=fun st K=>match st.heap[i]? with
 |some (.loop r _ _)=>f r st K
 |_=>False
def CF (i:Nat) (f:Env->bC):bC:=fun st K=>match st.heap[i]? with
 |some (.ji ρ _)=>f ρ st K
 |_=>False
structure w6 (ctx:Ctx) (c:Code) (id:Nat) (sp:bC):Prop where
 h: ∀st K,sp st K->cy ctx c st (jm id (iB K))
def YJ (ctx:Ctx) (c:Code) (id:Nat) {T:Type} (sp:T->bC):bC:=fun st K=> ∃t:T,w6 ctx c id (sp t)/\ sp t st K
def SU (n:Nat) (tmps:List AV) (r:Loop) (tG:Env) (ps:List Nat) (co:Ctx) (fn:Func):List (Nat×Spec):= [(n,aiq cZ n tmps r tG ps.toArray (cy co (rfA ps (bn fn))) (cy co (rfB ps (bn fn))))]
def w8 (ctx:Ctx) (c:Code) (id:Nat) (sp:bC):Prop:= ∀st K,sp st K->Vc (cy ctx c st (jm id (iB K)))
section
variable {ctx:Ctx} {c:Code} {id:Nat}
theorem w8.nil:w8 ctx c id (FL []):=fun _ _ h=>h.elim
theorem w8.cons {n:Nat} {sp:bC} {l:List (Nat×bC)} (h:w8 ctx c id sp) (hl:w8 ctx c id (FL l)):w8 ctx c id (FL ((n,sp)::l)):=fun st K hk=>by
 unfold FL aJ at hk
 by_cases e:n=ML st.heap 0 0
 ·rw [if_pos e] at hk;exact h st K hk
 ·rw [if_neg e] at hk;exact hl st K hk
theorem w8.uK {i:Nat} {f:Loop->bC} (h: ∀r,w8 ctx c id (f r)):w8 ctx c id (uK i f):=fun st K hk=>by
 unfold Ev.uK at hk
 split at hk
 ·exact h _ st K hk
 ·exact hk.elim
theorem w8.CF {i:Nat} {f:Env->bC} (h: ∀r,w8 ctx c id (f r)):w8 ctx c id (CF i f):=fun st K hk=>by
 unfold Ev.CF at hk
 split at hk
 ·exact h _ st K hk
 ·exact hk.elim
theorem w8.cert {T:Type} {sp:T->bC} :w8 ctx c id (YJ ctx c id sp):=fun st K ⟨_,h,hs⟩=>⟨h.h st K hs⟩
theorem w8.V2 {sp:bC} (h:w8 ctx c id sp):w6 ctx c id sp:=⟨fun st K hs=>(h st K hs).h⟩
end
section
variable {P:Program} {tt:List (Nat×TI)} {specs:List (Nat×Spec)}
theorem ah.akW (hT:aW P tt) (hS:ae P specs) (hm:P.follows .mixedOrders=true) {n:FuncId} {fn:Func} (hf:P.funcs[n]? =some fn) (hn:jf (ids (bn fn))=true) (p r:wI) (pre:p.ty.T->Prop) (f:p.ty.T->r.ty.T) (hres:r.res=true)
  (h: ∀x,pre x-> ∃lp its,av P cZ its/\ au P cZ (bn fn) lp/\ Vc (Na ⟨tt,specs,cZ,lp,[],its⟩ fn (ij p x) (iq p x) (Ss r (· =f x)))):ah P n (ak ⟨p,r,pre,f⟩):=
 ah.fnT (s:=⟨p,r,pre,f⟩) hT hS hm hf hn hres fun x hx=>by
  obtain ⟨lp,its,h1,h2,h3⟩:=h x hx
  exact ⟨lp,its,h1,h2,h3.h⟩
theorem au.JT (hT:aW P tt) {X:Addr->Value->Prop} {lp:List (Nat×bC)} {ys:List (Nat×Spec)} {its:List (Nat×k9)} (hC:rz P ⟨tt,specs,X,lp,ys,its⟩) (hm:P.follows .mixedOrders=true) {c b:Code} {id:Nat} {sp:bC} (hl:au P X c lp) (hn':jf (ids c)=true) (hb:bx id c=some b)
  (h: ∀st K,sp st K->Vc (cy ⟨tt,specs,X,lp,ys,its⟩ b st (jm id (iB K)))):au P X c ((id,sp)::lp):=au.cons hT hC hm hl hn' hb fun st K hk=>(h st K hk).h
theorem au.ac9 (hT:aW P tt) {X:Addr->Value->Prop} {lp:List (Nat×bC)} {ys:List (Nat×Spec)} {its:List (Nat×k9)} (hC:rz P ⟨tt,specs,X,lp,ys,its⟩) (hm:P.follows .mixedOrders=true) {c b:Code} {id:Nat} {sp:bC} (hl:au P X c lp) (hn':jf (ids c)=true) (hb:bx id c=some b)
  (h:w8 ⟨tt,specs,X,lp,ys,its⟩ b id sp):au P X c ((id,sp)::lp):=au.cons hT hC hm hl hn' hb fun st K hk=>(h st K hk).h
theorem fX {S R:Type} [Inhabited R] {ctx:Ctx} {c:Code} {id:Nat} {tm:S->AS} {step:S->S⊕R} {pre:S->Prop} {out:R->(Exit->AS->Prop)->Prop}
  (hr: ∀s K KN,pre s->cz tm out K KN (step s)->Vc (cy ctx c (tm s) (KB id K KN))) (st:AS) (K:Exit->AS->Prop) (h:pB tm step pre out st K):Vc (cy ctx (.loop c) st (jm id (iB K))):=⟨aa2 (fun s K KN h1 h2=>(hr s K KN h1 h2).h) st K h⟩
end
end Go.Ev
