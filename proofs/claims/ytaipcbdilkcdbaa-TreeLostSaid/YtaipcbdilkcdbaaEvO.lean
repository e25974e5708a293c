/- Proofs of printed conditions: how the parts are joined. -/
import Derived.Test.YtaipcbdilkcdbaaEvL
noncomputable section
set_option linter.unusedSectionVars false
set_option linter.unusedVariables false
set_option linter.unusedSimpArgs false
namespace Go.Ev
abbrev I2:Type:=Int×Int
abbrev I3:Type:=Int×(Int×Int)
abbrev I9:Type:=(Int×(Int×Int))×((Int×(Int×Int))×(Int×(Int×Int)))
abbrev Zz:Int×Int:=((0:Int),(0:Int))
abbrev bp:Int×(Int×Int):=((0:Int),((0:Int),(0:Int)))
abbrev Ls:(Int×(Int×Int))×((Int×(Int×Int))×(Int×(Int×Int))):=(((0:Int),((0:Int),(0:Int))),(((0:Int),((0:Int),(0:Int))),((0:Int),((0:Int),(0:Int)))))
abbrev yi:Ty:= .int .i64
abbrev cr:Ty:=Ty.prod (Ty.int IntKind.i64) (Ty.prod (Ty.int IntKind.i64) (Ty.int IntKind.i64))
abbrev cH:Ty:=Ty.prod (Ty.prod (Ty.int IntKind.i64) (Ty.prod (Ty.int IntKind.i64) (Ty.int IntKind.i64))) (Ty.prod (Ty.prod (Ty.int IntKind.i64) (Ty.prod (Ty.int IntKind.i64) (Ty.int IntKind.i64))) (Ty.prod (Ty.int IntKind.i64) (Ty.prod (Ty.int IntKind.i64) (Ty.int IntKind.i64))))
def Hv (ps:List Nat):Code->Option (Code×Code)
 | .seq a b=>match Hv ps a with|some q=>some q|none=>Hv ps b
 | .cond _ a b=>match Hv ps a with|some q=>some q|none=>Hv ps b
 | .loop c=>Hv ps c
 | .block _ c=>Hv ps c
 | .rangeFunc _ qs a b=>if qs.toList=ps then some (a,b) else none
 |_=>none
def rfA (ps:List Nat) (c:Code):Code:=match Hv ps c with|some q=>q.1|none=> .skip
def rfB (ps:List Nat) (c:Code):Code:=match Hv ps c with|some q=>q.2|none=> .skip
def ai {α β:Type} (a:α) (f:α->β):β:=f a
def ay {α:Type} (a:α) (f:α->Prop):Prop:=f a
theorem LG {α:Type} {Q:α->Prop} {p:Prop} [Decidable p] {x y:α} {t1 t2:Prop} (hq:Q (if p then x else y)) (h1:p->Q x->t1) (h2: ¬p->Q y->t2):cB (decide p) t1 t2:=by
 by_cases h:p
 ·rw [if_pos h] at hq;rw [decide_eq_true h];exact h1 h hq
 ·rw [if_neg h] at hq;rw [decide_eq_false h];exact h2 h hq
theorem NR {α:Type} {Q:α->Prop} {b:Bool} {x y:α} {t1 t2:Prop} (hq:Q (if b=true then x else y)) (h1:b=true->Q x->t1) (h2: ¬b=true->Q y->t2):cB b t1 t2:=by
 cases b with
 |true=>exact h1 rfl hq
 |false=>exact h2 (by simp) hq
theorem lM {b:Bool} {t:Prop} (h:b=true) (ht:t):ob b t:=by subst h;exact ht
theorem cj {b c:Bool} (h1:b=true) (h2:c=true):(b&&c)=true:=by rw [h1,h2];rfl
theorem tH {α β:Type} {Q:β->Prop} {g:α} {F:α->β} {P t:α->Prop} (hp:ay g P) (hq:Q (ai g F)) (h: ∀y,P y->Q (F y)->t y): ∀y,y=g->t y:=by
 rintro y rfl;exact h _ hp hq
theorem Pb {α β:Type} {Q:β->Prop} {g:α} {F:α->β} {t:α->Prop} (hq:Q (ai g F)) (h: ∀y,Q (F y)->t y): ∀y,y=g->t y:=by
 rintro y rfl;exact h _ hq
theorem qo {π:List Src} {st st':AS} (h1:Cp π st.tmps st'.tmps) (h2:qH π st.heap π st'.heap) (h3:iT (sj π st'.heap)=true):s8 st st':=⟨π,h1,h2,h3⟩
theorem aC {π:List Src} {h:List aG} {m:Nat} {o p:aG} (h1:aj h m=some p) (h2:fA π o=some p):zD π h (.same m) o:=⟨p,h1,h2⟩
theorem ah.fe {P:Program} {tt:List (Nat×TI)} {specs:List (Nat×Spec)} {X:Addr->Value->Prop} {lp:List (Nat×cy)} {dc:List (Nat×iL)} (h:ah P specs) (hi:aD P X dc):oT P ⟨tt,specs,X,lp,[],dc⟩:=⟨h,s9.nil P,hi⟩
structure Vc (p:Prop):Prop where
 h:p
theorem Vc.eq {p q:Prop} (e:p=q) (h:q):Vc p:=⟨e▸h⟩
def FF:List aG->Nat->Nat->Nat
 | [],_,b=>b
 | .de _ _::r,i,_=>FF r (i+1) (i+1)
 |_::r,i,b=>FF r (i+1) b
def FP (l:List (Nat×cy)):cy:=fun st K=>match aF l (FF st.heap 0 0) with
 |some sp=>sp st K
 |none=>False
def pR (i:Nat) (f:Loop->cy):cy:=fun st K=>match st.heap[i]? with
 |some (.loop r _ _)=>f r st K
 |_=>False
def oW (i:Nat) (f:Env->cy):cy:=fun st K=>match st.heap[i]? with
 |some (.de ρ _)=>f ρ st K
 |_=>False
structure EA (ctx:Ctx) (c:Code) (id:Nat) (sp:cy):Prop where
 h: ∀st K,sp st K->dY ctx c st (mq id (m7 K))
def SR (ctx:Ctx) (c:Code) (id:Nat) {T:Type} (sp:T->cy):cy:=fun st K=> ∃t:T,EA ctx c id (sp t)/\ sp t st K
def VE (n:Nat) (tmps:List AV) (r:Loop) (dH:Env) (ps:List Nat) (co:Ctx) (fn:Func):List (Nat×Spec):= [(n,SL fh n tmps r dH ps.toArray (dY co (rfA ps (bG fn))) (dY co (rfB ps (bG fn))))]
def uX (ctx:Ctx) (c:Code) (id:Nat) (sp:cy):Prop:= ∀st K,sp st K->Vc (dY ctx c st (mq id (m7 K)))
section
variable {ctx:Ctx} {c:Code} {id:Nat}
theorem uX.nil:uX ctx c id (FP []):=fun _ _ h=>h.elim
theorem uX.cons {n:Nat} {sp:cy} {l:List (Nat×cy)} (h:uX ctx c id sp) (hl:uX ctx c id (FP l)):uX ctx c id (FP ((n,sp)::l)):=fun st K hk=>by
 unfold FP aF at hk
 by_cases e:n=FF st.heap 0 0
 ·rw [if_pos e] at hk;exact h st K hk
 ·rw [if_neg e] at hk;exact hl st K hk
theorem uX.pR {i:Nat} {f:Loop->cy} (h: ∀r,uX ctx c id (f r)):uX ctx c id (pR i f):=fun st K hk=>by
 unfold Ev.pR at hk
 split at hk
 ·exact h _ st K hk
 ·exact hk.elim
theorem uX.oW {i:Nat} {f:Env->cy} (h: ∀r,uX ctx c id (f r)):uX ctx c id (oW i f):=fun st K hk=>by
 unfold Ev.oW at hk
 split at hk
 ·exact h _ st K hk
 ·exact hk.elim
theorem uX.cert {T:Type} {sp:T->cy} :uX ctx c id (SR ctx c id sp):=fun st K ⟨_,h,hs⟩=>⟨h.h st K hs⟩
theorem uX.TF {sp:cy} (h:uX ctx c id sp):EA ctx c id sp:=⟨fun st K hs=>(h st K hs).h⟩
end
section
variable {P:Program} {tt:List (Nat×TI)} {specs:List (Nat×Spec)}
theorem av.X6 (hT:br P tt) (hS:ah P specs) (hm:P.follows .mixedOrders=true) {n:FuncId} {fn:Func} (hf:P.funcs[n]? =some fn) (hn:ew (ids (bG fn))=true) (p r:mF) (pre:p.ty.T->Prop) (f:p.ty.T->r.ty.T) (hres:r.res=true)
  (h: ∀x,pre x-> ∃lp dc,aD P fh dc/\ aB P fh (bG fn) lp/\ Vc (ET ⟨tt,specs,fh,lp,[],dc⟩ fn (fH p x) (fW p x) (JN r (· =f x)))):av P n (aH ⟨p,r,pre,f⟩):=
 av.ZG (s:=⟨p,r,pre,f⟩) hT hS hm hf hn hres fun x hx=>by
  obtain ⟨lp,dc,h1,h2,h3⟩:=h x hx
  exact ⟨lp,dc,h1,h2,h3.h⟩
theorem aB.SU (hT:br P tt) {X:Addr->Value->Prop} {lp:List (Nat×cy)} {ys:List (Nat×Spec)} {dc:List (Nat×iL)} (hC:oT P ⟨tt,specs,X,lp,ys,dc⟩) (hm:P.follows .mixedOrders=true) {c b:Code} {id:Nat} {sp:cy} (hl:aB P X c lp) (hn':ew (ids c)=true) (hb:bF id c=some b)
  (h:uX ⟨tt,specs,X,lp,ys,dc⟩ b id sp):aB P X c ((id,sp)::lp):=aB.cons hT hC hm hl hn' hb fun st K hk=>(h st K hk).h
theorem Bj {S R:Type} [Inhabited R] {ctx:Ctx} {c:Code} {id:Nat} {tm:S->AS} {step:S->S⊕R} {pre:S->Prop} {out:R->(Exit->AS->Prop)->Prop}
  (hr: ∀s K KN,pre s->pL tm out K KN (step s)->Vc (dY ctx c (tm s) (KB id K KN))) (st:AS) (K:Exit->AS->Prop) (h:Fb tm step pre out st K):Vc (dY ctx (.loop c) st (mq id (m7 K))):=⟨MA (fun s K KN h1 h2=>(hr s K KN h1 h2).h) st K h⟩
end
end Go.Ev
