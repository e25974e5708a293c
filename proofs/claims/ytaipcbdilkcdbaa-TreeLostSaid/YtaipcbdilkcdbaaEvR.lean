/- Conditions as trees: what is computed, and what must hold for that. -/
import Derived.Test.YtaipcbdilkcdbaaEvQ
noncomputable section
set_option linter.unusedSectionVars false
set_option linter.unusedVariables false
set_option linter.unusedSimpArgs false
namespace Go.Ev
open Go.RowKit
inductive Tr (τ:Type):Bool->Type 1
 |ret (y:τ):Tr τ false
 |og {i:Bool} (b:Bool) (p:Prop) (h:p->b=true) (t:Tr τ i):Tr τ true
 |o0 {i:Bool} (b:Bool) (h:b=true) (t:Tr τ i):Tr τ i
 |ite {i j:Bool} (p:Prop) [d:Decidable p] (t:Tr τ i) (u:Tr τ j):Tr τ (i||j)
 |cb {i j:Bool} (b:Bool) (t:Tr τ i) (u:Tr τ j):Tr τ (i||j)
 |call {i:Bool} {α:Type} (P:Prop) (v:α) (k:α->Tr τ i):Tr τ true
 |Kf {i:Bool} {α:Type} (P:Prop) (h:P) (v:α) (k:α->Tr τ i):Tr τ i
 |nil {i:Bool} (H:Bool->Prop) (k:Bool->Tr τ i):Tr τ true
 |sum {i j:Bool} {α β:Type} (r:α⊕β) (f:α->Tr τ i) (g:β->Tr τ j):Tr τ (i||j)
 |VG {i:Bool} (t:Tr τ i):Tr τ i
 |XZ {i:Bool} (t:Tr τ i):Tr τ i
 |fE {i:Bool} (k:Nat) (t:Tr τ i):Tr τ i
 |fL {i:Bool} (k:Nat) (t:Tr τ i):Tr τ i
 |fact {i:Bool} (P:Prop) (h:P) (t:Tr τ i):Tr τ i
 |lpc {i:Bool} {α:Type} (c:List DV) (P:Prop) (v:α) (k:α->Tr τ i):Tr τ true
 |exi {i:Bool} {α:Type} (a:α) (C:α->Prop) (h:C a) (k:α->Tr τ i):Tr τ i
namespace Tr
variable {τ:Type}
def gE (G:List DV) (k:Nat):Env:=match G[k]? with|some (.env ρ)=>ρ|_=>fun _=> {}
def gL (G:List DV) (k:Nat):Loop:=match G[k]? with|some (.lo r)=>r|_=> {state:= .ready,pending:=none,fn:=0,tmps:= #[],params:= #[],assign:= .skip,body:= .skip,defers:=0}
def wp {i:Bool} (t:Tr τ i) (Q:τ->Prop) (G:List DV):Prop:=
 Tr.rec (motive:=fun _ _=>List DV->Prop) (fun y _=>Q y) (fun b _ _ _ r G=>Ev.ob b (r G)) (fun b _ _ r G=>Ev.ob b (r G)) (fun p d _ _ r s G=>cB (@decide p d) (r G) (s G)) (fun b _ _ r s G=>cB b (r G) (s G))
  (fun P v _ r G=>P/\ ∀y,y=v->r y G) (fun P _ v _ r G=>P/\ ∀y,y=v->r y G) (fun H _ r G=> ∀b,H b->r b G) (fun x _ _ r s G=>cS x (fun a=>r a G) (fun b=>s b G))
  (fun _ r G=> ∀ρ:Env,r (G++ [.env ρ])) (fun _ r G=> ∀l:Loop,r (G++ [.lo l])) (fun k _ r G=>gE G k=gE G k/\ r G) (fun k _ r G=>gL G k=gL G k/\ r G) (fun P _ _ r G=>P/\ r G)
  (fun c P v _ r G=>c=c/\ P/\ ∀y,y=v->r y G) (fun _ C _ _ r G=> ∃a,C a/\ r a G) t G
def val {i:Bool} (t:Tr τ i):τ:=
 Tr.rec (motive:=fun _ _=>τ) (fun y=>y) (fun _ _ _ _ r=>r) (fun _ _ _ r=>r) (fun p d _ _ r s=> @_root_.ite τ p d r s) (fun b _ _ r s=>if b=true then r else s)
  (fun _ v _ r=>ai v r) (fun _ _ v _ r=>ai v r) (fun _ _ r=>r false) (fun x _ _ r s=>Sum.elim r s x) (fun _ r=>r) (fun _ r=>r) (fun _ _ r=>r) (fun _ _ r=>r) (fun _ _ _ r=>r)
  (fun _ _ v _ r=>ai v r) (fun a _ _ _ r=>r a) t
def pI (i:Bool) (p:Prop):Prop:=match i with|true=>p|false=>True
def Xc (i:Bool) (a p:Prop):Prop:=match i with|true=>a/\ p|false=>a
def Zq {α:Type} (i:Bool) (v:α) (p:α->Prop):Prop:=match i with|true=>ay v p|false=>True
def KS {α:Type} (i:Bool) (P:Prop) (v:α) (p:α->Prop):Prop:=match i with|true=>P/\ ay v p|false=>P
def Xd (i j:Bool) (c a b:Prop):Prop:=match i,j with
 |false,false=>True
 |true,false=>c->a
 |false,true=> ¬c->b
 |true,true=>(c->a)/\ (¬c->b)
def Zr {α β:Type} (i j:Bool) (x:α⊕β) (a:α->Prop) (b:β->Prop):Prop:=match i,j with
 |false,false=>True
 |true,false=>cS x a fun _=>True
 |false,true=>cS x (fun _=>True) b
 |true,true=>cS x a b
def pre {i:Bool} (t:Tr τ i):Prop:=
 Tr.rec (motive:=fun _ _=>Prop) (fun _=>True) (fun {i} _ p _ _ r=>Xc i p r) (fun _ _ _ r=>r) (fun {i j} p _ _ _ r s=>Xd i j p r s) (fun {i j} b _ _ r s=>Xd i j (b=true) r s)
  (fun {i} _ P v _ r=>KS i P v r) (fun {i} _ _ _ v _ r=>Zq i v r) (fun {i} H k r=> ∀b:Bool,H b->(val (k b)=val (k false)/\ pI i (r b))) (fun {i j} _ _ x _ _ r s=>Zr i j x r s) (fun _ r=>r) (fun _ r=>r) (fun _ _ r=>r) (fun _ _ r=>r) (fun _ _ _ r=>r)
  (fun {i} _ _ P v _ r=>KS i P v r) (fun a _ _ _ r=>r a) t
theorem Ia (Q:τ->Prop) {i:Bool} (t:Tr τ i): ∀G,pI i t.pre->Q t.val->t.wp Q G:=by
 induction t with
 |ret y=>exact fun _ _ h=>h
 | @og i b p hb t ih=>
  intro G hp hq
  have hp:Xc i p t.pre:=hp
  refine lM (hb ?_) (ih G ?_ hq)
  ·cases i with|true=>exact hp.1|false=>exact hp
  ·cases i with|true=>exact hp.2|false=>trivial
 |o0 b hb t ih=>exact fun G hp hq=>lM hb (ih G hp hq)
 | @ite i j p d t u Zj Zk=>
  intro G hp hq
  refine LG (Q:=Q) hq (fun h1=>Zj G ?_) (fun h1=>Zk G ?_)
  ·cases i<;>cases j<;>first|trivial|exact hp h1|exact hp.1 h1
  ·cases i<;>cases j<;>first|trivial|exact hp h1|exact hp.2 h1
 | @cb i j b t u Zj Zk=>
  intro G hp hq
  refine NR (Q:=Q) hq (fun h1=>Zj G ?_) (fun h1=>Zk G ?_)
  ·cases i<;>cases j<;>first|trivial|exact hp h1|exact hp.1 h1
  ·cases i<;>cases j<;>first|trivial|exact hp h1|exact hp.2 h1
 | @call i α P v k ih=>
  intro G hp hq
  have hp:KS i P v fun y=>(k y).pre:=hp
  refine ⟨?_,fun y e=> ?_⟩
  ·cases i with|true=>exact hp.1|false=>exact hp
  ·subst e
   refine ih y G ?_ hq
   cases i with|true=>exact hp.2|false=>trivial
 | @Kf i α P h v k ih=>
  intro G hp hq
  refine ⟨h,fun y e=> ?_⟩
  subst e
  refine ih y G ?_ hq
  cases i with|true=>exact hp|false=>trivial
 | @nil i H k ih=>
  intro G hp hq b hb
  obtain ⟨h1,h2⟩:=(hp: ∀b:Bool,H b->((k b).val=(k false).val/\ pI i (k b).pre)) b hb
  refine ih b G h2 ?_
  rw [h1];exact hq
 | @sum i j α β r f g ihf ihg=>
  intro G hp hq
  cases r with
  |inl a=>
   refine ihf a G ?_ hq
   cases i<;>cases j<;>first|trivial|exact hp
  |inr a=>
   refine ihg a G ?_ hq
   cases i<;>cases j<;>first|trivial|exact hp
 |VG t ih=>exact fun G hp hq _=>ih _ hp hq
 |XZ t ih=>exact fun G hp hq _=>ih _ hp hq
 |fE k t ih=>exact fun G hp hq=>⟨rfl,ih G hp hq⟩
 |fL k t ih=>exact fun G hp hq=>⟨rfl,ih G hp hq⟩
 |fact P h t ih=>exact fun G hp hq=>⟨h,ih G hp hq⟩
 | @lpc i α c P v k ih=>
  intro G hp hq
  have hp:KS i P v fun y=>(k y).pre:=hp
  refine ⟨rfl,?_,fun y e=> ?_⟩
  ·cases i with|true=>exact hp.1|false=>exact hp
  ·subst e
   refine ih y G ?_ hq
   cases i with|true=>exact hp.2|false=>trivial
 |exi a C h k ih=>exact fun G hp hq=>⟨a,h,ih a G hp hq⟩
abbrev od {i:Bool} (p:Prop) [Decidable p] (t:Tr τ i):Tr τ true:= .og (decide p) p decide_eq_true t
abbrev ob {i:Bool} (b:Bool) (t:Tr τ i):Tr τ true:= .og b (b=true) id t
abbrev oR {i:Bool} (j n:Int) (t:Tr τ i):Tr τ true:= .og (decide (0<=j)&&decide (j<n)) (0<=j/\ j<n) (fun h=>cj (decide_eq_true h.1) (decide_eq_true h.2)) t
end Tr
structure XD (gt:List HT) where
 raw:Exit
 e:Exit
 p:qS gt
@[reducible] def RT {gt:List HT} :List (XD gt)->Type
 | []=>Unit
 | [x]=>TT x.p.ts
 |x::y::r=>TT x.p.ts⊕RT (y::r)
structure aS where
 gt:List HT:= []
 Kv:qS gt
 xs:List (XD gt)
def HT.dflt:(h:HT)->h.T
 | .i=>(default:Int)
 | .b=>(default:Bool)
 | .s=>(default:ByteArray)
 | .n=>(default:Nat)
 | .v=>undef
 | .env=>fun _=> {}
 | .lo=> {state:= .ready,pending:=none,fn:=0,tmps:= #[],params:= #[],assign:= .skip,body:= .skip,defers:=0}
 | .hd=>fun _=>False
 | .l _=> []
 | .tv t=>t.d
def TT.dflt:(ts:List HT)->TT ts
 | []=>()
 | [a]=>a.dflt
 |a::c::r=>(a.dflt,TT.dflt (c::r))
def RT.dflt {gt:List HT} :(xs:List (XD gt))->RT xs
 | []=>()
 | [x]=>TT.dflt x.p.ts
 |x::_::_=> .inl (TT.dflt x.p.ts)
namespace aS
@[reducible] def S (L:aS):Type:=TT L.Kv.ts
@[reducible] def R (L:aS):Type:=RT L.xs
instance abR (L:aS):Inhabited (RT L.xs):=⟨RT.dflt L.xs⟩
def R3 {gt:List HT} :(xs:List (XD gt))->TT gt->RT xs->(Exit->AS->Prop)->Prop
 | [],_,_,_=>False
 | [x],g,r,K=>K x.e (x.p.fill g r)
 |x::y::l,g,r,K=>cS r (fun a=>K x.e (x.p.fill g a)) (fun b=>R3 (y::l) g b K)
def xG:Exit->Exit->Bool
 | .ret,.ret=>true
 | .exit a,.exit b=>Nat.beq a b
 |_,_=>false
def Xh {gt:List HT} (p:qS gt) (g:TT gt) (st:AS) (Q:TT p.ts->Prop):Prop:=match p.read st with
 |some (g',c',s)=>g'=g/\ c'=p.c/\ Q s
 |none=>False
def kx {gt:List HT} :(xs:List (XD gt))->TT gt->Exit->AS->(RT xs->Prop)->Prop
 | [],_,_,_,_=>False
 | [x],g,e,st,Q=>match xG x.raw e with|true=>Xh x.p g st Q|false=>False
 |x::y::l,g,e,st,Q=>match xG x.raw e with|true=>Xh x.p g st fun a=>Q (.inl a)|false=>kx (y::l) g e st fun b=>Q (.inr b)
def kb (L:aS) (g:TT L.gt) (Q:L.S⊕L.R->Prop) (e:Exit) (st:AS):Prop:=match e with
 | .normal=>Xh L.Kv g st fun s=>Q (.inl s)
 |e=>kx L.xs g e st fun r=>Q (.inr r)
def px {gt:List HT} :(xs:List (XD gt))->TT gt->(RT xs->Prop)->RT xs->Prop
 | [],_,_,_=>True
 | [x],g,Q,r=>g=g/\ x.p.c=x.p.c/\ Q r
 |x::y::l,g,Q,r=>match r with
  | .inl a=>g=g/\ x.p.c=x.p.c/\ Q (.inl a)
  | .inr b=>px (y::l) g (fun b=>Q (.inr b)) b
def post (L:aS) (g:TT L.gt) (Q:L.S⊕L.R->Prop):L.S⊕L.R->Prop
 | .inl s=>g=g/\ L.Kv.c=L.Kv.c/\ Q (.inl s)
 | .inr r=>px L.xs g (fun r=>Q (.inr r)) r
def sp (L:aS) {i:Bool} (t:L.S->Tr (L.S⊕L.R) i):cy:=fun st K=>match L.Kv.read st with
 |some (g,c',s)=>c'=L.Kv.c/\ Term (fun s=>(t s).val) (fun s=>Tr.pI i (t s).pre) s/\ ∀r,r=run (fun s=>(t s).val) s->R3 L.xs g r K
 |none=>False
abbrev lp (L:aS) {i:Bool} (t:L.S->Tr (L.S⊕L.R) i) {τ:Type} {j:Bool} (s:L.S) (k:L.R->Tr τ j):Tr τ true:=
 .lpc L.Kv.c (Term (fun s=>(t s).val) (fun s=>Tr.pI i (t s).pre) s) (run (fun s=>(t s).val) s) k
def KX (id:Nat) (r e:Exit):Bool:=match r with
 | .exit a=>bif Nat.beq a id then (match e with| .normal=>true|_=>false) else xG e r
 | .ret=>xG e r
 |_=>false
def Vb {gt:List HT} (id:Nat):List (XD gt)->Bool
 | []=>true
 |x::l=>x.p.ok&&KX id x.raw x.e&&Vb id l
def ok (L:aS) (id:Nat):Bool:=L.Kv.ok&&Vb id L.xs
theorem JJ {gt:List HT} {p:qS gt} (hp:p.ok=true) {g:TT gt} {st:AS} {Q:TT p.ts->Prop} (h:Xh p g st Q): ∃s,s8 st (p.fill g s)/\ Q s:=by
 unfold Xh at h
 split at h
 ·rename_i g' c' s e
  obtain ⟨rfl,hc,hq⟩:=h
  exact ⟨s,qS.KZ hp e hc,hq⟩
 ·exact h.elim
theorem sC {a b:Exit} (h:xG a b=true):a=b:=by
 cases a<;>cases b<;>simp_all [xG]
theorem Hj {id:Nat} {r e:Exit} (h:KX id r e=true) {K:Exit->AS->Prop} {st:AS} (hk:K e st):mq id K r st:=by
 unfold KX at h
 split at h
 ·rename_i a
  unfold mq
  dsimp only
  cases hb:Nat.beq a id with
  |true=>
   rw [hb] at h
   rw [if_pos (Nat.eq_of_beq_eq_true hb)]
   cases e<;>first|exact hk|cases h
  |false=>
   rw [hb] at h
   have hne: ¬a=id:=fun e=>by subst e;simp at hb
   rw [if_neg hne]
   have:=sC h
   subst this;exact hk
 ·have:=sC h
  subst this;exact hk
 ·cases h
theorem Tc {gt:List HT} {id:Nat} {g:TT gt} {e:Exit} {st:AS} {K:Exit->AS->Prop} : ∀(xs:List (XD gt)),Vb id xs=true->kx xs g e st (fun r=>R3 xs g r K)->mq id (m7 K) e st
 | [],_,h=>h.elim
 | [x],ho,h=>by
  simp only [Vb,Bool.and_eq_true,Bool.and_true] at ho
  unfold kx at h
  split at h
  ·rename_i he
   have:=sC he
   subst this
   obtain ⟨s,hw,hq⟩:=JJ ho.1 h
   exact Hj ho.2 ⟨_,hw,hq⟩
  ·exact h.elim
 |x::y::l,ho,h=>by
  have YO:x.p.ok=true/\ KX id x.raw x.e=true/\ Vb id (y::l)=true:=by
   rw [Vb,Bool.and_eq_true,Bool.and_eq_true] at ho
   exact ⟨ho.1.1,ho.1.2,ho.2⟩
  unfold kx at h
  split at h
  ·rename_i he
   have:=sC he
   subst this
   obtain ⟨s,hw,hq⟩:=JJ YO.1 h
   exact Hj YO.2.1 ⟨_,hw,hq⟩
  ·exact Tc (y::l) YO.2.2 h
theorem Ti {gt:List HT} {g:TT gt} : ∀(xs:List (XD gt)) (Q:RT xs->Prop) (r:RT xs),Q r->px xs g Q r
 | [],_,_,_=>trivial
 | [x],_,_,h=>⟨rfl,rfl,h⟩
 |x::y::l,Q,.inl a,h=>⟨rfl,rfl,h⟩
 |x::y::l,Q,.inr b,h=>Ti (y::l) (fun b=>Q (.inr b)) b h
theorem Sj {L:aS} {g:TT L.gt} {Q:L.S⊕L.R->Prop} : ∀ {v:L.S⊕L.R},Q v->L.post g Q v
 | .inl _,h=>⟨rfl,rfl,h⟩
 | .inr r,h=>Ti L.xs (fun r=>Q (.inr r)) r h
end aS
def QW (P:Program) (ctx:Ctx) (b:Code) (id:Nat) (sp:cy):Prop:=
 pP P ctx b-> ∀ax W ro n,yf ax W ctx.X->(ro=none\/ kJ b=true)-> ∀st K,sp st K-> ∀ρ a w,Ac ax W st ρ a w->b.wpIn (fw ro) n P (Post ax W (mq id (m7 K))) a w
theorem RN {P:Program} {ax:iV} {W:World} {c:Code} {ro:Option Nat} {n:Nat} {I:Nat->AS->Prop} {Kx:Exit->AS->Prop}
  (ih: ∀m st,I m st-> ∀ρ a w,Ac ax W st ρ a w->c.wpIn (fw ro) n P (Post ax W fun e xn=>match e with| .normal=> ∃m' st',m'<m/\ s8 xn st'/\ I m' st'|e=>Kx e xn) a w)
  {m:Nat} {st Xl:AS} (Zc:s8 st Xl) (h0:I m Xl) {ρ:Env} {a:Act} {w:World} (bz:Ac ax W st ρ a w):(Code.loop c).wpIn (fw ro) n P (Post ax W Kx) a w:=by
 intro b k cs hro hb hroom
 have key: ∀m a w,(∃st ρ,I m st/\ Ac ax W st ρ a w)-> ∃e a' w',Post ax W Kx e a' w'/\ ArrivesIn (Machine.fenced P (fw ro)) P (lone (b.atR a (.code c:: .inLoop c::k)) cs w) b k cs e a' w':=by
  intro m
  induction m using Nat.strongRecOn with
  |_ m Zi=>
   rintro a w ⟨st,ρ,hI,bz⟩
   obtain ⟨e,a1,w1,⟨pO,aY,hk,gN⟩,lI⟩:=ih m st hI ρ a w bz b (.inLoop c::k) cs hro hb hroom
   cases e with
   |normal=>
    obtain ⟨m',st',hm,hw,VV⟩:=hk
    obtain ⟨mc,lX⟩:=gN.weak hw
    obtain ⟨e2,a2,w2,QN,Gk⟩:=Zi m' hm a1 w1 ⟨st',mc,VV,lX⟩
    exact ⟨e2,a2,w2,QN,.of_steps (StepsIn.trans lI (.one (fenced_calm hb hroom rfl) stepR_inLoop)) Gk⟩
   |exit id=>exact ⟨_,a1,w1,⟨pO,aY,hk,gN⟩,.pass (x:= .inLoop c) rfl (fun _ _=> .inl (by simp)) lI⟩
   |goto l=>exact ⟨_,a1,w1,⟨pO,aY,hk,gN⟩,.pass (x:= .inLoop c) rfl (fun _ _=> .inl (by simp)) lI⟩
   |ret=>exact ⟨_,a1,w1,⟨pO,aY,hk,gN⟩,.pass (x:= .inLoop c) rfl (fun _ _=> .inl (by simp)) lI⟩
   |panic ch=>exact ⟨_,a1,w1,⟨pO,aY,hk,gN⟩,.pass (x:= .inLoop c) rfl (fun _ _=> .inl (by simp)) lI⟩
   |outgrown=>exact ⟨_,a1,w1,⟨pO,aY,hk,gN⟩,.pass (x:= .inLoop c) rfl (fun _ _=> .inl (by simp)) lI⟩
 obtain ⟨dH,IN⟩:=bz.weak Zc
 obtain ⟨e,a',w',hq,lI⟩:=key m a w ⟨Xl,dH,h0,IN⟩
 exact ⟨e,a',w',hq,.of_steps (.one (fenced_calm hb hroom rfl) stepR_loop) lI⟩
section
variable {P:Program} {tt:List (Nat×TI)} {specs:List (Nat×Spec)} {X:Addr->Value->Prop} {lp:List (Nat×cy)} {ys:List (Nat×Spec)} {dc:List (Nat×iL)}
theorem QW.tr (hT:br P tt) (hC:oT P ⟨tt,specs,X,lp,ys,dc⟩) (hm:P.follows .mixedOrders=true) {c:Code} {id:Nat} (L:aS) {i:Bool} (t:L.S->Tr (L.S⊕L.R) i) (hok:L.ok id=true)
  (h: ∀g s Q,dY ⟨tt,specs,X,lp,ys,dc⟩ c (L.Kv.fill g s) (L.kb g Q)=(t s).wp (L.post g Q) (Fo L.gt g)):QW P ⟨tt,specs,X,lp,ys,dc⟩ (.loop c) id (L.sp t):=by
 intro tF ax W ro n hX hro st K hs ρ a w bz
 have hok:L.Kv.ok=true/\ aS.Vb id L.xs=true:=by simpa [aS.ok] using hok
 unfold aS.sp at hs
 split at hs
 rotate_left
 ·exact hs.elim
 rename_i g c' s0 hrd
 obtain ⟨hc,S8,hk⟩:=hs
 have hw:=qS.KZ hok.1 hrd hc
 obtain ⟨r,m,hn⟩:=S8.iter
 have YY:=BX hn
 refine RN (I:=fun m st=> ∃s,st=L.Kv.fill g s/\ Term (fun s=>(t s).val) (fun s=>Tr.pI i (t s).pre) s/\ fX (fun s=>(t s).val) m s=some r) (m:=m) ?_ hw ⟨s0,rfl,S8,hn⟩ bz
 rintro m pO ⟨s,rfl,hts,hm'⟩ aY a1 w1 gN
 have V5:dY ⟨tt,specs,X,lp,ys,dc⟩ c (L.Kv.fill g s) (L.kb g fun v=>match v with| .inl s'=> ∃m',m'<m/\ Term (fun s=>(t s).val) (fun s=>Tr.pI i (t s).pre) s'/\ fX (fun s=>(t s).val) m' s'=some r| .inr r'=>aS.R3 L.xs g r' K):=by
  rw [h]
  cases hts with
  |mk _ hp gJ=>
   refine Tr.Ia _ _ _ hp (aS.Sj ?_)
   match m,hm' with
   |0,hm'=>cases hm'
   |m+1,hm'=>
    simp only [fX] at hm'
    cases hv:(t s).val with
    |inl s'=>
     rw [hv] at hm'
     exact ⟨m,by omega,gJ s' hv,hm'⟩
    |inr r'=>
     rw [hv] at hm'
     have:r'=run (fun s=>(t s).val) s0:=by rw [YY];exact Option.some.inj hm'
     exact hk r' this
 refine wpIn_mono (nM (ctx:=⟨tt,specs,X,lp,ys,dc⟩) hT hC hm c tF ax W ro n hX hro _ _ V5 aY a1 w1 gN) ?_
 rintro e a2 w2 ⟨xn,mc,Z4,lX⟩
 refine ⟨xn,mc,?_,lX⟩
 cases e with
 |normal=>
  obtain ⟨s',hw',m',h1,h2,h3⟩:=aS.JJ hok.1 Z4
  exact ⟨m',_,h1,hw',s',rfl,h2,h3⟩
 |_=>exact aS.Tc L.xs hok.2 Z4
theorem aB.VJ {c b:Code} {id:Nat} {sp:cy} (hl:aB P X c lp) (hn':ew (ids c)=true) (hb:bF id c=some b)
  (h:QW P ⟨tt,specs,X,lp,ys,dc⟩ b id sp):aB P X c ((id,sp)::lp):=hl.SS hn' hb h
theorem aB.tr (hT:br P tt) (hC:oT P ⟨tt,specs,X,lp,ys,dc⟩) (hm:P.follows .mixedOrders=true) {c:Code} (id:Nat) (L:aS) {i:Bool} (t:L.S->Tr (L.S⊕L.R) i) (hl:aB P X c lp)
  (hk:(ew (ids c),bF id c,L.ok id)=(true,some (.loop (cI (bt id c))),true))
  (h: ∀g s Q,dY ⟨tt,specs,X,lp,ys,dc⟩ (cI (bt id c)) (L.Kv.fill g s) (L.kb g Q)=(t s).wp (L.post g Q) (Fo L.gt g)):aB P X c ((id,L.sp t)::lp):=by
 simp only [Prod.mk.injEq] at hk
 exact hl.VJ hk.1 hk.2.1 (QW.tr hT hC hm L t hk.2.2 h)
theorem aB.Lp (hT:br P tt) (hC:oT P ⟨tt,specs,X,lp,ys,dc⟩) (hm:P.follows .mixedOrders=true) {c:Code} (id N:Nat) (hl:aB P X c lp) (hk:(ew (ids c),bF id c)=(true,some (.loop (cI (bt id c))))):
  aB P X c ((id,H8 tt specs X lp ys dc id (cI (bt id c)) N)::lp):=by
 simp only [Prod.mk.injEq] at hk
 exact aB.x7 hT hC hm N hl hk.1 hk.2
theorem av.tr (s:jh) {i:Bool} (t:s.p.ty.T->Tr s.r.ty.T i) (hT:br P tt) (hS:ah P specs) (hm:P.follows .mixedOrders=true) {n:FuncId} {fn:Func} (hk:(P.funcs[n]?,ew (ids (bG fn)),s.r.res)=(some fn,true,true))
  {lp:s.p.ty.T->List (Nat×cy)} (hits:aD P fh dc) (hl: ∀x,aB P fh (bG fn) (lp x)) (he: ∀x,(s.pre x,s.f x)=(Tr.pI i (t x).pre,(t x).val))
  (h: ∀x Q,ET ⟨tt,specs,fh,lp x,[],dc⟩ fn (fH s.p x) (fW s.p x) (JN s.r Q)=(t x).wp Q []):av P n (aH s):=by
 simp only [Prod.mk.injEq] at hk
 refine av.ZG hT hS hm hk.1 hk.2.1 hk.2.2 fun x hx=>⟨lp x,dc,hits,hl x,?_⟩
 have e:=he x
 simp only [Prod.mk.injEq] at e
 rw [h]
 exact Tr.Ia _ _ _ (by rw [<- e.1];exact hx) e.2.symm
theorem aD.walk (hT:br P tt) (hS:ah P specs) (hm:P.follows .mixedOrders=true) (f:FuncId) {fn:Func} (hk:(P.funcs[f]?,fn.name== "runtime.NumGoroutine",fn.body.isNone,ew (ids (bG fn)))=(some fn,false,false,true))
  {lp:List (Nat×Spec)->List (Nat×cy)} (hits:aD P X dc) (tF: ∀ys,s9 P ys->aB P X (bG fn) (lp ys)):aD P X ((f,oJ tt specs X lp dc fn)::dc):=by
 simp only [Prod.mk.injEq] at hk
 exact aD.cons (iS.of hk.1 hk.2.1 hk.2.2.1) (iA.fn hT hS hm hk.1 hk.2.2.2 hits tF) hits
theorem aD.dead (f:FuncId) {fn:Func} (hk:(P.funcs[f]?,fn.name== "runtime.NumGoroutine",fn.body.isNone)=(some fn,false,false)):aD P X [(f,NW)]:=by
 simp only [Prod.mk.injEq] at hk
 exact aD.cons (iS.of hk.1 hk.2.1 hk.2.2) LN (aD.nil _ _)
theorem ah.add {f:FuncId} {fn:Func} {s:Spec} (hk:(P.funcs[f]?,fn.name== "runtime.NumGoroutine",fn.body.isNone)=(some fn,false,false)) (h:av P f s) (hl:ah P specs):ah P ((f,s)::specs):=by
 simp only [Prod.mk.injEq] at hk
 exact ah.cons (iS.of hk.1 hk.2.1 hk.2.2) h hl
end
namespace Tr
variable {τ:Type}
abbrev fn {i:Bool} (s:jh) (x:s.p.ty.T) (k:s.r.ty.T->Tr τ i):Tr τ true:= .call (s.pre x) (s.f x) k
abbrev fn0 {i:Bool} (s:jh) (x:s.p.ty.T) (h:s.pre x) (k:s.r.ty.T->Tr τ i):Tr τ i:= .Kf (s.pre x) h (s.f x) k
abbrev pn {i:Bool} (k n:Nat) (t:Tr τ i):Tr τ i:= .fE k (.fact (n=n) rfl t)
abbrev lt {i:Bool} {α:Type} (v:α) (k:α->Tr τ i):Tr τ i:= .Kf True trivial v k
abbrev Ii (p:Prop) [Decidable p] (t:Tr τ false) (u:Tr τ false):Tr τ false:= .ite p t u
abbrev i10 (p:Prop) [Decidable p] (t:Tr τ true) (u:Tr τ false):Tr τ true:= .ite p t u
abbrev Ja (p:Prop) [Decidable p] (t:Tr τ false) (u:Tr τ true):Tr τ true:= .ite p t u
abbrev i11 (p:Prop) [Decidable p] (t:Tr τ true) (u:Tr τ true):Tr τ true:= .ite p t u
abbrev CA (b:Bool) (t:Tr τ false) (u:Tr τ false):Tr τ false:= .cb b t u
abbrev FI (b:Bool) (t:Tr τ true) (u:Tr τ false):Tr τ true:= .cb b t u
abbrev zo (b:Bool) (t:Tr τ false) (u:Tr τ true):Tr τ true:= .cb b t u
abbrev u5 (b:Bool) (t:Tr τ true) (u:Tr τ true):Tr τ true:= .cb b t u
abbrev QT {α β:Type} (r:α⊕β) (f:α->Tr τ false) (g:β->Tr τ false):Tr τ false:= .sum r f g
abbrev s01 {α β:Type} (r:α⊕β) (f:α->Tr τ false) (g:β->Tr τ true):Tr τ true:= .sum r f g
abbrev s11 {α β:Type} (r:α⊕β) (f:α->Tr τ true) (g:β->Tr τ true):Tr τ true:= .sum r f g
end Tr
structure XU (P:Program) where
 l:List (Nat×iL)
 ok:aD P fh l
def ej:Nat->Nat->List (Nat×PV)->List PV
 |0,_,_=> []
 |n+1,i,[]=> .d::ej n (i+1) []
 |n+1,i,(j,p)::r=>match Nat.beq i j with
  |true=>p::ej n (i+1) r
  |false=> .d::ej n (i+1) ((j,p)::r)
end Go.Ev
