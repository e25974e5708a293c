/- Conditions as trees: what is computed, and what must hold for that. -/
import Derived.Test.YtlkgabjhkfhgaaaGreatEvQ
noncomputable section
set_option linter.unusedSectionVars false
set_option linter.unusedVariables false
set_option linter.unusedSimpArgs false
namespace Go.Ev
open Go.RowKit
inductive Tr (τ:Type):Bool->Type 1
 |ret (y:τ):Tr τ false
 |og {i:Bool} (b:Bool) (p:Prop) (h:p->b=true) (t:Tr τ i):Tr τ true
 |o0 {i:Bool} (b:Bool) (h:b=true) (t:Tr τ i):Tr τ i
 |ite {i j:Bool} (p:Prop) [d:Decidable p] (t:Tr τ i) (u:Tr τ j):Tr τ (i||j)
 |cb {i j:Bool} (b:Bool) (t:Tr τ i) (u:Tr τ j):Tr τ (i||j)
 |call {i:Bool} {α:Type} (P:Prop) (v:α) (k:α->Tr τ i):Tr τ true
 |LU {i:Bool} {α:Type} (P:Prop) (h:P) (v:α) (k:α->Tr τ i):Tr τ i
 |nil {i:Bool} (H:Bool->Prop) (k:Bool->Tr τ i):Tr τ true
 |sum {i j:Bool} {α β:Type} (r:α⊕β) (f:α->Tr τ i) (g:β->Tr τ j):Tr τ (i||j)
 |Dp {i:Bool} (t:Tr τ i):Tr τ i
 |aaw {i:Bool} (t:Tr τ i):Tr τ i
 |fE {i:Bool} (k:Nat) (t:Tr τ i):Tr τ i
 |fL {i:Bool} (k:Nat) (t:Tr τ i):Tr τ i
 |fact {i:Bool} (P:Prop) (h:P) (t:Tr τ i):Tr τ i
 |lpc {i:Bool} {α:Type} (c:List DV) (P:Prop) (v:α) (k:α->Tr τ i):Tr τ true
 |exi {i:Bool} {α:Type} (a:α) (C:α->Prop) (h:C a) (k:α->Tr τ i):Tr τ i
namespace Tr
variable {τ:Type}
def gE (G:List DV) (k:Nat):Env:=match G[k]? with|some (.env ρ)=>ρ|_=>fun _=> {}
def gL (G:List DV) (k:Nat):Loop:=match G[k]? with|some (.lo r)=>r|_=> {state:= .ready,pending:=none,fn:=0,tmps:= #[],params:= #[],assign:= .skip,body:= .skip,defers:=0}
def wp {i:Bool} (t:Tr τ i) (Q:τ->Prop) (G:List DV):Prop:=
 Tr.rec (motive:=fun _ _=>List DV->Prop) (fun y _=>Q y) (fun b _ _ _ r G=>Ev.ob b (r G)) (fun b _ _ r G=>Ev.ob b (r G)) (fun p d _ _ r s G=>cB (@decide p d) (r G) (s G)) (fun b _ _ r s G=>cB b (r G) (s G))
  (fun P v _ r G=>P/\ ∀y,y=v->r y G) (fun P _ v _ r G=>P/\ ∀y,y=v->r y G) (fun H _ r G=> ∀b,H b->r b G) (fun x _ _ r s G=>cS x (fun a=>r a G) (fun b=>s b G))
  (fun _ r G=> ∀ρ:Env,r (G++ [.env ρ])) (fun _ r G=> ∀l:Loop,r (G++ [.lo l])) (fun k _ r G=>gE G k=gE G k/\ r G) (fun k _ r G=>gL G k=gL G k/\ r G) (fun P _ _ r G=>P/\ r G)
  (fun c P v _ r G=>c=c/\ P/\ ∀y,y=v->r y G) (fun _ C _ _ r G=> ∃a,C a/\ r a G) t G
def val {i:Bool} (t:Tr τ i):τ:=
 Tr.rec (motive:=fun _ _=>τ) (fun y=>y) (fun _ _ _ _ r=>r) (fun _ _ _ r=>r) (fun p d _ _ r s=> @_root_.ite τ p d r s) (fun b _ _ r s=>if b=true then r else s)
  (fun _ v _ r=>ai v r) (fun _ _ v _ r=>ai v r) (fun _ _ r=>r false) (fun x _ _ r s=>Sum.elim r s x) (fun _ r=>r) (fun _ r=>r) (fun _ _ r=>r) (fun _ _ r=>r) (fun _ _ _ r=>r)
  (fun _ _ v _ r=>ai v r) (fun a _ _ _ r=>r a) t
def pI (i:Bool) (p:Prop):Prop:=match i with|true=>p|false=>True
def Zz (i:Bool) (a p:Prop):Prop:=match i with|true=>a/\ p|false=>a
def ab0 {α:Type} (i:Bool) (v:α) (p:α->Prop):Prop:=match i with|true=>az v p|false=>True
def Mw {α:Type} (i:Bool) (P:Prop) (v:α) (p:α->Prop):Prop:=match i with|true=>P/\ az v p|false=>P
def ZA (i j:Bool) (c a b:Prop):Prop:=match i,j with
 |false,false=>True
 |true,false=>c->a
 |false,true=> ¬c->b
 |true,true=>(c->a)/\ (¬c->b)
def ab1 {α β:Type} (i j:Bool) (x:α⊕β) (a:α->Prop) (b:β->Prop):Prop:=match i,j with
 |false,false=>True
 |true,false=>cS x a fun _=>True
 |false,true=>cS x (fun _=>True) b
 |true,true=>cS x a b
def pre {i:Bool} (t:Tr τ i):Prop:=
 Tr.rec (motive:=fun _ _=>Prop) (fun _=>True) (fun {i} _ p _ _ r=>Zz i p r) (fun _ _ _ r=>r) (fun {i j} p _ _ _ r s=>ZA i j p r s) (fun {i j} b _ _ r s=>ZA i j (b=true) r s)
  (fun {i} _ P v _ r=>Mw i P v r) (fun {i} _ _ _ v _ r=>ab0 i v r) (fun {i} H k r=> ∀b:Bool,H b->(val (k b)=val (k false)/\ pI i (r b))) (fun {i j} _ _ x _ _ r s=>ab1 i j x r s) (fun _ r=>r) (fun _ r=>r) (fun _ _ r=>r) (fun _ _ r=>r) (fun _ _ _ r=>r)
  (fun {i} _ _ P v _ r=>Mw i P v r) (fun a _ _ _ r=>r a) t
theorem Nd (Q:τ->Prop) {i:Bool} (t:Tr τ i): ∀G,pI i t.pre->Q t.val->t.wp Q G:=by
 induction t with
 |ret y=>exact fun _ _ h=>h
 | @og i b p hb t ih=>
  intro G hp hq
  have hp:Zz i p t.pre:=hp
  refine OM (hb ?_) (ih G ?_ hq)
  ·cases i with|true=>exact hp.1|false=>exact hp
  ·cases i with|true=>exact hp.2|false=>trivial
 |o0 b hb t ih=>exact fun G hp hq=>OM hb (ih G hp hq)
 | @ite i j p d t u iht ihu=>
  intro G hp hq
  refine aaA (Q:=Q) hq (fun h1=>iht G ?_) (fun h1=>ihu G ?_)
  ·cases i<;>cases j<;>first|trivial|exact hp h1|exact hp.1 h1
  ·cases i<;>cases j<;>first|trivial|exact hp h1|exact hp.2 h1
 | @cb i j b t u iht ihu=>
  intro G hp hq
  refine aaz (Q:=Q) hq (fun h1=>iht G ?_) (fun h1=>ihu G ?_)
  ·cases i<;>cases j<;>first|trivial|exact hp h1|exact hp.1 h1
  ·cases i<;>cases j<;>first|trivial|exact hp h1|exact hp.2 h1
 | @call i α P v k ih=>
  intro G hp hq
  have hp:Mw i P v fun y=>(k y).pre:=hp
  refine ⟨?_,fun y e=> ?_⟩
  ·cases i with|true=>exact hp.1|false=>exact hp
  ·subst e
   refine ih y G ?_ hq
   cases i with|true=>exact hp.2|false=>trivial
 | @LU i α P h v k ih=>
  intro G hp hq
  refine ⟨h,fun y e=> ?_⟩
  subst e
  refine ih y G ?_ hq
  cases i with|true=>exact hp|false=>trivial
 | @nil i H k ih=>
  intro G hp hq b hb
  obtain ⟨h1,h2⟩:=(hp: ∀b:Bool,H b->((k b).val=(k false).val/\ pI i (k b).pre)) b hb
  refine ih b G h2 ?_
  rw [h1];exact hq
 | @sum i j α β r f g ihf ihg=>
  intro G hp hq
  cases r with
  |inl a=>
   refine ihf a G ?_ hq
   cases i<;>cases j<;>first|trivial|exact hp
  |inr a=>
   refine ihg a G ?_ hq
   cases i<;>cases j<;>first|trivial|exact hp
 |Dp t ih=>exact fun G hp hq _=>ih _ hp hq
 |aaw t ih=>exact fun G hp hq _=>ih _ hp hq
 |fE k t ih=>exact fun G hp hq=>⟨rfl,ih G hp hq⟩
 |fL k t ih=>exact fun G hp hq=>⟨rfl,ih G hp hq⟩
 |fact P h t ih=>exact fun G hp hq=>⟨h,ih G hp hq⟩
 | @lpc i α c P v k ih=>
  intro G hp hq
  have hp:Mw i P v fun y=>(k y).pre:=hp
  refine ⟨rfl,?_,fun y e=> ?_⟩
  ·cases i with|true=>exact hp.1|false=>exact hp
  ·subst e
   refine ih y G ?_ hq
   cases i with|true=>exact hp.2|false=>trivial
 |exi a C h k ih=>exact fun G hp hq=>⟨a,h,ih a G hp hq⟩
abbrev od {i:Bool} (p:Prop) [Decidable p] (t:Tr τ i):Tr τ true:= .og (decide p) p decide_eq_true t
abbrev ob {i:Bool} (b:Bool) (t:Tr τ i):Tr τ true:= .og b (b=true) id t
abbrev oR {i:Bool} (j n:Int) (t:Tr τ i):Tr τ true:= .og (decide (0<=j)&&decide (j<n)) (0<=j/\ j<n) (fun h=>c7 (decide_eq_true h.1) (decide_eq_true h.2)) t
end Tr
structure XD (gt:List HT) where
 raw:Exit
 e:Exit
 p:qG gt
@[reducible] def RT {gt:List HT} :List (XD gt)->Type
 | []=>Unit
 | [x]=>TT x.p.ts
 |x::y::r=>TT x.p.ts⊕RT (y::r)
structure aI where
 gt:List HT:= []
 Me:qG gt
 xs:List (XD gt)
def HT.dflt:(h:HT)->h.T
 | .i=>(default:Int)
 | .b=>(default:Bool)
 | .s=>(default:ByteArray)
 | .n=>(default:Nat)
 | .v=>undef
 | .env=>fun _=> {}
 | .lo=> {state:= .ready,pending:=none,fn:=0,tmps:= #[],params:= #[],assign:= .skip,body:= .skip,defers:=0}
 | .hd=>fun _=>False
 | .l _=> []
 | .tv t=>t.d
def TT.dflt:(ts:List HT)->TT ts
 | []=>()
 | [a]=>a.dflt
 |a::c::r=>(a.dflt,TT.dflt (c::r))
def RT.dflt {gt:List HT} :(xs:List (XD gt))->RT xs
 | []=>()
 | [x]=>TT.dflt x.p.ts
 |x::_::_=> .inl (TT.dflt x.p.ts)
namespace aI
@[reducible] def S (L:aI):Type:=TT L.Me.ts
@[reducible] def R (L:aI):Type:=RT L.xs
instance aeN (L:aI):Inhabited (RT L.xs):=⟨RT.dflt L.xs⟩
def UQ {gt:List HT} :(xs:List (XD gt))->TT gt->RT xs->(Exit->AS->Prop)->Prop
 | [],_,_,_=>False
 | [x],g,r,K=>K x.e (x.p.fill g r)
 |x::y::l,g,r,K=>cS r (fun a=>K x.e (x.p.fill g a)) (fun b=>UQ (y::l) g b K)
def xM:Exit->Exit->Bool
 | .ret,.ret=>true
 | .exit a,.exit b=>Nat.beq a b
 |_,_=>false
def ZD {gt:List HT} (p:qG gt) (g:TT gt) (st:AS) (Q:TT p.ts->Prop):Prop:=match p.read st with
 |some (g',c',s)=>g'=g/\ c'=p.c/\ Q s
 |none=>False
def kx {gt:List HT} :(xs:List (XD gt))->TT gt->Exit->AS->(RT xs->Prop)->Prop
 | [],_,_,_,_=>False
 | [x],g,e,st,Q=>match xM x.raw e with|true=>ZD x.p g st Q|false=>False
 |x::y::l,g,e,st,Q=>match xM x.raw e with|true=>ZD x.p g st fun a=>Q (.inl a)|false=>kx (y::l) g e st fun b=>Q (.inr b)
def kb (L:aI) (g:TT L.gt) (Q:L.S⊕L.R->Prop) (e:Exit) (st:AS):Prop:=match e with
 | .normal=>ZD L.Me g st fun s=>Q (.inl s)
 |e=>kx L.xs g e st fun r=>Q (.inr r)
def px {gt:List HT} :(xs:List (XD gt))->TT gt->(RT xs->Prop)->RT xs->Prop
 | [],_,_,_=>True
 | [x],g,Q,r=>g=g/\ x.p.c=x.p.c/\ Q r
 |x::y::l,g,Q,r=>match r with
  | .inl a=>g=g/\ x.p.c=x.p.c/\ Q (.inl a)
  | .inr b=>px (y::l) g (fun b=>Q (.inr b)) b
def post (L:aI) (g:TT L.gt) (Q:L.S⊕L.R->Prop):L.S⊕L.R->Prop
 | .inl s=>g=g/\ L.Me.c=L.Me.c/\ Q (.inl s)
 | .inr r=>px L.xs g (fun r=>Q (.inr r)) r
def sp (L:aI) {i:Bool} (t:L.S->Tr (L.S⊕L.R) i):iw:=fun st K=>match L.Me.read st with
 |some (g,c',s)=>c'=L.Me.c/\ Term (fun s=>(t s).val) (fun s=>Tr.pI i (t s).pre) s/\ ∀r,r=run (fun s=>(t s).val) s->UQ L.xs g r K
 |none=>False
abbrev lp (L:aI) {i:Bool} (t:L.S->Tr (L.S⊕L.R) i) {τ:Type} {j:Bool} (s:L.S) (k:L.R->Tr τ j):Tr τ true:=
 .lpc L.Me.c (Term (fun s=>(t s).val) (fun s=>Tr.pI i (t s).pre) s) (run (fun s=>(t s).val) s) k
def MA (id:Nat) (r e:Exit):Bool:=match r with
 | .exit a=>bif Nat.beq a id then (match e with| .normal=>true|_=>false) else xM e r
 | .ret=>xM e r
 |_=>false
def XQ {gt:List HT} (id:Nat):List (XD gt)->Bool
 | []=>true
 |x::l=>x.p.ok&&MA id x.raw x.e&&XQ id l
def ok (L:aI) (id:Nat):Bool:=L.Me.ok&&XQ id L.xs
theorem Le {gt:List HT} {p:qG gt} (hp:p.ok=true) {g:TT gt} {st:AS} {Q:TT p.ts->Prop} (h:ZD p g st Q): ∃s,Dn st (p.fill g s)/\ Q s:=by
 unfold ZD at h
 split at h
 ·rename_i g' c' s e
  obtain ⟨rfl,hc,hq⟩:=h
  exact ⟨s,qG.MC hp e hc,hq⟩
 ·exact h.elim
theorem sP {a b:Exit} (h:xM a b=true):a=b:=by
 cases a<;>cases b<;>simp_all [xM]
theorem IS {id:Nat} {r e:Exit} (h:MA id r e=true) {K:Exit->AS->Prop} {st:AS} (hk:K e st):tX id K r st:=by
 unfold MA at h
 split at h
 ·rename_i a
  unfold tX
  dsimp only
  cases hb:Nat.beq a id with
  |true=>
   rw [hb] at h
   rw [if_pos (Nat.eq_of_beq_eq_true hb)]
   cases e<;>first|exact hk|cases h
  |false=>
   rw [hb] at h
   have hne: ¬a=id:=fun e=>by subst e;simp at hb
   rw [if_neg hne]
   have:=sP h
   subst this;exact hk
 ·have:=sP h
  subst this;exact hk
 ·cases h
theorem V5 {gt:List HT} {id:Nat} {g:TT gt} {e:Exit} {st:AS} {K:Exit->AS->Prop} : ∀(xs:List (XD gt)),XQ id xs=true->kx xs g e st (fun r=>UQ xs g r K)->tX id (BU K) e st
 | [],_,h=>h.elim
 | [x],ho,h=>by
  simp only [XQ,Bool.and_eq_true,Bool.and_true] at ho
  unfold kx at h
  split at h
  ·rename_i he
   have:=sP he
   subst this
   obtain ⟨s,hw,hq⟩:=Le ho.1 h
   exact IS ho.2 ⟨_,hw,hq⟩
  ·exact h.elim
 |x::y::l,ho,h=>by
  have ho1:x.p.ok=true/\ MA id x.raw x.e=true/\ XQ id (y::l)=true:=by
   rw [XQ,Bool.and_eq_true,Bool.and_eq_true] at ho
   exact ⟨ho.1.1,ho.1.2,ho.2⟩
  unfold kx at h
  split at h
  ·rename_i he
   have:=sP he
   subst this
   obtain ⟨s,hw,hq⟩:=Le ho1.1 h
   exact IS ho1.2.1 ⟨_,hw,hq⟩
  ·exact V5 (y::l) ho1.2.2 h
theorem Wa {gt:List HT} {g:TT gt} : ∀(xs:List (XD gt)) (Q:RT xs->Prop) (r:RT xs),Q r->px xs g Q r
 | [],_,_,_=>trivial
 | [x],_,_,h=>⟨rfl,rfl,h⟩
 |x::y::l,Q,.inl a,h=>⟨rfl,rfl,h⟩
 |x::y::l,Q,.inr b,h=>Wa (y::l) (fun b=>Q (.inr b)) b h
theorem U7 {L:aI} {g:TT L.gt} {Q:L.S⊕L.R->Prop} : ∀ {v:L.S⊕L.R},Q v->L.post g Q v
 | .inl _,h=>⟨rfl,rfl,h⟩
 | .inr r,h=>Wa L.xs (fun r=>Q (.inr r)) r h
end aI
def Tl (P:Program) (ctx:Ctx) (b:Code) (id:Nat) (sp:iw):Prop:=
 pg P ctx b-> ∀ay W ro n,yw ay W ctx.X->(ro=none\/ ko b=true)-> ∀st K,sp st K-> ∀ρ a w,At ay W st ρ a w->b.wpIn (fw ro) n P (Post ay W (tX id (BU K))) a w
theorem Uw {P:Program} {ay:iT} {W:World} {c:Code} {ro:Option Nat} {n:Nat} {I:Nat->AS->Prop} {Kx:Exit->AS->Prop}
  (ih: ∀m st,I m st-> ∀ρ a w,At ay W st ρ a w->c.wpIn (fw ro) n P (Post ay W fun e Dl=>match e with| .normal=> ∃m' st',m'<m/\ Dn Dl st'/\ I m' st'|e=>Kx e Dl) a w)
  {m:Nat} {st ZH:AS} (hw0:Dn st ZH) (h0:I m ZH) {ρ:Env} {a:Act} {w:World} (bB:At ay W st ρ a w):(Code.loop c).wpIn (fw ro) n P (Post ay W Kx) a w:=by
 intro b k cs hro hb hroom
 have key: ∀m a w,(∃st ρ,I m st/\ At ay W st ρ a w)-> ∃e a' w',Post ay W Kx e a' w'/\ ArrivesIn (Machine.fenced P (fw ro)) P (lone (b.atR a (.code c:: .inLoop c::k)) cs w) b k cs e a' w':=by
  intro m
  induction m using Nat.strongRecOn with
  |_ m ihm=>
   rintro a w ⟨st,ρ,hI,bB⟩
   obtain ⟨e,a1,w1,⟨u9,bh,hk,gG⟩,k9⟩:=ih m st hI ρ a w bB b (.inLoop c::k) cs hro hb hroom
   cases e with
   |normal=>
    obtain ⟨m',st',hm,hw,Yw⟩:=hk
    obtain ⟨ni,pQ⟩:=gG.weak hw
    obtain ⟨e2,a2,w2,V0,Ic⟩:=ihm m' hm a1 w1 ⟨st',ni,Yw,pQ⟩
    exact ⟨e2,a2,w2,V0,.of_steps (StepsIn.trans k9 (.one (fenced_calm hb hroom rfl) stepR_inLoop)) Ic⟩
   |exit id=>exact ⟨_,a1,w1,⟨u9,bh,hk,gG⟩,.pass (x:= .inLoop c) rfl (fun _ _=> .inl (by simp)) k9⟩
   |goto l=>exact ⟨_,a1,w1,⟨u9,bh,hk,gG⟩,.pass (x:= .inLoop c) rfl (fun _ _=> .inl (by simp)) k9⟩
   |ret=>exact ⟨_,a1,w1,⟨u9,bh,hk,gG⟩,.pass (x:= .inLoop c) rfl (fun _ _=> .inl (by simp)) k9⟩
   |panic ch=>exact ⟨_,a1,w1,⟨u9,bh,hk,gG⟩,.pass (x:= .inLoop c) rfl (fun _ _=> .inl (by simp)) k9⟩
   |outgrown=>exact ⟨_,a1,w1,⟨u9,bh,hk,gG⟩,.pass (x:= .inLoop c) rfl (fun _ _=> .inl (by simp)) k9⟩
 obtain ⟨b8,Kj⟩:=bB.weak hw0
 obtain ⟨e,a',w',hq,k9⟩:=key m a w ⟨ZH,b8,h0,Kj⟩
 exact ⟨e,a',w',hq,.of_steps (.one (fenced_calm hb hroom rfl) stepR_loop) k9⟩
section
variable {P:Program} {tt:List (Nat×TI)} {specs:List (Nat×Spec)} {X:Addr->Value->Prop} {lp:List (Nat×iw)} {ys:List (Nat×Spec)} {dR:List (Nat×eV)}
theorem Tl.tr (hT:aO P tt) (hC:qE P ⟨tt,specs,X,lp,ys,dR⟩) (hm:P.follows .mixedOrders=true) {c:Code} {id:Nat} (L:aI) {i:Bool} (t:L.S->Tr (L.S⊕L.R) i) (hok:L.ok id=true)
  (h: ∀g s Q,iF ⟨tt,specs,X,lp,ys,dR⟩ c (L.Me.fill g s) (L.kb g Q)=(t s).wp (L.post g Q) (Gz L.gt g)):Tl P ⟨tt,specs,X,lp,ys,dR⟩ (.loop c) id (L.sp t):=by
 intro xD ay W ro n hX hro st K hs ρ a w bB
 have hok:L.Me.ok=true/\ aI.XQ id L.xs=true:=by simpa [aI.ok] using hok
 unfold aI.sp at hs
 split at hs
 rotate_left
 ·exact hs.elim
 rename_i g c' s0 hrd
 obtain ⟨hc,V2,hk⟩:=hs
 have hw:=qG.MC hok.1 hrd hc
 obtain ⟨r,m,hn⟩:=V2.iter
 have hr0:=GK hn
 refine Uw (I:=fun m st=> ∃s,st=L.Me.fill g s/\ Term (fun s=>(t s).val) (fun s=>Tr.pI i (t s).pre) s/\ iJ (fun s=>(t s).val) m s=some r) (m:=m) ?_ hw ⟨s0,rfl,V2,hn⟩ bB
 rintro m u9 ⟨s,rfl,hts,hm'⟩ bh a1 w1 gG
 have YG:iF ⟨tt,specs,X,lp,ys,dR⟩ c (L.Me.fill g s) (L.kb g fun v=>match v with| .inl s'=> ∃m',m'<m/\ Term (fun s=>(t s).val) (fun s=>Tr.pI i (t s).pre) s'/\ iJ (fun s=>(t s).val) m' s'=some r| .inr r'=>aI.UQ L.xs g r' K):=by
  rw [h]
  cases hts with
  |mk _ hp ld=>
   refine Tr.Nd _ _ _ hp (aI.U7 ?_)
   match m,hm' with
   |0,hm'=>cases hm'
   |m+1,hm'=>
    simp only [iJ] at hm'
    cases hv:(t s).val with
    |inl s'=>
     rw [hv] at hm'
     exact ⟨m,by omega,ld s' hv,hm'⟩
    |inr r'=>
     rw [hv] at hm'
     have:r'=run (fun s=>(t s).val) s0:=by rw [hr0];exact Option.some.inj hm'
     exact hk r' this
 refine wpIn_mono (qP (ctx:=⟨tt,specs,X,lp,ys,dR⟩) hT hC hm c xD ay W ro n hX hro _ _ YG bh a1 w1 gG) ?_
 rintro e a2 w2 ⟨Dl,ni,hkb,pQ⟩
 refine ⟨Dl,ni,?_,pQ⟩
 cases e with
 |normal=>
  obtain ⟨s',hw',m',h1,h2,h3⟩:=aI.Le hok.1 hkb
  exact ⟨m',_,h1,hw',s',rfl,h2,h3⟩
 |_=>exact aI.V5 L.xs hok.2 hkb
theorem aB.Yl {c b:Code} {id:Nat} {sp:iw} (hl:aB P X c lp) (hn':ff (ids c)=true) (hb:bA id c=some b)
  (h:Tl P ⟨tt,specs,X,lp,ys,dR⟩ b id sp):aB P X c ((id,sp)::lp):=hl.Yk hn' hb h
theorem aB.tr (hT:aO P tt) (hC:qE P ⟨tt,specs,X,lp,ys,dR⟩) (hm:P.follows .mixedOrders=true) {c:Code} (id:Nat) (L:aI) {i:Bool} (t:L.S->Tr (L.S⊕L.R) i) (hl:aB P X c lp)
  (hk:(ff (ids c),bA id c,L.ok id)=(true,some (.loop (cI (bW id c))),true))
  (h: ∀g s Q,iF ⟨tt,specs,X,lp,ys,dR⟩ (cI (bW id c)) (L.Me.fill g s) (L.kb g Q)=(t s).wp (L.post g Q) (Gz L.gt g)):aB P X c ((id,L.sp t)::lp):=by
 simp only [Prod.mk.injEq] at hk
 exact hl.Yl hk.1 hk.2.1 (Tl.tr hT hC hm L t hk.2.2 h)
theorem aB.xq (hT:aO P tt) (hC:qE P ⟨tt,specs,X,lp,ys,dR⟩) (hm:P.follows .mixedOrders=true) {c:Code} (id N:Nat) (hl:aB P X c lp) (hk:(ff (ids c),bA id c)=(true,some (.loop (cI (bW id c))))):
  aB P X c ((id,JJ tt specs X lp ys dR id (cI (bW id c)) N)::lp):=by
 simp only [Prod.mk.injEq] at hk
 exact aB.ym hT hC hm N hl hk.1 hk.2
theorem ak.tr (s:dS) {i:Bool} (t:s.p.ty.T->Tr s.r.ty.T i) (hT:aO P tt) (hS:ah P specs) (hm:P.follows .mixedOrders=true) {n:FuncId} {fn:Func} (hk:(P.funcs[n]?,ff (ids (cj fn)),s.r.res)=(some fn,true,true))
  {lp:s.p.ty.T->List (Nat×iw)} (hits:aA P lQ dR) (hl: ∀x,aB P lQ (cj fn) (lp x)) (he: ∀x,(s.pre x,s.f x)=(Tr.pI i (t x).pre,(t x).val))
  (h: ∀x Q,H6 ⟨tt,specs,lQ,lp x,[],dR⟩ fn (kW s.p x) (jx s.p x) (Vi s.r Q)=(t x).wp Q []):ak P n (av s):=by
 simp only [Prod.mk.injEq] at hk
 refine ak.fnT hT hS hm hk.1 hk.2.1 hk.2.2 fun x hx=>⟨lp x,dR,hits,hl x,?_⟩
 have e:=he x
 simp only [Prod.mk.injEq] at e
 rw [h]
 exact Tr.Nd _ _ _ (by rw [<- e.1];exact hx) e.2.symm
theorem aA.walk (hT:aO P tt) (hS:ah P specs) (hm:P.follows .mixedOrders=true) (f:FuncId) {fn:Func} (hk:(P.funcs[f]?,fn.name== "runtime.NumGoroutine",fn.body.isNone,ff (ids (cj fn)))=(some fn,false,false,true))
  {lp:List (Nat×Spec)->List (Nat×iw)} (hits:aA P X dR) (xD: ∀ys,vh P ys->aB P X (cj fn) (lp ys)):aA P X ((f,Un tt specs X lp dR fn)::dR):=by
 simp only [Prod.mk.injEq] at hk
 exact aA.cons (lM.of hk.1 hk.2.1 hk.2.2.1) (jq.fn hT hS hm hk.1 hk.2.2.2 hits xD) hits
theorem aA.dead (f:FuncId) {fn:Func} (hk:(P.funcs[f]?,fn.name== "runtime.NumGoroutine",fn.body.isNone)=(some fn,false,false)):aA P X [(f,Qb)]:=by
 simp only [Prod.mk.injEq] at hk
 exact aA.cons (lM.of hk.1 hk.2.1 hk.2.2) NC (aA.nil _ _)
theorem ah.add {f:FuncId} {fn:Func} {s:Spec} (hk:(P.funcs[f]?,fn.name== "runtime.NumGoroutine",fn.body.isNone)=(some fn,false,false)) (h:ak P f s) (hl:ah P specs):ah P ((f,s)::specs):=by
 simp only [Prod.mk.injEq] at hk
 exact ah.cons (lM.of hk.1 hk.2.1 hk.2.2) h hl
end
namespace Tr
variable {τ:Type}
abbrev fn {i:Bool} (s:dS) (x:s.p.ty.T) (k:s.r.ty.T->Tr τ i):Tr τ true:= .call (s.pre x) (s.f x) k
abbrev fn0 {i:Bool} (s:dS) (x:s.p.ty.T) (h:s.pre x) (k:s.r.ty.T->Tr τ i):Tr τ i:= .LU (s.pre x) h (s.f x) k
abbrev pn {i:Bool} (k n:Nat) (t:Tr τ i):Tr τ i:= .fE k (.fact (n=n) rfl t)
abbrev lt {i:Bool} {α:Type} (v:α) (k:α->Tr τ i):Tr τ i:= .LU True trivial v k
abbrev tu (p:Prop) [Decidable p] (t:Tr τ false) (u:Tr τ false):Tr τ false:= .ite p t u
abbrev i10 (p:Prop) [Decidable p] (t:Tr τ true) (u:Tr τ false):Tr τ true:= .ite p t u
abbrev Di (p:Prop) [Decidable p] (t:Tr τ false) (u:Tr τ true):Tr τ true:= .ite p t u
abbrev i11 (p:Prop) [Decidable p] (t:Tr τ true) (u:Tr τ true):Tr τ true:= .ite p t u
abbrev fu (b:Bool) (t:Tr τ false) (u:Tr τ false):Tr τ false:= .cb b t u
abbrev XX (b:Bool) (t:Tr τ true) (u:Tr τ false):Tr τ true:= .cb b t u
abbrev nY (b:Bool) (t:Tr τ false) (u:Tr τ true):Tr τ true:= .cb b t u
abbrev qq (b:Bool) (t:Tr τ true) (u:Tr τ true):Tr τ true:= .cb b t u
abbrev Hj {α β:Type} (r:α⊕β) (f:α->Tr τ false) (g:β->Tr τ false):Tr τ false:= .sum r f g
abbrev s01 {α β:Type} (r:α⊕β) (f:α->Tr τ false) (g:β->Tr τ true):Tr τ true:= .sum r f g
abbrev s11 {α β:Type} (r:α⊕β) (f:α->Tr τ true) (g:β->Tr τ true):Tr τ true:= .sum r f g
end Tr
structure Hp (P:Program) where
 l:List (Nat×eV)
 ok:aA P lQ l
def cA:Nat->Nat->List (Nat×PV)->List PV
 |0,_,_=> []
 |n+1,i,[]=> .d::cA n (i+1) []
 |n+1,i,(j,p)::r=>match Nat.beq i j with
  |true=>p::cA n (i+1) r
  |false=> .d::cA n (i+1) ((j,p)::r)
end Go.Ev
