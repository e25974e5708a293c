/- Conditions as trees: what is computed, and what must hold for that. -/
import Derived.Test.YtngdehlpoomaiaaGreatEvQ
noncomputable section
set_option linter.unusedSectionVars false
set_option linter.unusedVariables false
set_option linter.unusedSimpArgs false
namespace Go.Ev
open Go.RowKit
inductive Tr (τ:Type):Bool->Type 1
 |ret (y:τ):Tr τ false
 |og {i:Bool} (b:Bool) (p:Prop) (h:p->b=true) (t:Tr τ i):Tr τ true
 |o0 {i:Bool} (b:Bool) (h:b=true) (t:Tr τ i):Tr τ i
 |ite {i j:Bool} (p:Prop) [d:Decidable p] (t:Tr τ i) (u:Tr τ j):Tr τ (i||j)
 |cb {i j:Bool} (b:Bool) (t:Tr τ i) (u:Tr τ j):Tr τ (i||j)
 |call {i:Bool} {α:Type} (P:Prop) (v:α) (k:α->Tr τ i):Tr τ true
 |aha {i:Bool} {α:Type} (P:Prop) (h:P) (v:α) (k:α->Tr τ i):Tr τ i
 |nil {i:Bool} (H:Bool->Prop) (k:Bool->Tr τ i):Tr τ true
 |sum {i j:Bool} {α β:Type} (r:α⊕β) (f:α->Tr τ i) (g:β->Tr τ j):Tr τ (i||j)
 |CX {i:Bool} (t:Tr τ i):Tr τ i
 |atZ {i:Bool} (t:Tr τ i):Tr τ i
 |fE {i:Bool} (k:Nat) (t:Tr τ i):Tr τ i
 |fL {i:Bool} (k:Nat) (t:Tr τ i):Tr τ i
 |fact {i:Bool} (P:Prop) (h:P) (t:Tr τ i):Tr τ i
 |lpc {i:Bool} {α:Type} (c:List DV) (P:Prop) (v:α) (k:α->Tr τ i):Tr τ true
 |exi {i:Bool} {α:Type} (a:α) (C:α->Prop) (h:C a) (k:α->Tr τ i):Tr τ i
 |bd {i:Bool} {α:Type} (A:α->Prop) (P:Prop) (v:α) (h:P->A v) (k:α->Tr τ i):Tr τ true
namespace Tr
variable {τ:Type}
def gE (G:List DV) (k:Nat):Env:=match G[k]? with|some (.env ρ)=>ρ|_=>fun _=> {}
def gL (G:List DV) (k:Nat):Loop:=match G[k]? with|some (.lo r)=>r|_=> {state:= .ready,pending:=none,fn:=0,tmps:= #[],params:= #[],assign:= .skip,body:= .skip,defers:=0}
def wp {i:Bool} (t:Tr τ i) (Q:τ->Prop) (G:List DV):Prop:=
 Tr.rec (motive:=fun _ _=>List DV->Prop) (fun y _=>Q y) (fun b _ _ _ r G=>Ev.ob b (r G)) (fun b _ _ r G=>Ev.ob b (r G)) (fun p d _ _ r s G=>cB (@decide p d) (r G) (s G)) (fun b _ _ r s G=>cB b (r G) (s G))
  (fun P v _ r G=>P/\ ∀y,y=v->r y G) (fun P _ v _ r G=>P/\ ∀y,y=v->r y G) (fun H _ r G=> ∀b,H b->r b G) (fun x _ _ r s G=>cS x (fun a=>r a G) (fun b=>s b G))
  (fun _ r G=> ∀ρ:Env,r (G++ [.env ρ])) (fun _ r G=> ∀l:Loop,r (G++ [.lo l])) (fun k _ r G=>gE G k=gE G k/\ r G) (fun k _ r G=>gL G k=gL G k/\ r G) (fun P _ _ r G=>P/\ r G)
  (fun c P v _ r G=>c=c/\ P/\ ∀y,y=v->r y G) (fun _ C _ _ r G=> ∃a,C a/\ r a G) (fun A _ _ _ _ r G=> ∃y,A y/\ r y G) t G
def val {i:Bool} (t:Tr τ i):τ:=
 Tr.rec (motive:=fun _ _=>τ) (fun y=>y) (fun _ _ _ _ r=>r) (fun _ _ _ r=>r) (fun p d _ _ r s=> @_root_.ite τ p d r s) (fun b _ _ r s=>if b=true then r else s)
  (fun _ v _ r=>ak v r) (fun _ _ v _ r=>ak v r) (fun _ _ r=>r false) (fun x _ _ r s=>Sum.elim r s x) (fun _ r=>r) (fun _ r=>r) (fun _ _ r=>r) (fun _ _ r=>r) (fun _ _ _ r=>r)
  (fun _ _ v _ r=>ak v r) (fun a _ _ _ r=>r a) (fun _ _ v _ _ r=>ak v r) t
def pI (i:Bool) (p:Prop):Prop:=match i with|true=>p|false=>True
def pre {i:Bool} (t:Tr τ i):Prop:=
 Tr.rec (motive:=fun _ _=>Prop) (fun _=>True) (fun {i} _ p _ _ r=>match i with|true=>p/\ r|false=>p) (fun _ _ _ r=>r) (fun {i j} p _ _ _ r s=>match i,j with|false,false=>True|true,false=>p->r|false,true=> ¬p->s|true,true=>(p->r)/\ (¬p->s)) (fun {i j} b _ _ r s=>match i,j with|false,false=>True|true,false=>b=true->r|false,true=> ¬b=true->s|true,true=>(b=true->r)/\ (¬b=true->s))
  (fun {i} _ P v _ r=>match i with|true=>P/\ az v r|false=>P) (fun {i} _ _ _ v _ r=>match i with|true=>az v r|false=>True) (fun {i} H k r=> ∀b:Bool,H b->(val (k b)=val (k false)/\ match i with|true=>r b|false=>True)) (fun {i j} _ _ x _ _ r s=>match i,j with|false,false=>True|true,false=>cS x r fun _=>True|false,true=>cS x (fun _=>True) s|true,true=>cS x r s) (fun _ r=>r) (fun _ r=>r) (fun _ _ r=>r) (fun _ _ r=>r) (fun _ _ _ r=>r)
  (fun {i} _ _ P v _ r=>match i with|true=>P/\ az v r|false=>P) (fun a _ _ _ r=>r a) (fun {i} _ _ P v _ _ r=>match i with|true=>P/\ az v r|false=>P) t
theorem N6 (Q:τ->Prop) {i:Bool} (t:Tr τ i): ∀G,pI i t.pre->Q t.val->t.wp Q G:=by
 induction t with
 |ret y=>exact fun _ _ h=>h
 | @og i b p hb t ih=>
  intro G hp hq
  refine Wj (hb ?_) (ih G ?_ hq)
  ·cases i with|true=>exact And.left hp|false=>exact hp
  ·cases i with|true=>exact And.right hp|false=>trivial
 |o0 b hb t ih=>exact fun G hp hq=>Wj hb (ih G hp hq)
 | @ite i j p d t u iht ihu=>
  intro G hp hq
  refine adL (Q:=Q) hq (fun h1=>iht G ?_) (fun h1=>ihu G ?_)
  ·cases i<;>cases j<;>first|trivial|exact hp h1|exact And.left hp h1
  ·cases i<;>cases j<;>first|trivial|exact hp h1|exact And.right hp h1
 | @cb i j b t u iht ihu=>
  intro G hp hq
  refine at3 (Q:=Q) hq (fun h1=>iht G ?_) (fun h1=>ihu G ?_)
  ·cases i<;>cases j<;>first|trivial|exact hp h1|exact And.left hp h1
  ·cases i<;>cases j<;>first|trivial|exact hp h1|exact And.right hp h1
 | @call i α P v k ih=>
  intro G hp hq
  refine ⟨?_,fun y e=> ?_⟩
  ·cases i with|true=>exact And.left hp|false=>exact hp
  ·subst e
   refine ih y G ?_ hq
   cases i with|true=>exact And.right hp|false=>trivial
 | @aha i α P h v k ih=>
  intro G hp hq
  refine ⟨h,fun y e=> ?_⟩
  subst e
  refine ih y G ?_ hq
  cases i with|true=>exact hp|false=>trivial
 | @nil i H k ih=>
  intro G hp hq b hb
  have h0:(k b).val=(k false).val/\ pI i (k b).pre:=by cases i<;>exact hp b hb
  obtain ⟨h1,h2⟩:=h0
  refine ih b G h2 ?_
  rw [h1];exact hq
 | @sum i j α β r f g ihf ihg=>
  intro G hp hq
  cases r with
  |inl a=>
   refine ihf a G ?_ hq
   cases i<;>cases j<;>first|trivial|exact hp
  |inr a=>
   refine ihg a G ?_ hq
   cases i<;>cases j<;>first|trivial|exact hp
 |CX t ih=>exact fun G hp hq _=>ih _ hp hq
 |atZ t ih=>exact fun G hp hq _=>ih _ hp hq
 |fE k t ih=>exact fun G hp hq=>⟨rfl,ih G hp hq⟩
 |fL k t ih=>exact fun G hp hq=>⟨rfl,ih G hp hq⟩
 |fact P h t ih=>exact fun G hp hq=>⟨h,ih G hp hq⟩
 | @lpc i α c P v k ih=>
  intro G hp hq
  refine ⟨rfl,?_,fun y e=> ?_⟩
  ·cases i with|true=>exact And.left hp|false=>exact hp
  ·subst e
   refine ih y G ?_ hq
   cases i with|true=>exact And.right hp|false=>trivial
 |exi a C h k ih=>exact fun G hp hq=>⟨a,h,ih a G hp hq⟩
 | @bd i α A P v h k ih=>
  intro G hp hq
  refine ⟨v,h ?_,ih v G ?_ hq⟩
  ·cases i with|true=>exact And.left hp|false=>exact hp
  ·cases i with|true=>exact And.right hp|false=>trivial
abbrev od {i:Bool} (p:Prop) [Decidable p] (t:Tr τ i):Tr τ true:= .og (decide p) p decide_eq_true t
abbrev ob {i:Bool} (b:Bool) (t:Tr τ i):Tr τ true:= .og b (b=true) id t
abbrev oR {i:Bool} (j n:Int) (t:Tr τ i):Tr τ true:= .og (decide (0<=j)&&decide (j<n)) (0<=j/\ j<n) (fun h=>iu (decide_eq_true h.1) (decide_eq_true h.2)) t
end Tr
structure XD (gt:List HT) where
 raw:Exit
 e:Exit
 p:wU gt
@[reducible] def RT {gt:List HT} :List (XD gt)->Type
 | []=>Unit
 | [x]=>TT x.p.ts
 |x::y::r=>TT x.p.ts⊕RT (y::r)
structure aI where
 gt:List HT:= []
 SX:wU gt
 xs:List (XD gt)
def HT.dflt:(h:HT)->h.T
 | .i=>(default:Int)
 | .b=>(default:Bool)
 | .s=>(default:ByteArray)
 | .n=>(default:Nat)
 | .v=>undef
 | .env=>fun _=> {}
 | .lo=> {state:= .ready,pending:=none,fn:=0,tmps:= #[],params:= #[],assign:= .skip,body:= .skip,defers:=0}
 | .hd=>fun _=>False
 | .l _=> []
 | .tv t=>t.d
def TT.dflt:(ts:List HT)->TT ts
 | []=>()
 | [a]=>a.dflt
 |a::c::r=>(a.dflt,TT.dflt (c::r))
def RT.dflt {gt:List HT} :(xs:List (XD gt))->RT xs
 | []=>()
 | [x]=>TT.dflt x.p.ts
 |x::_::_=> .inl (TT.dflt x.p.ts)
namespace aI
@[reducible] def S (L:aI):Type:=TT L.SX.ts
@[reducible] def R (L:aI):Type:=RT L.xs
instance aya (L:aI):Inhabited (RT L.xs):=⟨RT.dflt L.xs⟩
def afc {gt:List HT} :(xs:List (XD gt))->TT gt->RT xs->(Exit->AS->Prop)->Prop
 | [],_,_,_=>False
 | [x],g,r,K=>K x.e (x.p.fill g r)
 |x::y::l,g,r,K=>cS r (fun a=>K x.e (x.p.fill g a)) (fun b=>afc (y::l) g b K)
def F7:Exit->Exit->Bool
 | .ret,.ret=>true
 | .exit a,.exit b=>Nat.beq a b
 |_,_=>false
def rdE {gt:List HT} (p:wU gt) (g:TT gt) (st:AS) (Q:TT p.ts->Prop):Prop:=match p.read st with
 |some (g',c',s)=>g'=g/\ c'=p.c/\ Q s
 |none=>False
def kx {gt:List HT} :(xs:List (XD gt))->TT gt->Exit->AS->(RT xs->Prop)->Prop
 | [],_,_,_,_=>False
 | [x],g,e,st,Q=>match F7 x.raw e with|true=>rdE x.p g st Q|false=>False
 |x::y::l,g,e,st,Q=>match F7 x.raw e with|true=>rdE x.p g st fun a=>Q (.inl a)|false=>kx (y::l) g e st fun b=>Q (.inr b)
def kb (L:aI) (g:TT L.gt) (Q:L.S⊕L.R->Prop) (e:Exit) (st:AS):Prop:=match e with
 | .normal=>rdE L.SX g st fun s=>Q (.inl s)
 |e=>kx L.xs g e st fun r=>Q (.inr r)
def px {gt:List HT} :(xs:List (XD gt))->TT gt->(RT xs->Prop)->RT xs->Prop
 | [],_,_,_=>True
 | [x],g,Q,r=>g=g/\ x.p.c=x.p.c/\ Q r
 |x::y::l,g,Q,r=>match r with
  | .inl a=>g=g/\ x.p.c=x.p.c/\ Q (.inl a)
  | .inr b=>px (y::l) g (fun b=>Q (.inr b)) b
def post (L:aI) (g:TT L.gt) (Q:L.S⊕L.R->Prop):L.S⊕L.R->Prop
 | .inl s=>g=g/\ L.SX.c=L.SX.c/\ Q (.inl s)
 | .inr r=>px L.xs g (fun r=>Q (.inr r)) r
def sp (L:aI) {i:Bool} (t:L.S->Tr (L.S⊕L.R) i):br:=fun st K=>match L.SX.read st with
 |some (g,c',s)=>c'=L.SX.c/\ Term (fun s=>(t s).val) (fun s=>Tr.pI i (t s).pre) s/\ ∀r,r=run (fun s=>(t s).val) s->afc L.xs g r K
 |none=>False
abbrev lp (L:aI) {i:Bool} (t:L.S->Tr (L.S⊕L.R) i) {τ:Type} {j:Bool} (s:L.S) (k:L.R->Tr τ j):Tr τ true:=
 .lpc L.SX.c (Term (fun s=>(t s).val) (fun s=>Tr.pI i (t s).pre) s) (run (fun s=>(t s).val) s) k
def acM (id:Nat) (r e:Exit):Bool:=match r with
 | .exit a=>bif Nat.beq a id then (match e with| .normal=>true|_=>false) else F7 e r
 | .ret=>F7 e r
 |_=>false
def xOk {gt:List HT} (id:Nat):List (XD gt)->Bool
 | []=>true
 |x::l=>x.p.ok&&acM id x.raw x.e&&xOk id l
def ok (L:aI) (id:Nat):Bool:=L.SX.ok&&xOk id L.xs
theorem T4 {gt:List HT} {p:wU gt} (hp:p.ok=true) {g:TT gt} {st:AS} {Q:TT p.ts->Prop} (h:rdE p g st Q): ∃s,uS st (p.fill g s)/\ Q s:=by
 unfold rdE at h
 split at h
 ·rename_i g' c' s e
  obtain ⟨rfl,hc,hq⟩:=h
  exact ⟨s,wU.T5 hp e hc,hq⟩
 ·exact h.elim
theorem zQ {a b:Exit} (h:F7 a b=true):a=b:=by
 cases a<;>cases b<;>simp_all [F7]
theorem Xa {id:Nat} {r e:Exit} (h:acM id r e=true) {K:Exit->AS->Prop} {st:AS} (hk:K e st):lA id K r st:=by
 unfold acM at h
 split at h
 ·rename_i a
  unfold lA
  dsimp only
  cases hb:Nat.beq a id with
  |true=>
   rw [hb] at h
   rw [if_pos (Nat.eq_of_beq_eq_true hb)]
   cases e<;>first|exact hk|cases h
  |false=>
   rw [hb] at h
   have hne: ¬a=id:=fun e=>by subst e;simp at hb
   rw [if_neg hne]
   have:=zQ h
   subst this;exact hk
 ·have:=zQ h
  subst this;exact hk
 ·cases h
theorem aiT {gt:List HT} {id:Nat} {g:TT gt} {e:Exit} {st:AS} {K:Exit->AS->Prop} : ∀(xs:List (XD gt)),xOk id xs=true->kx xs g e st (fun r=>afc xs g r K)->lA id (kN K) e st
 | [],_,h=>h.elim
 | [x],ho,h=>by
  simp only [xOk,Bool.and_eq_true,Bool.and_true] at ho
  unfold kx at h
  split at h
  ·rename_i he
   have:=zQ he
   subst this
   obtain ⟨s,hw,hq⟩:=T4 ho.1 h
   exact Xa ho.2 ⟨_,hw,hq⟩
  ·exact h.elim
 |x::y::l,ho,h=>by
  have ho1:x.p.ok=true/\ acM id x.raw x.e=true/\ xOk id (y::l)=true:=by
   rw [xOk,Bool.and_eq_true,Bool.and_eq_true] at ho
   exact ⟨ho.1.1,ho.1.2,ho.2⟩
  unfold kx at h
  split at h
  ·rename_i he
   have:=zQ he
   subst this
   obtain ⟨s,hw,hq⟩:=T4 ho1.1 h
   exact Xa ho1.2.1 ⟨_,hw,hq⟩
  ·exact aiT (y::l) ho1.2.2 h
theorem aoA {gt:List HT} {g:TT gt} : ∀(xs:List (XD gt)) (Q:RT xs->Prop) (r:RT xs),Q r->px xs g Q r
 | [],_,_,_=>trivial
 | [x],_,_,h=>⟨rfl,rfl,h⟩
 |x::y::l,Q,.inl a,h=>⟨rfl,rfl,h⟩
 |x::y::l,Q,.inr b,h=>aoA (y::l) (fun b=>Q (.inr b)) b h
theorem acK {L:aI} {g:TT L.gt} {Q:L.S⊕L.R->Prop} : ∀ {v:L.S⊕L.R},Q v->L.post g Q v
 | .inl _,h=>⟨rfl,rfl,h⟩
 | .inr r,h=>aoA L.xs (fun r=>Q (.inr r)) r h
end aI
def alp (P:Program) (ctx:Ctx) (b:Code) (id:Nat) (sp:br):Prop:=
 tD P ctx b-> ∀av W ro n,uR av W ctx.X->((ro=none/\ av.bd= [])\/ mZ b=true)-> ∀st K,sp st K-> ∀ρ a w,Ki av W st ρ a w->b.wpIn (fw ro) n P (Post av W (lA id (kN K))) a w
theorem am1 {P:Program} {av:fG} {W:World} {c:Code} {ro:Option Nat} {n:Nat} {I:Nat->AS->Prop} {Kx:Exit->AS->Prop}
  (ih: ∀m st,I m st-> ∀ρ a w,Ki av W st ρ a w->c.wpIn (fw ro) n P (Post av W fun e tC=>match e with| .normal=> ∃m' st',m'<m/\ uS tC st'/\ I m' st'|e=>Kx e tC) a w)
  {m:Nat} {st stw:AS} (hw0:uS st stw) (h0:I m stw) {ρ:Env} {a:Act} {w:World} (aQ:Ki av W st ρ a w):(Code.loop c).wpIn (fw ro) n P (Post av W Kx) a w:=by
 intro b k cs hro hb hroom
 have key: ∀m a w,(∃st ρ,I m st/\ Ki av W st ρ a w)-> ∃e a' w',Post av W Kx e a' w'/\ ArrivesIn (Machine.fenced P (fw ro)) P (lone (b.atR a (.code c:: .inLoop c::k)) cs w) b k cs e a' w':=by
  intro m
  induction m using Nat.strongRecOn with
  |_ m ihm=>
   rintro a w ⟨st,ρ,hI,aQ⟩
   obtain ⟨e,a1,w1,⟨mE,aR,hk,cN⟩,jh⟩:=ih m st hI ρ a w aQ b (.inLoop c::k) cs hro hb hroom
   cases e with
   |normal=>
    obtain ⟨m',st',hm,hw,hI'⟩:=hk
    obtain ⟨jZ,fc⟩:=cN.weak hw
    obtain ⟨e2,a2,w2,hq2,Lk⟩:=ihm m' hm a1 w1 ⟨st',jZ,hI',fc⟩
    exact ⟨e2,a2,w2,hq2,.of_steps (StepsIn.trans jh (.one (fenced_calm hb hroom rfl) stepR_inLoop)) Lk⟩
   |exit id=>exact ⟨_,a1,w1,⟨mE,aR,hk,cN⟩,.pass (x:= .inLoop c) rfl (fun _ _=> .inl (by simp)) jh⟩
   |goto l=>exact ⟨_,a1,w1,⟨mE,aR,hk,cN⟩,.pass (x:= .inLoop c) rfl (fun _ _=> .inl (by simp)) jh⟩
   |ret=>exact ⟨_,a1,w1,⟨mE,aR,hk,cN⟩,.pass (x:= .inLoop c) rfl (fun _ _=> .inl (by simp)) jh⟩
   |panic ch=>exact ⟨_,a1,w1,⟨mE,aR,hk,cN⟩,.pass (x:= .inLoop c) rfl (fun _ _=> .inl (by simp)) jh⟩
   |outgrown=>exact ⟨_,a1,w1,⟨mE,aR,hk,cN⟩,.pass (x:= .inLoop c) rfl (fun _ _=> .inl (by simp)) jh⟩
 obtain ⟨aW,Ji⟩:=aQ.weak hw0
 obtain ⟨e,a',w',hq,jh⟩:=key m a w ⟨stw,aW,h0,Ji⟩
 exact ⟨e,a',w',hq,.of_steps (.one (fenced_calm hb hroom rfl) stepR_loop) jh⟩
section
variable {P:Program} {tt:List (Nat×TI)} {specs:List (Nat×Spec)} {X:Addr->Value->Prop} {lp:List (Nat×br)} {ys:List (Nat×Spec)} {its:List (Nat×cP)}
theorem alp.tr (hT:di P tt) (hC:e8 P ⟨tt,specs,X,lp,ys,its⟩) (hm:P.follows .mixedOrders=true) {c:Code} {id:Nat} (L:aI) {i:Bool} (t:L.S->Tr (L.S⊕L.R) i) (hok:L.ok id=true)
  (h: ∀g s Q,cJ ⟨tt,specs,X,lp,ys,its⟩ c (L.SX.fill g s) (L.kb g Q)=(t s).wp (L.post g Q) (Ov L.gt g)):alp P ⟨tt,specs,X,lp,ys,its⟩ (.loop c) id (L.sp t):=by
 intro oL av W ro n hX hro st K hs ρ a w aQ
 have hok:L.SX.ok=true/\ aI.xOk id L.xs=true:=by simpa [aI.ok] using hok
 unfold aI.sp at hs
 split at hs
 rotate_left
 ·exact hs.elim
 rename_i g c' s0 hrd
 obtain ⟨hc,VR,hk⟩:=hs
 have hw:=wU.T5 hok.1 hrd hc
 obtain ⟨r,m,hn⟩:=VR.iter
 have Jn:=GR hn
 refine am1 (I:=fun m st=> ∃s,st=L.SX.fill g s/\ Term (fun s=>(t s).val) (fun s=>Tr.pI i (t s).pre) s/\ cQ (fun s=>(t s).val) m s=some r) (m:=m) ?_ hw ⟨s0,rfl,VR,hn⟩ aQ
 rintro m mE ⟨s,rfl,hts,hm'⟩ aR a1 w1 cN
 have ah7:cJ ⟨tt,specs,X,lp,ys,its⟩ c (L.SX.fill g s) (L.kb g fun v=>match v with| .inl s'=> ∃m',m'<m/\ Term (fun s=>(t s).val) (fun s=>Tr.pI i (t s).pre) s'/\ cQ (fun s=>(t s).val) m' s'=some r| .inr r'=>aI.afc L.xs g r' K):=by
  rw [h]
  cases hts with
  |mk _ hp lO=>
   refine Tr.N6 _ _ _ hp (aI.acK ?_)
   match m,hm' with
   |0,hm'=>cases hm'
   |m+1,hm'=>
    simp only [cQ] at hm'
    cases hv:(t s).val with
    |inl s'=>
     rw [hv] at hm'
     exact ⟨m,by omega,lO s' hv,hm'⟩
    |inr r'=>
     rw [hv] at hm'
     have:r'=run (fun s=>(t s).val) s0:=by rw [Jn];exact Option.some.inj hm'
     exact hk r' this
 refine wpIn_mono (rG (ctx:=⟨tt,specs,X,lp,ys,its⟩) hT hC hm c oL av W ro n hX hro _ _ ah7 aR a1 w1 cN) ?_
 rintro e a2 w2 ⟨tC,jZ,hkb,fc⟩
 refine ⟨tC,jZ,?_,fc⟩
 cases e with
 |normal=>
  obtain ⟨s',hw',m',h1,h2,h3⟩:=aI.T4 hok.1 hkb
  exact ⟨m',_,h1,hw',s',rfl,h2,h3⟩
 |_=>exact aI.aiT L.xs hok.2 hkb
theorem aK.arv {c b:Code} {id:Nat} {sp:br} (hl:aK P X c lp) (hn':cZ (ids c)=true) (hb:bD id c=some b)
  (h:alp P ⟨tt,specs,X,lp,ys,its⟩ b id sp):aK P X c ((id,sp)::lp):=hl.an9 hn' hb h
theorem aK.tr (hT:di P tt) (hC:e8 P ⟨tt,specs,X,lp,ys,its⟩) (hm:P.follows .mixedOrders=true) {c:Code} (id:Nat) (L:aI) {i:Bool} (t:L.S->Tr (L.S⊕L.R) i) (hl:aK P X c lp)
  (hk:(cZ (ids c),bD id c,L.ok id)=(true,some (.loop (cI (blk id c))),true))
  (h: ∀g s Q,cJ ⟨tt,specs,X,lp,ys,its⟩ (cI (blk id c)) (L.SX.fill g s) (L.kb g Q)=(t s).wp (L.post g Q) (Ov L.gt g)):aK P X c ((id,L.sp t)::lp):=by
 simp only [Prod.mk.injEq] at hk
 exact hl.arv hk.1 hk.2.1 (alp.tr hT hC hm L t hk.2.2 h)
theorem aK.pW (hT:di P tt) (hC:e8 P ⟨tt,specs,X,lp,ys,its⟩) (hm:P.follows .mixedOrders=true) {c:Code} (id N:Nat) (hl:aK P X c lp) (hk:(cZ (ids c),bD id c)=(true,some (.loop (cI (blk id c))))):
  aK P X c ((id,Yl tt specs X lp ys its id (cI (blk id c)) N)::lp):=by
 simp only [Prod.mk.injEq] at hk
 exact aK.G3 hT hC hm N hl hk.1 hk.2
theorem aq.tr (s:bF) {i:Bool} (t:s.p.ty.T->Tr s.r.ty.T i) (hT:di P tt) (hS:aj P specs) (hm:P.follows .mixedOrders=true) {n:FuncId} {fn:Func} (hk:(P.funcs[n]?,cZ (ids (aC fn)),s.r.res)=(some fn,true,true))
  {lp:s.p.ty.T->List (Nat×br)} (hits:aH P cf its) (hl: ∀x,aK P cf (aC fn) (lp x)) (he: ∀x,(s.pre x,s.f x)=(Tr.pI i (t x).pre,(t x).val))
  (h: ∀x Q,JD ⟨tt,specs,cf,lp x,[],its⟩ fn (cy s.p x) (da s.p x) (l9 s.r Q)=(t x).wp Q []):aq P n (ah s):=by
 simp only [Prod.mk.injEq] at hk
 refine aq.fnT hT hS hm hk.1 hk.2.1 hk.2.2 fun x hx=>⟨lp x,its,hits,hl x,?_⟩
 have e:=he x
 simp only [Prod.mk.injEq] at e
 rw [h]
 exact Tr.N6 _ _ _ (by rw [<- e.1];exact hx) e.2.symm
theorem aq.trX (s:bF) {i:Bool} (t:s.p.ty.T->Tr s.r.ty.T i) (hT:di P tt) (hS:aj P specs) (hm:P.follows .mixedOrders=true) {n:FuncId} {fn:Func} (hk:(P.funcs[n]?,cZ (ids (aC fn)),s.r.res)=(some fn,true,true))
  {lp:s.p.ty.T->List (Nat×br)} {its:s.p.ty.T->List (Nat×cP)} (hits: ∀x,aH P cf (its x)) (hl: ∀x,aK P cf (aC fn) (lp x)) (he: ∀x,(s.pre x,s.f x)=(Tr.pI i (t x).pre,(t x).val))
  (h: ∀x Q,JD ⟨tt,specs,cf,lp x,[],its x⟩ fn (cy s.p x) (da s.p x) (l9 s.r Q)=(t x).wp Q []):aq P n (ah s):=by
 simp only [Prod.mk.injEq] at hk
 refine aq.fnT hT hS hm hk.1 hk.2.1 hk.2.2 fun x hx=>⟨lp x,its x,hits x,hl x,?_⟩
 have e:=he x
 simp only [Prod.mk.injEq] at e
 rw [h]
 exact Tr.N6 _ _ _ (by rw [<- e.1];exact hx) e.2.symm
theorem aH.walk (hT:di P tt) (hS:aj P specs) (hm:P.follows .mixedOrders=true) (f:FuncId) {fn:Func} (hk:(P.funcs[f]?,fn.name== "runtime.NumGoroutine",fn.body.isNone,cZ (ids (aC fn)))=(some fn,false,false,true))
  {lp:List (Nat×Spec)->List (Nat×br)} (hits:aH P X its) (oL: ∀ys,o9 P ys->aK P X (aC fn) (lp ys)):aH P X ((f,x5 tt specs X lp its fn)::its):=by
 simp only [Prod.mk.injEq] at hk
 exact aH.cons (b9.of hk.1 hk.2.1 hk.2.2.1) (gM.fn hT hS hm hk.1 hk.2.2.2 hits oL) hits
theorem aH.dead (f:FuncId) {fn:Func} (hk:(P.funcs[f]?,fn.name== "runtime.NumGoroutine",fn.body.isNone)=(some fn,false,false)):aH P X [(f,ahi)]:=by
 simp only [Prod.mk.injEq] at hk
 exact aH.cons (b9.of hk.1 hk.2.1 hk.2.2) adW (aH.nil _ _)
theorem aj.add {f:FuncId} {fn:Func} {s:Spec} (hk:(P.funcs[f]?,fn.name== "runtime.NumGoroutine",fn.body.isNone)=(some fn,false,false)) (h:aq P f s) (hl:aj P specs):aj P ((f,s)::specs):=by
 simp only [Prod.mk.injEq] at hk
 exact aj.cons (b9.of hk.1 hk.2.1 hk.2.2) h hl
end
namespace Tr
variable {τ:Type}
abbrev fn {i:Bool} (s:bF) (x:s.p.ty.T) (k:s.r.ty.T->Tr τ i):Tr τ true:= .call (s.pre x) (s.f x) k
abbrev fn0 {i:Bool} (s:bF) (x:s.p.ty.T) (h:s.pre x) (k:s.r.ty.T->Tr τ i):Tr τ i:= .aha (s.pre x) h (s.f x) k
abbrev pn {i:Bool} (k n:Nat) (t:Tr τ i):Tr τ i:= .fE k (.fact (n=n) rfl t)
abbrev lt {i:Bool} {α:Type} (v:α) (k:α->Tr τ i):Tr τ i:= .aha True trivial v k
abbrev iz (p:Prop) [Decidable p] (t:Tr τ false) (u:Tr τ false):Tr τ false:= .ite p t u
abbrev i10 (p:Prop) [Decidable p] (t:Tr τ true) (u:Tr τ false):Tr τ true:= .ite p t u
abbrev wY (p:Prop) [Decidable p] (t:Tr τ false) (u:Tr τ true):Tr τ true:= .ite p t u
abbrev i11 (p:Prop) [Decidable p] (t:Tr τ true) (u:Tr τ true):Tr τ true:= .ite p t u
abbrev iY (b:Bool) (t:Tr τ false) (u:Tr τ false):Tr τ false:= .cb b t u
abbrev BQ (b:Bool) (t:Tr τ true) (u:Tr τ false):Tr τ true:= .cb b t u
abbrev gG (b:Bool) (t:Tr τ false) (u:Tr τ true):Tr τ true:= .cb b t u
abbrev b11 (b:Bool) (t:Tr τ true) (u:Tr τ true):Tr τ true:= .cb b t u
abbrev Jr {α β:Type} (r:α⊕β) (f:α->Tr τ false) (g:β->Tr τ false):Tr τ false:= .sum r f g
abbrev s01 {α β:Type} (r:α⊕β) (f:α->Tr τ false) (g:β->Tr τ true):Tr τ true:= .sum r f g
end Tr
structure Od (P:Program) where
 l:List (Nat×cP)
 ok:aH P cf l
def cj:Nat->Nat->List (Nat×PV)->List PV
 |0,_,_=> []
 |n+1,i,[]=> .d::cj n (i+1) []
 |n+1,i,(j,p)::r=>match Nat.beq i j with
  |true=>p::cj n (i+1) r
  |false=> .d::cj n (i+1) ((j,p)::r)
end Go.Ev
