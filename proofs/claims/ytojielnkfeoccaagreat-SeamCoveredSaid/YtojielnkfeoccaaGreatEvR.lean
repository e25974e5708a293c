/- Conditions as trees: what is computed, and what must hold for that. -/
import Derived.Test.YtojielnkfeoccaaGreatEvQ
noncomputable section
set_option linter.unusedSectionVars false
set_option linter.unusedVariables false
set_option linter.unusedSimpArgs false
namespace Go.Ev
open Go.RowKit
inductive Tr (τ:Type):Bool->Type 1
 |ret (y:τ):Tr τ false
 |og {i:Bool} (b:Bool) (p:Prop) (h:p->b=true) (t:Tr τ i):Tr τ true
 |o0 {i:Bool} (b:Bool) (h:b=true) (t:Tr τ i):Tr τ i
 |ite {i j:Bool} (p:Prop) [d:Decidable p] (t:Tr τ i) (u:Tr τ j):Tr τ (i||j)
 |cb {i j:Bool} (b:Bool) (t:Tr τ i) (u:Tr τ j):Tr τ (i||j)
 |call {i:Bool} {α:Type} (P:Prop) (v:α) (k:α->Tr τ i):Tr τ true
 |RP {i:Bool} {α:Type} (P:Prop) (h:P) (v:α) (k:α->Tr τ i):Tr τ i
 |nil {i:Bool} (H:Bool->Prop) (k:Bool->Tr τ i):Tr τ true
 |sum {i j:Bool} {α β:Type} (r:α⊕β) (f:α->Tr τ i) (g:β->Tr τ j):Tr τ (i||j)
 |we {i:Bool} (t:Tr τ i):Tr τ i
 |ZR {i:Bool} (t:Tr τ i):Tr τ i
 |fE {i:Bool} (k:Nat) (t:Tr τ i):Tr τ i
 |fL {i:Bool} (k:Nat) (t:Tr τ i):Tr τ i
 |fact {i:Bool} (P:Prop) (h:P) (t:Tr τ i):Tr τ i
 |lpc {i:Bool} {α:Type} (c:List DV) (P:Prop) (v:α) (k:α->Tr τ i):Tr τ true
 |exi {i:Bool} {α:Type} (a:α) (C:α->Prop) (h:C a) (k:α->Tr τ i):Tr τ i
 |bd {i:Bool} {α:Type} (A:α->Prop) (P:Prop) (v:α) (h:P->A v) (k:α->Tr τ i):Tr τ true
namespace Tr
variable {τ:Type}
def gE (G:List DV) (k:Nat):Env:=match G[k]? with|some (.env ρ)=>ρ|_=>fun _=> {}
def gL (G:List DV) (k:Nat):Loop:=match G[k]? with|some (.lo r)=>r|_=> {state:= .ready,pending:=none,fn:=0,tmps:= #[],params:= #[],assign:= .skip,body:= .skip,defers:=0}
def wp {i:Bool} (t:Tr τ i) (Q:τ->Prop) (G:List DV):Prop:=
 Tr.rec (motive:=fun _ _=>List DV->Prop) (fun y _=>Q y) (fun b _ _ _ r G=>Ev.ob b (r G)) (fun b _ _ r G=>Ev.ob b (r G)) (fun p d _ _ r s G=>cB (@decide p d) (r G) (s G)) (fun b _ _ r s G=>cB b (r G) (s G))
  (fun P v _ r G=>P/\ ∀y,y=v->r y G) (fun P _ v _ r G=>P/\ ∀y,y=v->r y G) (fun H _ r G=> ∀b,H b->r b G) (fun x _ _ r s G=>cS x (fun a=>r a G) (fun b=>s b G))
  (fun _ r G=> ∀ρ:Env,r (G++ [.env ρ])) (fun _ r G=> ∀l:Loop,r (G++ [.lo l])) (fun k _ r G=>gE G k=gE G k/\ r G) (fun k _ r G=>gL G k=gL G k/\ r G) (fun P _ _ r G=>P/\ r G)
  (fun c P v _ r G=>c=c/\ P/\ ∀y,y=v->r y G) (fun _ C _ _ r G=> ∃a,C a/\ r a G) (fun A _ _ _ _ r G=> ∃y,A y/\ r y G) t G
def val {i:Bool} (t:Tr τ i):τ:=
 Tr.rec (motive:=fun _ _=>τ) (fun y=>y) (fun _ _ _ _ r=>r) (fun _ _ _ r=>r) (fun p d _ _ r s=> @_root_.ite τ p d r s) (fun b _ _ r s=>if b=true then r else s)
  (fun _ v _ r=>au v r) (fun _ _ v _ r=>au v r) (fun _ _ r=>r false) (fun x _ _ r s=>Sum.elim r s x) (fun _ r=>r) (fun _ r=>r) (fun _ _ r=>r) (fun _ _ r=>r) (fun _ _ _ r=>r)
  (fun _ _ v _ r=>au v r) (fun a _ _ _ r=>r a) (fun _ _ v _ _ r=>au v r) t
def pI (i:Bool) (p:Prop):Prop:=match i with|true=>p|false=>True
def abE (i:Bool) (a p:Prop):Prop:=match i with|true=>a/\ p|false=>a
def adW {α:Type} (i:Bool) (v:α) (p:α->Prop):Prop:=match i with|true=>aM v p|false=>True
def FW {α:Type} (i:Bool) (P:Prop) (v:α) (p:α->Prop):Prop:=match i with|true=>P/\ aM v p|false=>P
def abF (i j:Bool) (c a b:Prop):Prop:=match i,j with
 |false,false=>True
 |true,false=>c->a
 |false,true=> ¬c->b
 |true,true=>(c->a)/\ (¬c->b)
def adX {α β:Type} (i j:Bool) (x:α⊕β) (a:α->Prop) (b:β->Prop):Prop:=match i,j with
 |false,false=>True
 |true,false=>cS x a fun _=>True
 |false,true=>cS x (fun _=>True) b
 |true,true=>cS x a b
def pre {i:Bool} (t:Tr τ i):Prop:=
 Tr.rec (motive:=fun _ _=>Prop) (fun _=>True) (fun {i} _ p _ _ r=>abE i p r) (fun _ _ _ r=>r) (fun {i j} p _ _ _ r s=>abF i j p r s) (fun {i j} b _ _ r s=>abF i j (b=true) r s)
  (fun {i} _ P v _ r=>FW i P v r) (fun {i} _ _ _ v _ r=>adW i v r) (fun {i} H k r=> ∀b:Bool,H b->(val (k b)=val (k false)/\ pI i (r b))) (fun {i j} _ _ x _ _ r s=>adX i j x r s) (fun _ r=>r) (fun _ r=>r) (fun _ _ r=>r) (fun _ _ r=>r) (fun _ _ _ r=>r)
  (fun {i} _ _ P v _ r=>FW i P v r) (fun a _ _ _ r=>r a) (fun {i} _ _ P v _ _ r=>FW i P v r) t
theorem Lf (Q:τ->Prop) {i:Bool} (t:Tr τ i): ∀G,pI i t.pre->Q t.val->t.wp Q G:=by
 induction t with
 |ret y=>exact fun _ _ h=>h
 | @og i b p hb t ih=>
  intro G hp hq
  have hp:abE i p t.pre:=hp
  refine kN (hb ?_) (ih G ?_ hq)
  ·cases i with|true=>exact hp.1|false=>exact hp
  ·cases i with|true=>exact hp.2|false=>trivial
 |o0 b hb t ih=>exact fun G hp hq=>kN hb (ih G hp hq)
 | @ite i j p d t u iht ihu=>
  intro G hp hq
  refine Jf (Q:=Q) hq (fun h1=>iht G ?_) (fun h1=>ihu G ?_)
  ·cases i<;>cases j<;>first|trivial|exact hp h1|exact hp.1 h1
  ·cases i<;>cases j<;>first|trivial|exact hp h1|exact hp.2 h1
 | @cb i j b t u iht ihu=>
  intro G hp hq
  refine Hg (Q:=Q) hq (fun h1=>iht G ?_) (fun h1=>ihu G ?_)
  ·cases i<;>cases j<;>first|trivial|exact hp h1|exact hp.1 h1
  ·cases i<;>cases j<;>first|trivial|exact hp h1|exact hp.2 h1
 | @call i α P v k ih=>
  intro G hp hq
  have hp:FW i P v fun y=>(k y).pre:=hp
  refine ⟨?_,fun y e=> ?_⟩
  ·cases i with|true=>exact hp.1|false=>exact hp
  ·subst e
   refine ih y G ?_ hq
   cases i with|true=>exact hp.2|false=>trivial
 | @RP i α P h v k ih=>
  intro G hp hq
  refine ⟨h,fun y e=> ?_⟩
  subst e
  refine ih y G ?_ hq
  cases i with|true=>exact hp|false=>trivial
 | @nil i H k ih=>
  intro G hp hq b hb
  obtain ⟨h1,h2⟩:=(hp: ∀b:Bool,H b->((k b).val=(k false).val/\ pI i (k b).pre)) b hb
  refine ih b G h2 ?_
  rw [h1];exact hq
 | @sum i j α β r f g ihf ihg=>
  intro G hp hq
  cases r with
  |inl a=>
   refine ihf a G ?_ hq
   cases i<;>cases j<;>first|trivial|exact hp
  |inr a=>
   refine ihg a G ?_ hq
   cases i<;>cases j<;>first|trivial|exact hp
 |we t ih=>exact fun G hp hq _=>ih _ hp hq
 |ZR t ih=>exact fun G hp hq _=>ih _ hp hq
 |fE k t ih=>exact fun G hp hq=>⟨rfl,ih G hp hq⟩
 |fL k t ih=>exact fun G hp hq=>⟨rfl,ih G hp hq⟩
 |fact P h t ih=>exact fun G hp hq=>⟨h,ih G hp hq⟩
 | @lpc i α c P v k ih=>
  intro G hp hq
  have hp:FW i P v fun y=>(k y).pre:=hp
  refine ⟨rfl,?_,fun y e=> ?_⟩
  ·cases i with|true=>exact hp.1|false=>exact hp
  ·subst e
   refine ih y G ?_ hq
   cases i with|true=>exact hp.2|false=>trivial
 |exi a C h k ih=>exact fun G hp hq=>⟨a,h,ih a G hp hq⟩
 | @bd i α A P v h k ih=>
  intro G hp hq
  have hp:FW i P v fun y=>(k y).pre:=hp
  refine ⟨v,h ?_,ih v G ?_ hq⟩
  ·cases i with|true=>exact hp.1|false=>exact hp
  ·cases i with|true=>exact hp.2|false=>trivial
abbrev od {i:Bool} (p:Prop) [Decidable p] (t:Tr τ i):Tr τ true:= .og (decide p) p decide_eq_true t
abbrev ob {i:Bool} (b:Bool) (t:Tr τ i):Tr τ true:= .og b (b=true) id t
abbrev oR {i:Bool} (j n:Int) (t:Tr τ i):Tr τ true:= .og (decide (0<=j)&&decide (j<n)) (0<=j/\ j<n) (fun h=>jR (decide_eq_true h.1) (decide_eq_true h.2)) t
end Tr
structure XD (gt:List HT) where
 raw:Exit
 e:Exit
 p:rE gt
@[reducible] def RT {gt:List HT} :List (XD gt)->Type
 | []=>Unit
 | [x]=>TT x.p.ts
 |x::y::r=>TT x.p.ts⊕RT (y::r)
structure aW where
 gt:List HT:= []
 Ll:rE gt
 xs:List (XD gt)
def HT.dflt:(h:HT)->h.T
 | .i=>(default:Int)
 | .b=>(default:Bool)
 | .s=>(default:ByteArray)
 | .n=>(default:Nat)
 | .v=>undef
 | .env=>fun _=> {}
 | .lo=> {state:= .ready,pending:=none,fn:=0,tmps:= #[],params:= #[],assign:= .skip,body:= .skip,defers:=0}
 | .hd=>fun _=>False
 | .l _=> []
 | .tv t=>t.d
def TT.dflt:(ts:List HT)->TT ts
 | []=>()
 | [a]=>a.dflt
 |a::c::r=>(a.dflt,TT.dflt (c::r))
def RT.dflt {gt:List HT} :(xs:List (XD gt))->RT xs
 | []=>()
 | [x]=>TT.dflt x.p.ts
 |x::_::_=> .inl (TT.dflt x.p.ts)
namespace aW
@[reducible] def S (L:aW):Type:=TT L.Ll.ts
@[reducible] def R (L:aW):Type:=RT L.xs
instance afZ (L:aW):Inhabited (RT L.xs):=⟨RT.dflt L.xs⟩
def Wv {gt:List HT} :(xs:List (XD gt))->TT gt->RT xs->(Exit->AS->Prop)->Prop
 | [],_,_,_=>False
 | [x],g,r,K=>K x.e (x.p.fill g r)
 |x::y::l,g,r,K=>cS r (fun a=>K x.e (x.p.fill g a)) (fun b=>Wv (y::l) g b K)
def zg:Exit->Exit->Bool
 | .ret,.ret=>true
 | .exit a,.exit b=>Nat.beq a b
 |_,_=>false
def rdE {gt:List HT} (p:rE gt) (g:TT gt) (st:AS) (Q:TT p.ts->Prop):Prop:=match p.read st with
 |some (g',c',s)=>g'=g/\ c'=p.c/\ Q s
 |none=>False
def kx {gt:List HT} :(xs:List (XD gt))->TT gt->Exit->AS->(RT xs->Prop)->Prop
 | [],_,_,_,_=>False
 | [x],g,e,st,Q=>match zg x.raw e with|true=>rdE x.p g st Q|false=>False
 |x::y::l,g,e,st,Q=>match zg x.raw e with|true=>rdE x.p g st fun a=>Q (.inl a)|false=>kx (y::l) g e st fun b=>Q (.inr b)
def kb (L:aW) (g:TT L.gt) (Q:L.S⊕L.R->Prop) (e:Exit) (st:AS):Prop:=match e with
 | .normal=>rdE L.Ll g st fun s=>Q (.inl s)
 |e=>kx L.xs g e st fun r=>Q (.inr r)
def px {gt:List HT} :(xs:List (XD gt))->TT gt->(RT xs->Prop)->RT xs->Prop
 | [],_,_,_=>True
 | [x],g,Q,r=>g=g/\ x.p.c=x.p.c/\ Q r
 |x::y::l,g,Q,r=>match r with
  | .inl a=>g=g/\ x.p.c=x.p.c/\ Q (.inl a)
  | .inr b=>px (y::l) g (fun b=>Q (.inr b)) b
def post (L:aW) (g:TT L.gt) (Q:L.S⊕L.R->Prop):L.S⊕L.R->Prop
 | .inl s=>g=g/\ L.Ll.c=L.Ll.c/\ Q (.inl s)
 | .inr r=>px L.xs g (fun r=>Q (.inr r)) r
def sp (L:aW) {i:Bool} (t:L.S->Tr (L.S⊕L.R) i):bE:=fun st K=>match L.Ll.read st with
 |some (g,c',s)=>c'=L.Ll.c/\ Term (fun s=>(t s).val) (fun s=>Tr.pI i (t s).pre) s/\ ∀r,r=run (fun s=>(t s).val) s->Wv L.xs g r K
 |none=>False
abbrev lp (L:aW) {i:Bool} (t:L.S->Tr (L.S⊕L.R) i) {τ:Type} {j:Bool} (s:L.S) (k:L.R->Tr τ j):Tr τ true:=
 .lpc L.Ll.c (Term (fun s=>(t s).val) (fun s=>Tr.pI i (t s).pre) s) (run (fun s=>(t s).val) s) k
def OD (id:Nat) (r e:Exit):Bool:=match r with
 | .exit a=>bif Nat.beq a id then (match e with| .normal=>true|_=>false) else zg e r
 | .ret=>zg e r
 |_=>false
def Zs {gt:List HT} (id:Nat):List (XD gt)->Bool
 | []=>true
 |x::l=>x.p.ok&&OD id x.raw x.e&&Zs id l
def ok (L:aW) (id:Nat):Bool:=L.Ll.ok&&Zs id L.xs
theorem M4 {gt:List HT} {p:rE gt} (hp:p.ok=true) {g:TT gt} {st:AS} {Q:TT p.ts->Prop} (h:rdE p g st Q): ∃s,mS st (p.fill g s)/\ Q s:=by
 unfold rdE at h
 split at h
 ·rename_i g' c' s e
  obtain ⟨rfl,hc,hq⟩:=h
  exact ⟨s,rE.OG hp e hc,hq⟩
 ·exact h.elim
theorem tj {a b:Exit} (h:zg a b=true):a=b:=by
 cases a<;>cases b<;>simp_all [zg]
theorem Kr {id:Nat} {r e:Exit} (h:OD id r e=true) {K:Exit->AS->Prop} {st:AS} (hk:K e st):jK id K r st:=by
 unfold OD at h
 split at h
 ·rename_i a
  unfold jK
  dsimp only
  cases hb:Nat.beq a id with
  |true=>
   rw [hb] at h
   rw [if_pos (Nat.eq_of_beq_eq_true hb)]
   cases e<;>first|exact hk|cases h
  |false=>
   rw [hb] at h
   have hne: ¬a=id:=fun e=>by subst e;simp at hb
   rw [if_neg hne]
   have:=tj h
   subst this;exact hk
 ·have:=tj h
  subst this;exact hk
 ·cases h
theorem XB {gt:List HT} {id:Nat} {g:TT gt} {e:Exit} {st:AS} {K:Exit->AS->Prop} : ∀(xs:List (XD gt)),Zs id xs=true->kx xs g e st (fun r=>Wv xs g r K)->jK id (ja K) e st
 | [],_,h=>h.elim
 | [x],ho,h=>by
  simp only [Zs,Bool.and_eq_true,Bool.and_true] at ho
  unfold kx at h
  split at h
  ·rename_i he
   have:=tj he
   subst this
   obtain ⟨s,hw,hq⟩:=M4 ho.1 h
   exact Kr ho.2 ⟨_,hw,hq⟩
  ·exact h.elim
 |x::y::l,ho,h=>by
  have ho1:x.p.ok=true/\ OD id x.raw x.e=true/\ Zs id (y::l)=true:=by
   rw [Zs,Bool.and_eq_true,Bool.and_eq_true] at ho
   exact ⟨ho.1.1,ho.1.2,ho.2⟩
  unfold kx at h
  split at h
  ·rename_i he
   have:=tj he
   subst this
   obtain ⟨s,hw,hq⟩:=M4 ho1.1 h
   exact Kr ho1.2.1 ⟨_,hw,hq⟩
  ·exact XB (y::l) ho1.2.2 h
theorem XJ {gt:List HT} {g:TT gt} : ∀(xs:List (XD gt)) (Q:RT xs->Prop) (r:RT xs),Q r->px xs g Q r
 | [],_,_,_=>trivial
 | [x],_,_,h=>⟨rfl,rfl,h⟩
 |x::y::l,Q,.inl a,h=>⟨rfl,rfl,h⟩
 |x::y::l,Q,.inr b,h=>XJ (y::l) (fun b=>Q (.inr b)) b h
theorem WA {L:aW} {g:TT L.gt} {Q:L.S⊕L.R->Prop} : ∀ {v:L.S⊕L.R},Q v->L.post g Q v
 | .inl _,h=>⟨rfl,rfl,h⟩
 | .inr r,h=>XJ L.xs (fun r=>Q (.inr r)) r h
end aW
def rf (P:Program) (ctx:Ctx) (b:Code) (id:Nat) (sp:bE):Prop:=
 qb P ctx b-> ∀ax W ro n,Ac ax W ctx.X->(ro=none\/ kM b=true)-> ∀st K,sp st K-> ∀ρ a w,Cc ax W st ρ a w->b.wpIn (fw ro) n P (Post ax W (jK id (ja K))) a w
theorem Wj {P:Program} {ax:jh} {W:World} {c:Code} {ro:Option Nat} {n:Nat} {I:Nat->AS->Prop} {Kx:Exit->AS->Prop}
  (ih: ∀m st,I m st-> ∀ρ a w,Cc ax W st ρ a w->c.wpIn (fw ro) n P (Post ax W fun e st2=>match e with| .normal=> ∃m' st',m'<m/\ mS st2 st'/\ I m' st'|e=>Kx e st2) a w)
  {m:Nat} {st stw:AS} (hw0:mS st stw) (h0:I m stw) {ρ:Env} {a:Act} {w:World} (bD:Cc ax W st ρ a w):(Code.loop c).wpIn (fw ro) n P (Post ax W Kx) a w:=by
 intro b k cs hro hb hroom
 have key: ∀m a w,(∃st ρ,I m st/\ Cc ax W st ρ a w)-> ∃e a' w',Post ax W Kx e a' w'/\ ArrivesIn (Machine.fenced P (fw ro)) P (lone (b.atR a (.code c:: .inLoop c::k)) cs w) b k cs e a' w':=by
  intro m
  induction m using Nat.strongRecOn with
  |_ m ihm=>
   rintro a w ⟨st,ρ,hI,bD⟩
   obtain ⟨e,a1,w1,⟨st1,cJ,hk,ij⟩,lP⟩:=ih m st hI ρ a w bD b (.inLoop c::k) cs hro hb hroom
   cases e with
   |normal=>
    obtain ⟨m',st',hm,hw,hI'⟩:=hk
    obtain ⟨rA,nV⟩:=ij.weak hw
    obtain ⟨e2,a2,w2,Rr,JJ⟩:=ihm m' hm a1 w1 ⟨st',rA,hI',nV⟩
    exact ⟨e2,a2,w2,Rr,.of_steps (StepsIn.trans lP (.one (fenced_calm hb hroom rfl) stepR_inLoop)) JJ⟩
   |exit id=>exact ⟨_,a1,w1,⟨st1,cJ,hk,ij⟩,.pass (x:= .inLoop c) rfl (fun _ _=> .inl (by simp)) lP⟩
   |goto l=>exact ⟨_,a1,w1,⟨st1,cJ,hk,ij⟩,.pass (x:= .inLoop c) rfl (fun _ _=> .inl (by simp)) lP⟩
   |ret=>exact ⟨_,a1,w1,⟨st1,cJ,hk,ij⟩,.pass (x:= .inLoop c) rfl (fun _ _=> .inl (by simp)) lP⟩
   |panic ch=>exact ⟨_,a1,w1,⟨st1,cJ,hk,ij⟩,.pass (x:= .inLoop c) rfl (fun _ _=> .inl (by simp)) lP⟩
   |outgrown=>exact ⟨_,a1,w1,⟨st1,cJ,hk,ij⟩,.pass (x:= .inLoop c) rfl (fun _ _=> .inl (by simp)) lP⟩
 obtain ⟨mI,L6⟩:=bD.weak hw0
 obtain ⟨e,a',w',hq,lP⟩:=key m a w ⟨stw,mI,h0,L6⟩
 exact ⟨e,a',w',hq,.of_steps (.one (fenced_calm hb hroom rfl) stepR_loop) lP⟩
section
variable {P:Program} {tt:List (Nat×TI)} {specs:List (Nat×Spec)} {X:Addr->Value->Prop} {lp:List (Nat×bE)} {ys:List (Nat×Spec)} {its:List (Nat×iu)}
theorem rf.tr (hT:aX P tt) (hC:nW P ⟨tt,specs,X,lp,ys,its⟩) (hm:P.follows .mixedOrders=true) {c:Code} {id:Nat} (L:aW) {i:Bool} (t:L.S->Tr (L.S⊕L.R) i) (hok:L.ok id=true)
  (h: ∀g s Q,cK ⟨tt,specs,X,lp,ys,its⟩ c (L.Ll.fill g s) (L.kb g Q)=(t s).wp (L.post g Q) (Dw L.gt g)):rf P ⟨tt,specs,X,lp,ys,its⟩ (.loop c) id (L.sp t):=by
 intro sj ax W ro n hX hro st K hs ρ a w bD
 have hok:L.Ll.ok=true/\ aW.Zs id L.xs=true:=by simpa [aW.ok] using hok
 unfold aW.sp at hs
 split at hs
 rotate_left
 ·exact hs.elim
 rename_i g c' s0 hrd
 obtain ⟨hc,Xv,hk⟩:=hs
 have hw:=rE.OG hok.1 hrd hc
 obtain ⟨r,m,hn⟩:=Xv.iter
 have hr0:=DM hn
 refine Wj (I:=fun m st=> ∃s,st=L.Ll.fill g s/\ Term (fun s=>(t s).val) (fun s=>Tr.pI i (t s).pre) s/\ gG (fun s=>(t s).val) m s=some r) (m:=m) ?_ hw ⟨s0,rfl,Xv,hn⟩ bD
 rintro m st1 ⟨s,rfl,hts,hm'⟩ cJ a1 w1 ij
 have aay:cK ⟨tt,specs,X,lp,ys,its⟩ c (L.Ll.fill g s) (L.kb g fun v=>match v with| .inl s'=> ∃m',m'<m/\ Term (fun s=>(t s).val) (fun s=>Tr.pI i (t s).pre) s'/\ gG (fun s=>(t s).val) m' s'=some r| .inr r'=>aW.Wv L.xs g r' K):=by
  rw [h]
  cases hts with
  |mk _ hp gZ=>
   refine Tr.Lf _ _ _ hp (aW.WA ?_)
   match m,hm' with
   |0,hm'=>cases hm'
   |m+1,hm'=>
    simp only [gG] at hm'
    cases hv:(t s).val with
    |inl s'=>
     rw [hv] at hm'
     exact ⟨m,by omega,gZ s' hv,hm'⟩
    |inr r'=>
     rw [hv] at hm'
     have:r'=run (fun s=>(t s).val) s0:=by rw [hr0];exact Option.some.inj hm'
     exact hk r' this
 refine wpIn_mono (oh (ctx:=⟨tt,specs,X,lp,ys,its⟩) hT hC hm c sj ax W ro n hX hro _ _ aay cJ a1 w1 ij) ?_
 rintro e a2 w2 ⟨st2,rA,hkb,nV⟩
 refine ⟨st2,rA,?_,nV⟩
 cases e with
 |normal=>
  obtain ⟨s',Wa,m',h1,h2,h3⟩:=aW.M4 hok.1 hkb
  exact ⟨m',_,h1,Wa,s',rfl,h2,h3⟩
 |_=>exact aW.XB L.xs hok.2 hkb
theorem rf.nil {ctx:Ctx} {b:Code} {id:Nat} :rf P ctx b id (yU []):=fun _ _ _ _ _ _ _ _ _ h=>h.elim
theorem rf.cons {ctx:Ctx} {b:Code} {id n:Nat} {sp:bE} {l:List (Nat×bE)} (h:rf P ctx b id sp) (hl:rf P ctx b id (yU l)):rf P ctx b id (yU ((n,sp)::l)):=
 fun sj ax W ro m hX hro st K hk ρ a w bD=>by
  unfold yU aG at hk
  by_cases e:n=Eh st.heap 0 0
  ·rw [if_pos e] at hk;exact h sj ax W ro m hX hro st K hk ρ a w bD
  ·rw [if_neg e] at hk;exact hl sj ax W ro m hX hro st K hk ρ a w bD
theorem ay.Xi {c b:Code} {id:Nat} {sp:bE} (hl:ay P X c lp) (hn':fG (ids c)=true) (hb:bF id c=some b)
  (h:rf P ⟨tt,specs,X,lp,ys,its⟩ b id sp):ay P X c ((id,sp)::lp):=hl.Xh hn' hb h
theorem ay.tr (hT:aX P tt) (hC:nW P ⟨tt,specs,X,lp,ys,its⟩) (hm:P.follows .mixedOrders=true) {c:Code} (id:Nat) (L:aW) {i:Bool} (t:L.S->Tr (L.S⊕L.R) i) (hl:ay P X c lp)
  (hk:(fG (ids c),bF id c,L.ok id)=(true,some (.loop (cI (blk id c))),true))
  (h: ∀g s Q,cK ⟨tt,specs,X,lp,ys,its⟩ (cI (blk id c)) (L.Ll.fill g s) (L.kb g Q)=(t s).wp (L.post g Q) (Dw L.gt g)):ay P X c ((id,L.sp t)::lp):=by
 simp only [Prod.mk.injEq] at hk
 exact hl.Xi hk.1 hk.2.1 (rf.tr hT hC hm L t hk.2.2 h)
theorem ay.trA {c:Code} (id:Nat) {l:List (Nat×bE)} (hl:ay P X c lp) (hk:(fG (ids c),bF id c)=(true,some (.loop (cI (blk id c)))))
  (h:rf P ⟨tt,specs,X,lp,ys,its⟩ (.loop (cI (blk id c))) id (yU l)):ay P X c ((id,yU l)::lp):=by
 simp only [Prod.mk.injEq] at hk
 exact hl.Xi hk.1 hk.2 h
theorem ay.yM (hT:aX P tt) (hC:nW P ⟨tt,specs,X,lp,ys,its⟩) (hm:P.follows .mixedOrders=true) {c:Code} (id N:Nat) (hl:ay P X c lp) (hk:(fG (ids c),bF id c)=(true,some (.loop (cI (blk id c))))):
  ay P X c ((id,p9 tt specs X lp ys its id (cI (blk id c)) N)::lp):=by
 simp only [Prod.mk.injEq] at hk
 exact ay.vS hT hC hm N hl hk.1 hk.2
theorem ak.tr (s:fg) {i:Bool} (t:s.p.ty.T->Tr s.r.ty.T i) (hT:aX P tt) (hS:af P specs) (hm:P.follows .mixedOrders=true) {n:FuncId} {fn:Func} (hk:(P.funcs[n]?,fG (ids (bh fn)),s.r.res)=(some fn,true,true))
  {lp:s.p.ty.T->List (Nat×bE)} (hits:aA P cT its) (hl: ∀x,ay P cT (bh fn) (lp x)) (he: ∀x,(s.pre x,s.f x)=(Tr.pI i (t x).pre,(t x).val))
  (h: ∀x Q,N1 ⟨tt,specs,cT,lp x,[],its⟩ fn (jy s.p x) (jB s.p x) (vB s.r Q)=(t x).wp Q []):ak P n (aq s):=by
 simp only [Prod.mk.injEq] at hk
 refine ak.fnT hT hS hm hk.1 hk.2.1 hk.2.2 fun x hx=>⟨lp x,its,hits,hl x,?_⟩
 have e:=he x
 simp only [Prod.mk.injEq] at e
 rw [h]
 exact Tr.Lf _ _ _ (by rw [<- e.1];exact hx) e.2.symm
theorem ak.trX (s:fg) {i:Bool} (t:s.p.ty.T->Tr s.r.ty.T i) (hT:aX P tt) (hS:af P specs) (hm:P.follows .mixedOrders=true) {n:FuncId} {fn:Func} (hk:(P.funcs[n]?,fG (ids (bh fn)),s.r.res)=(some fn,true,true))
  {lp:s.p.ty.T->List (Nat×bE)} {its:s.p.ty.T->List (Nat×iu)} (hits: ∀x,aA P cT (its x)) (hl: ∀x,ay P cT (bh fn) (lp x)) (he: ∀x,(s.pre x,s.f x)=(Tr.pI i (t x).pre,(t x).val))
  (h: ∀x Q,N1 ⟨tt,specs,cT,lp x,[],its x⟩ fn (jy s.p x) (jB s.p x) (vB s.r Q)=(t x).wp Q []):ak P n (aq s):=by
 simp only [Prod.mk.injEq] at hk
 refine ak.fnT hT hS hm hk.1 hk.2.1 hk.2.2 fun x hx=>⟨lp x,its x,hits x,hl x,?_⟩
 have e:=he x
 simp only [Prod.mk.injEq] at e
 rw [h]
 exact Tr.Lf _ _ _ (by rw [<- e.1];exact hx) e.2.symm
theorem aA.walk (hT:aX P tt) (hS:af P specs) (hm:P.follows .mixedOrders=true) (f:FuncId) {fn:Func} (hk:(P.funcs[f]?,fn.name== "runtime.NumGoroutine",fn.body.isNone,fG (ids (bh fn)))=(some fn,false,false,true))
  {lp:List (Nat×Spec)->List (Nat×bE)} (hits:aA P X its) (sj: ∀ys,rh P ys->ay P X (bh fn) (lp ys)):aA P X ((f,fh tt specs X lp its fn)::its):=by
 simp only [Prod.mk.injEq] at hk
 exact aA.cons (Enters.of hk.1 hk.2.1 hk.2.2.1) (dB.fn hT hS hm hk.1 hk.2.2.2 hits sj) hits
theorem aA.dead (f:FuncId) {fn:Func} (hk:(P.funcs[f]?,fn.name== "runtime.NumGoroutine",fn.body.isNone)=(some fn,false,false)):aA P X [(f,R3)]:=by
 simp only [Prod.mk.injEq] at hk
 exact aA.cons (Enters.of hk.1 hk.2.1 hk.2.2) PS (aA.nil _ _)
theorem af.add {f:FuncId} {fn:Func} {s:Spec} (hk:(P.funcs[f]?,fn.name== "runtime.NumGoroutine",fn.body.isNone)=(some fn,false,false)) (h:ak P f s) (hl:af P specs):af P ((f,s)::specs):=by
 simp only [Prod.mk.injEq] at hk
 exact af.cons (Enters.of hk.1 hk.2.1 hk.2.2) h hl
end
namespace Tr
variable {τ:Type}
abbrev fn {i:Bool} (s:fg) (x:s.p.ty.T) (k:s.r.ty.T->Tr τ i):Tr τ true:= .call (s.pre x) (s.f x) k
abbrev fn0 {i:Bool} (s:fg) (x:s.p.ty.T) (h:s.pre x) (k:s.r.ty.T->Tr τ i):Tr τ i:= .RP (s.pre x) h (s.f x) k
abbrev pn {i:Bool} (k n:Nat) (t:Tr τ i):Tr τ i:= .fE k (.fact (n=n) rfl t)
abbrev fx {i:Bool} (t:Tr τ i):Tr τ i:= .fact (cT=cT) rfl t
abbrev lt {i:Bool} {α:Type} (v:α) (k:α->Tr τ i):Tr τ i:= .RP True trivial v k
abbrev tB (p:Prop) [Decidable p] (t:Tr τ false) (u:Tr τ false):Tr τ false:= .ite p t u
abbrev i10 (p:Prop) [Decidable p] (t:Tr τ true) (u:Tr τ false):Tr τ true:= .ite p t u
abbrev uu (p:Prop) [Decidable p] (t:Tr τ false) (u:Tr τ true):Tr τ true:= .ite p t u
abbrev i11 (p:Prop) [Decidable p] (t:Tr τ true) (u:Tr τ true):Tr τ true:= .ite p t u
abbrev jM (b:Bool) (t:Tr τ false) (u:Tr τ false):Tr τ false:= .cb b t u
abbrev Es (b:Bool) (t:Tr τ true) (u:Tr τ false):Tr τ true:= .cb b t u
abbrev n9 (b:Bool) (t:Tr τ false) (u:Tr τ true):Tr τ true:= .cb b t u
abbrev b11 (b:Bool) (t:Tr τ true) (u:Tr τ true):Tr τ true:= .cb b t u
abbrev Bq {α β:Type} (r:α⊕β) (f:α->Tr τ false) (g:β->Tr τ false):Tr τ false:= .sum r f g
abbrev s01 {α β:Type} (r:α⊕β) (f:α->Tr τ false) (g:β->Tr τ true):Tr τ true:= .sum r f g
end Tr
structure Lq (P:Program) where
 l:List (Nat×iu)
 ok:aA P cT l
def dy:Nat->Nat->List (Nat×PV)->List PV
 |0,_,_=> []
 |n+1,i,[]=> .d::dy n (i+1) []
 |n+1,i,(j,p)::r=>match Nat.beq i j with
  |true=>p::dy n (i+1) r
  |false=> .d::dy n (i+1) ((j,p)::r)
end Go.Ev
