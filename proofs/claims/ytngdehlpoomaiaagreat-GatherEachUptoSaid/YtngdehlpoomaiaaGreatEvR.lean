/- Conditions as trees: what is computed, and what must hold for that. -/
import Derived.Test.YtngdehlpoomaiaaGreatEvQ
noncomputable section
set_option linter.unusedSectionVars false
set_option linter.unusedVariables false
set_option linter.unusedSimpArgs false
namespace Go.Ev
open Go.RowKit
inductive Tr (τ:Type):Bool->Type 1
 |ret (y:τ):Tr τ false
 |og {i:Bool} (b:Bool) (p:Prop) (h:p->b=true) (t:Tr τ i):Tr τ true
 |o0 {i:Bool} (b:Bool) (h:b=true) (t:Tr τ i):Tr τ i
 |ite {i j:Bool} (p:Prop) [d:Decidable p] (t:Tr τ i) (u:Tr τ j):Tr τ (i||j)
 |cb {i j:Bool} (b:Bool) (t:Tr τ i) (u:Tr τ j):Tr τ (i||j)
 |call {i:Bool} {α:Type} (P:Prop) (v:α) (k:α->Tr τ i):Tr τ true
 |YI {i:Bool} {α:Type} (P:Prop) (h:P) (v:α) (k:α->Tr τ i):Tr τ i
 |nil {i:Bool} (H:Bool->Prop) (k:Bool->Tr τ i):Tr τ true
 |sum {i j:Bool} {α β:Type} (r:α⊕β) (f:α->Tr τ i) (g:β->Tr τ j):Tr τ (i||j)
 |Bq {i:Bool} (t:Tr τ i):Tr τ i
 |alq {i:Bool} (t:Tr τ i):Tr τ i
 |fE {i:Bool} (k:Nat) (t:Tr τ i):Tr τ i
 |fL {i:Bool} (k:Nat) (t:Tr τ i):Tr τ i
 |fact {i:Bool} (P:Prop) (h:P) (t:Tr τ i):Tr τ i
 |lpc {i:Bool} {α:Type} (c:List DV) (P:Prop) (v:α) (k:α->Tr τ i):Tr τ true
 |exi {i:Bool} {α:Type} (a:α) (C:α->Prop) (h:C a) (k:α->Tr τ i):Tr τ i
 |bd {i:Bool} {α:Type} (A:α->Prop) (P:Prop) (v:α) (h:P->A v) (k:α->Tr τ i):Tr τ true
namespace Tr
variable {τ:Type}
def gE (G:List DV) (k:Nat):Env:=match G[k]? with|some (.env ρ)=>ρ|_=>fun _=> {}
def gL (G:List DV) (k:Nat):Loop:=match G[k]? with|some (.lo r)=>r|_=> {state:= .ready,pending:=none,fn:=0,tmps:= #[],params:= #[],assign:= .skip,body:= .skip,defers:=0}
def wp {i:Bool} (t:Tr τ i) (Q:τ->Prop) (G:List DV):Prop:=
 Tr.rec (motive:=fun _ _=>List DV->Prop) (fun y _=>Q y) (fun b _ _ _ r G=>Ev.ob b (r G)) (fun b _ _ r G=>Ev.ob b (r G)) (fun p d _ _ r s G=>cB (@decide p d) (r G) (s G)) (fun b _ _ r s G=>cB b (r G) (s G))
  (fun P v _ r G=>P/\ ∀y,y=v->r y G) (fun P _ v _ r G=>P/\ ∀y,y=v->r y G) (fun H _ r G=> ∀b,H b->r b G) (fun x _ _ r s G=>cS x (fun a=>r a G) (fun b=>s b G))
  (fun _ r G=> ∀ρ:Env,r (G++ [.env ρ])) (fun _ r G=> ∀l:Loop,r (G++ [.lo l])) (fun k _ r G=>gE G k=gE G k/\ r G) (fun k _ r G=>gL G k=gL G k/\ r G) (fun P _ _ r G=>P/\ r G)
  (fun c P v _ r G=>c=c/\ P/\ ∀y,y=v->r y G) (fun _ C _ _ r G=> ∃a,C a/\ r a G) (fun A _ _ _ _ r G=> ∃y,A y/\ r y G) t G
def val {i:Bool} (t:Tr τ i):τ:=
 Tr.rec (motive:=fun _ _=>τ) (fun y=>y) (fun _ _ _ _ r=>r) (fun _ _ _ r=>r) (fun p d _ _ r s=> @_root_.ite τ p d r s) (fun b _ _ r s=>if b=true then r else s)
  (fun _ v _ r=>aq v r) (fun _ _ v _ r=>aq v r) (fun _ _ r=>r false) (fun x _ _ r s=>Sum.elim r s x) (fun _ r=>r) (fun _ r=>r) (fun _ _ r=>r) (fun _ _ r=>r) (fun _ _ _ r=>r)
  (fun _ _ v _ r=>aq v r) (fun a _ _ _ r=>r a) (fun _ _ v _ _ r=>aq v r) t
def pI (i:Bool) (p:Prop):Prop:=match i with|true=>p|false=>True
def aks (i:Bool) (a p:Prop):Prop:=match i with|true=>a/\ p|false=>a
def amO {α:Type} (i:Bool) (v:α) (p:α->Prop):Prop:=match i with|true=>aC v p|false=>True
def J5 {α:Type} (i:Bool) (P:Prop) (v:α) (p:α->Prop):Prop:=match i with|true=>P/\ aC v p|false=>P
def akt (i j:Bool) (c a b:Prop):Prop:=match i,j with
 |false,false=>True
 |true,false=>c->a
 |false,true=> ¬c->b
 |true,true=>(c->a)/\ (¬c->b)
def amP {α β:Type} (i j:Bool) (x:α⊕β) (a:α->Prop) (b:β->Prop):Prop:=match i,j with
 |false,false=>True
 |true,false=>cS x a fun _=>True
 |false,true=>cS x (fun _=>True) b
 |true,true=>cS x a b
def pre {i:Bool} (t:Tr τ i):Prop:=
 Tr.rec (motive:=fun _ _=>Prop) (fun _=>True) (fun {i} _ p _ _ r=>aks i p r) (fun _ _ _ r=>r) (fun {i j} p _ _ _ r s=>akt i j p r s) (fun {i j} b _ _ r s=>akt i j (b=true) r s)
  (fun {i} _ P v _ r=>J5 i P v r) (fun {i} _ _ _ v _ r=>amO i v r) (fun {i} H k r=> ∀b:Bool,H b->(val (k b)=val (k false)/\ pI i (r b))) (fun {i j} _ _ x _ _ r s=>amP i j x r s) (fun _ r=>r) (fun _ r=>r) (fun _ _ r=>r) (fun _ _ r=>r) (fun _ _ _ r=>r)
  (fun {i} _ _ P v _ r=>J5 i P v r) (fun a _ _ _ r=>r a) (fun {i} _ _ P v _ _ r=>J5 i P v r) t
theorem Ib (Q:τ->Prop) {i:Bool} (t:Tr τ i): ∀G,pI i t.pre->Q t.val->t.wp Q G:=by
 induction t with
 |ret y=>exact fun _ _ h=>h
 | @og i b p hb t ih=>
  intro G hp hq
  have hp:aks i p t.pre:=hp
  refine O6 (hb ?_) (ih G ?_ hq)
  ·cases i with|true=>exact hp.1|false=>exact hp
  ·cases i with|true=>exact hp.2|false=>trivial
 |o0 b hb t ih=>exact fun G hp hq=>O6 hb (ih G hp hq)
 | @ite i j p d t u iht ihu=>
  intro G hp hq
  refine Vy (Q:=Q) hq (fun h1=>iht G ?_) (fun h1=>ihu G ?_)
  ·cases i<;>cases j<;>first|trivial|exact hp h1|exact hp.1 h1
  ·cases i<;>cases j<;>first|trivial|exact hp h1|exact hp.2 h1
 | @cb i j b t u iht ihu=>
  intro G hp hq
  refine alv (Q:=Q) hq (fun h1=>iht G ?_) (fun h1=>ihu G ?_)
  ·cases i<;>cases j<;>first|trivial|exact hp h1|exact hp.1 h1
  ·cases i<;>cases j<;>first|trivial|exact hp h1|exact hp.2 h1
 | @call i α P v k ih=>
  intro G hp hq
  have hp:J5 i P v fun y=>(k y).pre:=hp
  refine ⟨?_,fun y e=> ?_⟩
  ·cases i with|true=>exact hp.1|false=>exact hp
  ·subst e
   refine ih y G ?_ hq
   cases i with|true=>exact hp.2|false=>trivial
 | @YI i α P h v k ih=>
  intro G hp hq
  refine ⟨h,fun y e=> ?_⟩
  subst e
  refine ih y G ?_ hq
  cases i with|true=>exact hp|false=>trivial
 | @nil i H k ih=>
  intro G hp hq b hb
  obtain ⟨h1,h2⟩:=(hp: ∀b:Bool,H b->((k b).val=(k false).val/\ pI i (k b).pre)) b hb
  refine ih b G h2 ?_
  rw [h1];exact hq
 | @sum i j α β r f g ihf ihg=>
  intro G hp hq
  cases r with
  |inl a=>
   refine ihf a G ?_ hq
   cases i<;>cases j<;>first|trivial|exact hp
  |inr a=>
   refine ihg a G ?_ hq
   cases i<;>cases j<;>first|trivial|exact hp
 |Bq t ih=>exact fun G hp hq _=>ih _ hp hq
 |alq t ih=>exact fun G hp hq _=>ih _ hp hq
 |fE k t ih=>exact fun G hp hq=>⟨rfl,ih G hp hq⟩
 |fL k t ih=>exact fun G hp hq=>⟨rfl,ih G hp hq⟩
 |fact P h t ih=>exact fun G hp hq=>⟨h,ih G hp hq⟩
 | @lpc i α c P v k ih=>
  intro G hp hq
  have hp:J5 i P v fun y=>(k y).pre:=hp
  refine ⟨rfl,?_,fun y e=> ?_⟩
  ·cases i with|true=>exact hp.1|false=>exact hp
  ·subst e
   refine ih y G ?_ hq
   cases i with|true=>exact hp.2|false=>trivial
 |exi a C h k ih=>exact fun G hp hq=>⟨a,h,ih a G hp hq⟩
 | @bd i α A P v h k ih=>
  intro G hp hq
  have hp:J5 i P v fun y=>(k y).pre:=hp
  refine ⟨v,h ?_,ih v G ?_ hq⟩
  ·cases i with|true=>exact hp.1|false=>exact hp
  ·cases i with|true=>exact hp.2|false=>trivial
abbrev od {i:Bool} (p:Prop) [Decidable p] (t:Tr τ i):Tr τ true:= .og (decide p) p decide_eq_true t
abbrev ob {i:Bool} (b:Bool) (t:Tr τ i):Tr τ true:= .og b (b=true) id t
abbrev oR {i:Bool} (j n:Int) (t:Tr τ i):Tr τ true:= .og (decide (0<=j)&&decide (j<n)) (0<=j/\ j<n) (fun h=>gV (decide_eq_true h.1) (decide_eq_true h.2)) t
end Tr
structure XD (gt:List HT) where
 raw:Exit
 e:Exit
 p:tx gt
@[reducible] def RT {gt:List HT} :List (XD gt)->Type
 | []=>Unit
 | [x]=>TT x.p.ts
 |x::y::r=>TT x.p.ts⊕RT (y::r)
structure aK where
 gt:List HT:= []
 Nj:tx gt
 xs:List (XD gt)
def HT.dflt:(h:HT)->h.T
 | .i=>(default:Int)
 | .b=>(default:Bool)
 | .s=>(default:ByteArray)
 | .n=>(default:Nat)
 | .v=>undef
 | .env=>fun _=> {}
 | .lo=> {state:= .ready,pending:=none,fn:=0,tmps:= #[],params:= #[],assign:= .skip,body:= .skip,defers:=0}
 | .hd=>fun _=>False
 | .l _=> []
 | .tv t=>t.d
def TT.dflt:(ts:List HT)->TT ts
 | []=>()
 | [a]=>a.dflt
 |a::c::r=>(a.dflt,TT.dflt (c::r))
def RT.dflt {gt:List HT} :(xs:List (XD gt))->RT xs
 | []=>()
 | [x]=>TT.dflt x.p.ts
 |x::_::_=> .inl (TT.dflt x.p.ts)
namespace aK
@[reducible] def S (L:aK):Type:=TT L.Nj.ts
@[reducible] def R (L:aK):Type:=RT L.xs
instance apE (L:aK):Inhabited (RT L.xs):=⟨RT.dflt L.xs⟩
def W9 {gt:List HT} :(xs:List (XD gt))->TT gt->RT xs->(Exit->AS->Prop)->Prop
 | [],_,_,_=>False
 | [x],g,r,K=>K x.e (x.p.fill g r)
 |x::y::l,g,r,K=>cS r (fun a=>K x.e (x.p.fill g a)) (fun b=>W9 (y::l) g b K)
def BE:Exit->Exit->Bool
 | .ret,.ret=>true
 | .exit a,.exit b=>Nat.beq a b
 |_,_=>false
def rdE {gt:List HT} (p:tx gt) (g:TT gt) (st:AS) (Q:TT p.ts->Prop):Prop:=match p.read st with
 |some (g',c',s)=>g'=g/\ c'=p.c/\ Q s
 |none=>False
def kx {gt:List HT} :(xs:List (XD gt))->TT gt->Exit->AS->(RT xs->Prop)->Prop
 | [],_,_,_,_=>False
 | [x],g,e,st,Q=>match BE x.raw e with|true=>rdE x.p g st Q|false=>False
 |x::y::l,g,e,st,Q=>match BE x.raw e with|true=>rdE x.p g st fun a=>Q (.inl a)|false=>kx (y::l) g e st fun b=>Q (.inr b)
def kb (L:aK) (g:TT L.gt) (Q:L.S⊕L.R->Prop) (e:Exit) (st:AS):Prop:=match e with
 | .normal=>rdE L.Nj g st fun s=>Q (.inl s)
 |e=>kx L.xs g e st fun r=>Q (.inr r)
def px {gt:List HT} :(xs:List (XD gt))->TT gt->(RT xs->Prop)->RT xs->Prop
 | [],_,_,_=>True
 | [x],g,Q,r=>g=g/\ x.p.c=x.p.c/\ Q r
 |x::y::l,g,Q,r=>match r with
  | .inl a=>g=g/\ x.p.c=x.p.c/\ Q (.inl a)
  | .inr b=>px (y::l) g (fun b=>Q (.inr b)) b
def post (L:aK) (g:TT L.gt) (Q:L.S⊕L.R->Prop):L.S⊕L.R->Prop
 | .inl s=>g=g/\ L.Nj.c=L.Nj.c/\ Q (.inl s)
 | .inr r=>px L.xs g (fun r=>Q (.inr r)) r
def sp (L:aK) {i:Bool} (t:L.S->Tr (L.S⊕L.R) i):bw:=fun st K=>match L.Nj.read st with
 |some (g,c',s)=>c'=L.Nj.c/\ Term (fun s=>(t s).val) (fun s=>Tr.pI i (t s).pre) s/\ ∀r,r=run (fun s=>(t s).val) s->W9 L.xs g r K
 |none=>False
abbrev lp (L:aK) {i:Bool} (t:L.S->Tr (L.S⊕L.R) i) {τ:Type} {j:Bool} (s:L.S) (k:L.R->Tr τ j):Tr τ true:=
 .lpc L.Nj.c (Term (fun s=>(t s).val) (fun s=>Tr.pI i (t s).pre) s) (run (fun s=>(t s).val) s) k
def Uv (id:Nat) (r e:Exit):Bool:=match r with
 | .exit a=>bif Nat.beq a id then (match e with| .normal=>true|_=>false) else BE e r
 | .ret=>BE e r
 |_=>false
def xOk {gt:List HT} (id:Nat):List (XD gt)->Bool
 | []=>true
 |x::l=>x.p.ok&&Uv id x.raw x.e&&xOk id l
def ok (L:aK) (id:Nat):Bool:=L.Nj.ok&&xOk id L.xs
theorem MH {gt:List HT} {p:tx gt} (hp:p.ok=true) {g:TT gt} {st:AS} {Q:TT p.ts->Prop} (h:rdE p g st Q): ∃s,rF st (p.fill g s)/\ Q s:=by
 unfold rdE at h
 split at h
 ·rename_i g' c' s e
  obtain ⟨rfl,hc,hq⟩:=h
  exact ⟨s,tx.MI hp e hc,hq⟩
 ·exact h.elim
theorem v7 {a b:Exit} (h:BE a b=true):a=b:=by
 cases a<;>cases b<;>simp_all [BE]
theorem Pk {id:Nat} {r e:Exit} (h:Uv id r e=true) {K:Exit->AS->Prop} {st:AS} (hk:K e st):jN id K r st:=by
 unfold Uv at h
 split at h
 ·rename_i a
  unfold jN
  dsimp only
  cases hb:Nat.beq a id with
  |true=>
   rw [hb] at h
   rw [if_pos (Nat.eq_of_beq_eq_true hb)]
   cases e<;>first|exact hk|cases h
  |false=>
   rw [hb] at h
   have hne: ¬a=id:=fun e=>by subst e;simp at hb
   rw [if_neg hne]
   have:=v7 h
   subst this;exact hk
 ·have:=v7 h
  subst this;exact hk
 ·cases h
theorem aas {gt:List HT} {id:Nat} {g:TT gt} {e:Exit} {st:AS} {K:Exit->AS->Prop} : ∀(xs:List (XD gt)),xOk id xs=true->kx xs g e st (fun r=>W9 xs g r K)->jN id (jy K) e st
 | [],_,h=>h.elim
 | [x],ho,h=>by
  simp only [xOk,Bool.and_eq_true,Bool.and_true] at ho
  unfold kx at h
  split at h
  ·rename_i he
   have:=v7 he
   subst this
   obtain ⟨s,hw,hq⟩:=MH ho.1 h
   exact Pk ho.2 ⟨_,hw,hq⟩
  ·exact h.elim
 |x::y::l,ho,h=>by
  have ho1:x.p.ok=true/\ Uv id x.raw x.e=true/\ xOk id (y::l)=true:=by
   rw [xOk,Bool.and_eq_true,Bool.and_eq_true] at ho
   exact ⟨ho.1.1,ho.1.2,ho.2⟩
  unfold kx at h
  split at h
  ·rename_i he
   have:=v7 he
   subst this
   obtain ⟨s,hw,hq⟩:=MH ho1.1 h
   exact Pk ho1.2.1 ⟨_,hw,hq⟩
  ·exact aas (y::l) ho1.2.2 h
theorem af7 {gt:List HT} {g:TT gt} : ∀(xs:List (XD gt)) (Q:RT xs->Prop) (r:RT xs),Q r->px xs g Q r
 | [],_,_,_=>trivial
 | [x],_,_,h=>⟨rfl,rfl,h⟩
 |x::y::l,Q,.inl a,h=>⟨rfl,rfl,h⟩
 |x::y::l,Q,.inr b,h=>af7 (y::l) (fun b=>Q (.inr b)) b h
theorem Ut {L:aK} {g:TT L.gt} {Q:L.S⊕L.R->Prop} : ∀ {v:L.S⊕L.R},Q v->L.post g Q v
 | .inl _,h=>⟨rfl,rfl,h⟩
 | .inr r,h=>af7 L.xs (fun r=>Q (.inr r)) r h
end aK
def acS (P:Program) (ctx:Ctx) (b:Code) (id:Nat) (sp:bw):Prop:=
 qG P ctx b-> ∀au W ro n,rD au W ctx.X->((ro=none/\ au.bd= [])\/ lA b=true)-> ∀st K,sp st K-> ∀ρ a w,Et au W st ρ a w->b.wpIn (fw ro) n P (Post au W (jN id (jy K))) a w
theorem aeH {P:Program} {au:eW} {W:World} {c:Code} {ro:Option Nat} {n:Nat} {I:Nat->AS->Prop} {Kx:Exit->AS->Prop}
  (ih: ∀m st,I m st-> ∀ρ a w,Et au W st ρ a w->c.wpIn (fw ro) n P (Post au W fun e qF=>match e with| .normal=> ∃m' st',m'<m/\ rF qF st'/\ I m' st'|e=>Kx e qF) a w)
  {m:Nat} {st stw:AS} (hw0:rF st stw) (h0:I m stw) {ρ:Env} {a:Act} {w:World} (aO:Et au W st ρ a w):(Code.loop c).wpIn (fw ro) n P (Post au W Kx) a w:=by
 intro b k cs hro hb hroom
 have key: ∀m a w,(∃st ρ,I m st/\ Et au W st ρ a w)-> ∃e a' w',Post au W Kx e a' w'/\ ArrivesIn (Machine.fenced P (fw ro)) P (lone (b.atR a (.code c:: .inLoop c::k)) cs w) b k cs e a' w':=by
  intro m
  induction m using Nat.strongRecOn with
  |_ m ihm=>
   rintro a w ⟨st,ρ,hI,aO⟩
   obtain ⟨e,a1,w1,⟨kI,aQ,hk,cy⟩,hO⟩:=ih m st hI ρ a w aO b (.inLoop c::k) cs hro hb hroom
   cases e with
   |normal=>
    obtain ⟨m',st',hm,hw,hI'⟩:=hk
    obtain ⟨iY,eI⟩:=cy.weak hw
    obtain ⟨e2,a2,w2,hq2,Fz⟩:=ihm m' hm a1 w1 ⟨st',iY,hI',eI⟩
    exact ⟨e2,a2,w2,hq2,.of_steps (StepsIn.trans hO (.one (fenced_calm hb hroom rfl) stepR_inLoop)) Fz⟩
   |exit id=>exact ⟨_,a1,w1,⟨kI,aQ,hk,cy⟩,.pass (x:= .inLoop c) rfl (fun _ _=> .inl (by simp)) hO⟩
   |goto l=>exact ⟨_,a1,w1,⟨kI,aQ,hk,cy⟩,.pass (x:= .inLoop c) rfl (fun _ _=> .inl (by simp)) hO⟩
   |ret=>exact ⟨_,a1,w1,⟨kI,aQ,hk,cy⟩,.pass (x:= .inLoop c) rfl (fun _ _=> .inl (by simp)) hO⟩
   |panic ch=>exact ⟨_,a1,w1,⟨kI,aQ,hk,cy⟩,.pass (x:= .inLoop c) rfl (fun _ _=> .inl (by simp)) hO⟩
   |outgrown=>exact ⟨_,a1,w1,⟨kI,aQ,hk,cy⟩,.pass (x:= .inLoop c) rfl (fun _ _=> .inl (by simp)) hO⟩
 obtain ⟨aV,DA⟩:=aO.weak hw0
 obtain ⟨e,a',w',hq,hO⟩:=key m a w ⟨stw,aV,h0,DA⟩
 exact ⟨e,a',w',hq,.of_steps (.one (fenced_calm hb hroom rfl) stepR_loop) hO⟩
section
variable {P:Program} {tt:List (Nat×TI)} {specs:List (Nat×Spec)} {X:Addr->Value->Prop} {lp:List (Nat×bw)} {ys:List (Nat×Spec)} {its:List (Nat×cD)}
theorem acS.tr (hT:cP P tt) (hC:eB P ⟨tt,specs,X,lp,ys,its⟩) (hm:P.follows .mixedOrders=true) {c:Code} {id:Nat} (L:aK) {i:Bool} (t:L.S->Tr (L.S⊕L.R) i) (hok:L.ok id=true)
  (h: ∀g s Q,cz ⟨tt,specs,X,lp,ys,its⟩ c (L.Nj.fill g s) (L.kb g Q)=(t s).wp (L.post g Q) (Mw L.gt g)):acS P ⟨tt,specs,X,lp,ys,its⟩ (.loop c) id (L.sp t):=by
 intro mJ au W ro n hX hro st K hs ρ a w aO
 have hok:L.Nj.ok=true/\ aK.xOk id L.xs=true:=by simpa [aK.ok] using hok
 unfold aK.sp at hs
 split at hs
 rotate_left
 ·exact hs.elim
 rename_i g c' s0 hrd
 obtain ⟨hc,OD,hk⟩:=hs
 have hw:=tx.MI hok.1 hrd hc
 obtain ⟨r,m,hn⟩:=OD.iter
 have DD:=Ca hn
 refine aeH (I:=fun m st=> ∃s,st=L.Nj.fill g s/\ Term (fun s=>(t s).val) (fun s=>Tr.pI i (t s).pre) s/\ cO (fun s=>(t s).val) m s=some r) (m:=m) ?_ hw ⟨s0,rfl,OD,hn⟩ aO
 rintro m kI ⟨s,rfl,hts,hm'⟩ aQ a1 w1 cy
 have ZF:cz ⟨tt,specs,X,lp,ys,its⟩ c (L.Nj.fill g s) (L.kb g fun v=>match v with| .inl s'=> ∃m',m'<m/\ Term (fun s=>(t s).val) (fun s=>Tr.pI i (t s).pre) s'/\ cO (fun s=>(t s).val) m' s'=some r| .inr r'=>aK.W9 L.xs g r' K):=by
  rw [h]
  cases hts with
  |mk _ hp j7=>
   refine Tr.Ib _ _ _ hp (aK.Ut ?_)
   match m,hm' with
   |0,hm'=>cases hm'
   |m+1,hm'=>
    simp only [cO] at hm'
    cases hv:(t s).val with
    |inl s'=>
     rw [hv] at hm'
     exact ⟨m,by omega,j7 s' hv,hm'⟩
    |inr r'=>
     rw [hv] at hm'
     have:r'=run (fun s=>(t s).val) s0:=by rw [DD];exact Option.some.inj hm'
     exact hk r' this
 refine wpIn_mono (pB (ctx:=⟨tt,specs,X,lp,ys,its⟩) hT hC hm c mJ au W ro n hX hro _ _ ZF aQ a1 w1 cy) ?_
 rintro e a2 w2 ⟨qF,iY,hkb,eI⟩
 refine ⟨qF,iY,?_,eI⟩
 cases e with
 |normal=>
  obtain ⟨s',hw',m',h1,h2,h3⟩:=aK.MH hok.1 hkb
  exact ⟨m',_,h1,hw',s',rfl,h2,h3⟩
 |_=>exact aK.aas L.xs hok.2 hkb
theorem ay.aiY {c b:Code} {id:Nat} {sp:bw} (hl:ay P X c lp) (hn':dg (ids c)=true) (hb:bC id c=some b)
  (h:acS P ⟨tt,specs,X,lp,ys,its⟩ b id sp):ay P X c ((id,sp)::lp):=hl.afI hn' hb h
theorem ay.tr (hT:cP P tt) (hC:eB P ⟨tt,specs,X,lp,ys,its⟩) (hm:P.follows .mixedOrders=true) {c:Code} (id:Nat) (L:aK) {i:Bool} (t:L.S->Tr (L.S⊕L.R) i) (hl:ay P X c lp)
  (hk:(dg (ids c),bC id c,L.ok id)=(true,some (.loop (cI (blk id c))),true))
  (h: ∀g s Q,cz ⟨tt,specs,X,lp,ys,its⟩ (cI (blk id c)) (L.Nj.fill g s) (L.kb g Q)=(t s).wp (L.post g Q) (Mw L.gt g)):ay P X c ((id,L.sp t)::lp):=by
 simp only [Prod.mk.injEq] at hk
 exact hl.aiY hk.1 hk.2.1 (acS.tr hT hC hm L t hk.2.2 h)
theorem ay.nH (hT:cP P tt) (hC:eB P ⟨tt,specs,X,lp,ys,its⟩) (hm:P.follows .mixedOrders=true) {c:Code} (id N:Nat) (hl:ay P X c lp) (hk:(dg (ids c),bC id c)=(true,some (.loop (cI (blk id c))))):
  ay P X c ((id,QB tt specs X lp ys its id (cI (blk id c)) N)::lp):=by
 simp only [Prod.mk.injEq] at hk
 exact ay.Cj hT hC hm N hl hk.1 hk.2
theorem ai.tr (s:bY) {i:Bool} (t:s.p.ty.T->Tr s.r.ty.T i) (hT:cP P tt) (hS:ah P specs) (hm:P.follows .mixedOrders=true) {n:FuncId} {fn:Func} (hk:(P.funcs[n]?,dg (ids (aD fn)),s.r.res)=(some fn,true,true))
  {lp:s.p.ty.T->List (Nat×bw)} (hits:ax P cf its) (hl: ∀x,ay P cf (aD fn) (lp x)) (he: ∀x,(s.pre x,s.f x)=(Tr.pI i (t x).pre,(t x).val))
  (h: ∀x Q,Ie ⟨tt,specs,cf,lp x,[],its⟩ fn (cq s.p x) (c9 s.p x) (lE s.r Q)=(t x).wp Q []):ai P n (ak s):=by
 simp only [Prod.mk.injEq] at hk
 refine ai.fnT hT hS hm hk.1 hk.2.1 hk.2.2 fun x hx=>⟨lp x,its,hits,hl x,?_⟩
 have e:=he x
 simp only [Prod.mk.injEq] at e
 rw [h]
 exact Tr.Ib _ _ _ (by rw [<- e.1];exact hx) e.2.symm
theorem ai.trX (s:bY) {i:Bool} (t:s.p.ty.T->Tr s.r.ty.T i) (hT:cP P tt) (hS:ah P specs) (hm:P.follows .mixedOrders=true) {n:FuncId} {fn:Func} (hk:(P.funcs[n]?,dg (ids (aD fn)),s.r.res)=(some fn,true,true))
  {lp:s.p.ty.T->List (Nat×bw)} {its:s.p.ty.T->List (Nat×cD)} (hits: ∀x,ax P cf (its x)) (hl: ∀x,ay P cf (aD fn) (lp x)) (he: ∀x,(s.pre x,s.f x)=(Tr.pI i (t x).pre,(t x).val))
  (h: ∀x Q,Ie ⟨tt,specs,cf,lp x,[],its x⟩ fn (cq s.p x) (c9 s.p x) (lE s.r Q)=(t x).wp Q []):ai P n (ak s):=by
 simp only [Prod.mk.injEq] at hk
 refine ai.fnT hT hS hm hk.1 hk.2.1 hk.2.2 fun x hx=>⟨lp x,its x,hits x,hl x,?_⟩
 have e:=he x
 simp only [Prod.mk.injEq] at e
 rw [h]
 exact Tr.Ib _ _ _ (by rw [<- e.1];exact hx) e.2.symm
theorem ax.walk (hT:cP P tt) (hS:ah P specs) (hm:P.follows .mixedOrders=true) (f:FuncId) {fn:Func} (hk:(P.funcs[f]?,fn.name== "runtime.NumGoroutine",fn.body.isNone,dg (ids (aD fn)))=(some fn,false,false,true))
  {lp:List (Nat×Spec)->List (Nat×bw)} (hits:ax P X its) (mJ: ∀ys,mU P ys->ay P X (aD fn) (lp ys)):ax P X ((f,uP tt specs X lp its fn)::its):=by
 simp only [Prod.mk.injEq] at hk
 exact ax.cons (bS.of hk.1 hk.2.1 hk.2.2.1) (fJ.fn hT hS hm hk.1 hk.2.2.2 hits mJ) hits
theorem ax.dead (f:FuncId) {fn:Func} (hk:(P.funcs[f]?,fn.name== "runtime.NumGoroutine",fn.body.isNone)=(some fn,false,false)):ax P X [(f,YU)]:=by
 simp only [Prod.mk.injEq] at hk
 exact ax.cons (bS.of hk.1 hk.2.1 hk.2.2) VJ (ax.nil _ _)
theorem ah.add {f:FuncId} {fn:Func} {s:Spec} (hk:(P.funcs[f]?,fn.name== "runtime.NumGoroutine",fn.body.isNone)=(some fn,false,false)) (h:ai P f s) (hl:ah P specs):ah P ((f,s)::specs):=by
 simp only [Prod.mk.injEq] at hk
 exact ah.cons (bS.of hk.1 hk.2.1 hk.2.2) h hl
end
namespace Tr
variable {τ:Type}
abbrev fn {i:Bool} (s:bY) (x:s.p.ty.T) (k:s.r.ty.T->Tr τ i):Tr τ true:= .call (s.pre x) (s.f x) k
abbrev fn0 {i:Bool} (s:bY) (x:s.p.ty.T) (h:s.pre x) (k:s.r.ty.T->Tr τ i):Tr τ i:= .YI (s.pre x) h (s.f x) k
abbrev pn {i:Bool} (k n:Nat) (t:Tr τ i):Tr τ i:= .fE k (.fact (n=n) rfl t)
abbrev lt {i:Bool} {α:Type} (v:α) (k:α->Tr τ i):Tr τ i:= .YI True trivial v k
abbrev tF (p:Prop) [Decidable p] (t:Tr τ false) (u:Tr τ false):Tr τ false:= .ite p t u
abbrev i10 (p:Prop) [Decidable p] (t:Tr τ true) (u:Tr τ false):Tr τ true:= .ite p t u
abbrev FN (p:Prop) [Decidable p] (t:Tr τ false) (u:Tr τ true):Tr τ true:= .ite p t u
abbrev i11 (p:Prop) [Decidable p] (t:Tr τ true) (u:Tr τ true):Tr τ true:= .ite p t u
abbrev qH (b:Bool) (t:Tr τ false) (u:Tr τ false):Tr τ false:= .cb b t u
abbrev Dw (b:Bool) (t:Tr τ true) (u:Tr τ false):Tr τ true:= .cb b t u
abbrev nM (b:Bool) (t:Tr τ false) (u:Tr τ true):Tr τ true:= .cb b t u
abbrev b11 (b:Bool) (t:Tr τ true) (u:Tr τ true):Tr τ true:= .cb b t u
abbrev MK {α β:Type} (r:α⊕β) (f:α->Tr τ false) (g:β->Tr τ false):Tr τ false:= .sum r f g
abbrev s01 {α β:Type} (r:α⊕β) (f:α->Tr τ false) (g:β->Tr τ true):Tr τ true:= .sum r f g
end Tr
structure Lr (P:Program) where
 l:List (Nat×cD)
 ok:ax P cf l
def di:Nat->Nat->List (Nat×PV)->List PV
 |0,_,_=> []
 |n+1,i,[]=> .d::di n (i+1) []
 |n+1,i,(j,p)::r=>match Nat.beq i j with
  |true=>p::di n (i+1) r
  |false=> .d::di n (i+1) ((j,p)::r)
end Go.Ev
