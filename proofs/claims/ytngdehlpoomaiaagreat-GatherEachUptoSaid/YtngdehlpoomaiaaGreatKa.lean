/- Plain laws: a disc's first points. -/
import Derived.Test.YtngdehlpoomaiaaGreatMb
import Derived.Test.YtngdehlpoomaiaaGreatLf
import Derived.Test.YtngdehlpoomaiaaGreatEvU
import Derived.Sort.Grow
import Derived.Lib.SlicesCompact
noncomputable section
set_option linter.unusedSectionVars false
set_option linter.unusedVariables false
set_option linter.unusedSimpArgs false
namespace Go.Proofs.YtngdehlpoomaiaaGreat
open Go Go.Ev Go.Proofs
theorem TR.iter {S R:Type} [Inhabited R] {step:S->S⊕R} {pre:S->Prop} (hp: ∀s,pre s): ∀ {m:Nat} {s:S} {r:R},cO step m s=some r->TR step pre s fun q=>q=r
 |0,s,r,h=>by cases h
 |m+1,s,r,h=>by
  simp only [cO] at h
  cases e:step s with
  |inl s'=>rw [e] at h;exact TR.go (hp s) e (TR.iter hp h)
  |inr r'=>rw [e] at h;exact TR.stop (hp s) e (Option.some.inj h)
def ahz (b:Int):Nat->Int×(Int×Int)->Int×(Int×Int)
 |0,s=>s
 |k+1,s=>if s.2.2>0 then ahz b k (s.1*b+s.2.2 % b,s.2.1*b,s.2.2 / b) else s
def DF (b i:Int):Int×Int:=((ahz b 8 (0,1,i)).1,(ahz b 8 (0,1,i)).2.1)
def ahA (b:Int):Bool:=(List.range 64).all fun i=>match cO (cX (b,(i:Int)) ()) 9 (0,1,(i:Int)) with
 |some r=>decide (r.1=(DF b i).1)&&(decide (r.2.1=(DF b i).2)&& !decide (r.2.1=0))
 |none=>false
theorem inv2:ahA 2=true:=by kernel_rfl
theorem amJ:ahA 3=true:=by kernel_rfl
theorem Ow {b i:Int} (hb:2<=b/\ b<=16) (ht:ahA b=true) (hi:0<=i/\ i<64):me (b,i)/\ hinv (b,i)=(DF b i,0)/\ (DF b i).2≠0:=by
 have h1:=List.all_eq_true.1 ht i.toNat (List.mem_range.2 (by omega))
 have ei:((i.toNat:Nat):Int)=i:=by omega
 rw [ei] at h1
 split at h1
 rotate_left
 ·cases h1
 rename_i r hr
 simp only [Bool.and_eq_true,decide_eq_true_eq,Bool.not_eq_true',decide_eq_false_iff_not] at h1
 have k:=TR.iter (pre:=ga (b,i) ()) (fun s _=>⟨by dsimp only;omega,by dsimp only;omega⟩) hr
 unfold me hinv aq
 dsimp only
 refine ⟨fun _ _ _ _=>k.1,?_,by rw [<- h1.2.1];exact h1.2.2⟩
 rw [if_neg (by omega),if_neg (by omega),if_neg (by omega),if_neg (by omega),k.2,h1.1,h1.2.1]
def sF (i:Int):Int×Int:=(65536*(DF 2 i).1 / (DF 2 i).2,65536*(DF 3 i).1 / (DF 3 i).2)
def ahX:Bool:=(List.range 64).all fun i=>decide (av (Int.tdiv (av (65536*(DF 2 i).1)) (DF 2 i).2)=(sF i).1)&&decide (av (Int.tdiv (av (65536*(DF 3 i).1)) (DF 3 i).2)=(sF i).2)
theorem aa5:ahX=true:=by kernel_rfl
theorem RL {i:Int} (hi:0<=i/\ i<64):rY i/\ FM i=(sF i,0):=by
 obtain ⟨a1,a2,a3⟩:=Ow (b:=2) (by omega) inv2 hi
 obtain ⟨b1,b2,b3⟩:=Ow (b:=3) (by omega) amJ hi
 have h1:=List.all_eq_true.1 aa5 i.toNat (List.mem_range.2 (by omega))
 have ei:((i.toNat:Nat):Int)=i:=by omega
 rw [ei] at h1
 simp only [Bool.and_eq_true,decide_eq_true_eq] at h1
 unfold rY FM aC aq
 rw [a2,b2]
 dsimp only
 refine ⟨⟨a1,fun _=>⟨b1,a3,b3⟩⟩,?_⟩
 rw [if_neg (by decide),h1.1,h1.2]
def ud (n:Int) (s:List (Int×Int)×Int):(List (Int×Int)×Int)⊕List (Int×Int):=
 if (s.1.length:Int)<n then
  if zz (sF s.2)=true then .inl (s.1++ [(rX (sF s.2).1,rX (sF s.2).2)],s.2+1) else .inl (s.1,s.2+1)
 else .inr s.1
def D24:List (Int×Int):=match cO (ud 24) 60 ([],1) with
 |some l=>l
 |none=> []
def ai0:Bool:=(List.range 25).all fun n=>match cO (ud n) 60 ([],1) with
 |some l=>decide (l=D24.take n)
 |none=>false
theorem adi:ai0=true:=by kernel_rfl
theorem Td:D24.length=24:=by kernel_rfl
def amI:Bool:=D24.all fun d=>decide (-1024<=d.1/\ d.1<=1024)&&decide (-1024<=d.2/\ d.2<=1024)
theorem ahx:amI=true:=by kernel_rfl
theorem X9: ∀d∈D24,InD d:=fun d hd=>by
 have:=List.all_eq_true.1 ahx d hd
 simpa [InD] using this
theorem Fc (n:Int): ∀(m:Nat) (l:List (Int×Int)) (i:Int) (r:List (Int×Int)),1<=i->i+m<=64->l.length+m<=1000->cO (ud n) m (l,i)=some r->TR (eJ n) (iT n) (l,i) fun q=>q=r
 |0,l,i,r,_,_,_,h=>by cases h
 |m+1,l,i,r,h1,h2,h3,h=>by
  obtain ⟨p1,p2⟩:=RL (i:=i) (by omega)
  have hw:av (i+1)=i+1:=aF (by omega) (by omega)
  have hpre:iT n (l,i):=by
   unfold iT aC
   exact fun _ _=>⟨p1,fun _=>by dsimp only;omega⟩
  simp only [cO] at h
  have hstep:eJ n (l,i)=ud n (l,i):=by
   unfold eJ ud aq
   dsimp only
   rw [if_pos (by omega),p2,hw]
  by_cases hl:(l.length:Int)<n
  ·by_cases hin:zz (sF i)=true
   ·have e:ud n (l,i)= .inl (l++ [(rX (sF i).1,rX (sF i).2)],i+1):=by
     unfold ud;dsimp only;rw [if_pos hl,if_pos hin]
    rw [e] at h
    exact TR.go hpre (hstep.trans e) (Fc n m _ _ r (by omega) (by omega) (by simp;omega) h)
   ·have e:ud n (l,i)= .inl (l,i+1):=by
     unfold ud;dsimp only;rw [if_pos hl,if_neg hin]
    rw [e] at h
    exact TR.go hpre (hstep.trans e) (Fc n m _ _ r (by omega) (by omega) (by omega) h)
  ·have e:ud n (l,i)= .inr l:=by
    unfold ud;dsimp only;rw [if_neg hl]
   rw [e] at h
   exact TR.stop hpre (hstep.trans e) (Option.some.inj h)
theorem Wi {n:Int} (hn:0<=n/\ n<=24):wv n/\ Ou n=(D24.take n.toNat,0):=by
 have h1:=List.all_eq_true.1 adi n.toNat (List.mem_range.2 (by omega))
 have ei:((n.toNat:Nat):Int)=n:=by omega
 rw [ei] at h1
 split at h1
 rotate_left
 ·cases h1
 rename_i l hl
 have k:=Fc n 60 [] 1 l (by omega) (by omega) (by simp) hl
 unfold wv Ou aq
 refine ⟨fun _ _=>k.1,?_⟩
 rw [if_neg (by omega),if_neg (by omega),k.2,of_decide_eq_true h1]
end Go.Proofs.YtngdehlpoomaiaaGreat
namespace Go.Ev
open Go.RowKit
structure alh where
 ka:Bool
 k:Ty
 u:Ty
structure FnG where
 p:kK
 r:alh
 pre:p.ty.T->Prop
 f:p.ty.T->List (r.k.T×List r.u.T)
section
variable {P:Program} {tt:List (Nat×TI)} {specs:List (Nat×Spec)}
end
namespace Tr
variable {τ:Type}
end Tr
end Go.Ev
namespace Go.Ev
open Go.RowKit
inductive Vq
 |ty (t:Ty)
 |rp (u:Ty)
 |ref (v:Vq)
 |pair (a b:Vq)
@[reducible] def Vq.ty':Vq->Ty
 | .ty t=>t
 | .rp u=>u
 | .ref v=>v.ty'
 | .pair a b=> .prod a.ty' b.ty'
inductive Q9
 |arg (p:kK)
 |var (v:Vq)
 |pair (a b:Q9)
 |iP (f:FuncId) (a:Q9)
 |mv (f:FuncId) (v:Vq)
@[reducible] def Q9.ty:Q9->Ty
 | .arg p=>p.ty
 | .var v=>v.ty'
 | .pair a b=> .prod a.ty b.ty
 | .iP _ a=>a.ty
 | .mv _ v=>v.ty'
def Q9.cap:Q9->Bool
 | .arg p=>p.cap
 | .var _=>true
 | .pair a b=>a.cap&&b.cap
 |_=>false
structure FnQ where
 p:Q9
 r:kK
 pre:p.ty.T->Prop
 f:p.ty.T->r.ty.T
section
variable {P:Program} {tt:List (Nat×TI)} {specs:List (Nat×Spec)}
end
namespace Tr
variable {τ:Type}
end Tr
end Go.Ev
namespace Go.Ev
open Go.RowKit
section
variable {P:Program} {f:FuncId}
end
end Go.Ev
namespace Go.Ev
open Go.RowKit
structure acR where
 ka:Bool
 k:Ty
 u:Ty
 q:kK
@[reducible] def acR.ty (d:acR):Ty:= .prod (.sl (.prod d.k (.sl d.u))) d.q.ty
structure FnL where
 p:acR
 r:kK
 pre:p.ty.T->Prop
 f:p.ty.T->r.ty.T×List (p.k.T×List p.u.T)
def I1 (d:acR) (x:d.ty.T):List AV:= .v (.one (.mp 0))::(aW 0 2 d.q x.2).1.map .v
section
variable {P:Program} {tt:List (Nat×TI)} {specs:List (Nat×Spec)}
end
namespace Tr
variable {τ:Type}
end Tr
end Go.Ev
namespace Go.Ev
open Go.RowKit
def ent (tE:TypeId) (c:Int):PanicEntry:= {v:= .iface tE (.int .i64 c),recovered:=false}
abbrev pN:Nat:=999983
abbrev pX:Exit:= .exit pN
abbrev Ti:=Int->Act->World->Act->World->Prop
abbrev DK (au:eW) (W:World) (st:AS) (ρ:Env) (a:Act) (w:World):Prop:=AtD au W [] st ρ a w
theorem DK.weak {au:eW} {W:World} {st st':AS} {ρ:Env} {a:Act} {w:World} (h:DK au W st ρ a w) (hw:rF st st'): ∃ρ',DK au W st' ρ' a w:=by
 obtain ⟨ρ',h'⟩:=h.bz.weak hw
 exact ⟨ρ',h.nd,h.dd,h'⟩
def Nq (au:eW) (W:World) (K:Exit->AS->Prop):Exit->Act->World->Prop:=fun e a w=> ∃st ρ,K e st/\ DK au W st ρ a w
theorem Gl {au:eW} {W:World} {K:Exit->AS->Prop} {e:Exit} {a:Act} {w:World} (h:Nq au W (jy K) e a w):Nq au W K e a w:=by
 obtain ⟨st,ρ,⟨st',hw,hk⟩,aO⟩:=h
 obtain ⟨ρ',cW⟩:=DK.weak aO hw
 exact ⟨st',ρ',hk,cW⟩
def xb (tE:TypeId) (Pn:Ti) (au:eW) (W:World) (K:Exit->AS->Prop):Exit->Act->World->Prop:=fun e a w=>
 (e≠pX/\ Nq au W K e a w)\/ ∃c a' w',e= .panic [ent tE c]/\ Pn c a w a' w'/\ Fr au W w/\ Nq au W K pX a' w'
def II:Code->Bool
 | .seq a b=>II a&&II b
 | .cond _ a b=>II a&&II b
 | .loop c=>II c
 | .block id c=> !Nat.beq id pN&&II c
 | .exit id=> !Nat.beq id pN
 | .rangeFunc .. =>false
 |_=>true
def gC (rs:List Nat):Code->Code
 | .seq a b=> .seq (gC rs a) (gC rs b)
 | .cond c a b=> .cond c (gC rs a) (gC rs b)
 | .loop c=> .loop (gC rs c)
 | .block id c=> .block id (gC rs c)
 | .region id ops draw=>if yf id rs then .block (1000000+id) .skip else .region id ops draw
 |c=>c
def wK (rs:List Nat):Code->List (Nat×Code)
 | .seq a b=>wK rs a++wK rs b
 | .cond _ a b=>wK rs a++wK rs b
 | .loop c=>wK rs c
 | .block id c=>(id,.block id c)::wK rs c
 | .region id ops draw=>if yf id rs then [(1000000+id,.region id ops draw)] else []
 |_=> []
def T7:Code->Bool
 | .region .. =>true
 |_=>false
section
variable {P:Program} {ctx:Ctx} {au:eW} {W:World} {tE:TypeId} {Pn:Ti} {rs:List Nat}
def Bn (P:Program) (X:Addr->Value->Prop) (tE:TypeId) (Pn:Ti) (sp:bw) (c:Code):Prop:= ∀au W n,rD au W X-> ∀st K,sp st K-> ∀ρ a w,DK au W st ρ a w->c.wpIn (fw none) n P (xb tE Pn au W K) a w
def Q8 (P:Program) (ctx:Ctx) (tE:TypeId) (Pn:Ti) (rs:List Nat) (c:Code):Prop:= ∀p∈wK rs c,match aJ ctx.lp p.1 with
 |some sp=>Bn P ctx.X tE Pn sp p.2
 |none=>T7 p.2=false
theorem Sy {K:Exit->AS->Prop} {e:Exit} {a:Act} {w:World} (h:xb tE Pn au W (jy K) e a w):xb tE Pn au W K e a w:=by
 rcases h with h|⟨c,a',w',h1,h2,h3⟩
 ·exact .inl ⟨h.1,Gl h.2⟩
 ·exact .inr ⟨c,a',w',h1,h2,h3.1,Gl h3.2⟩
theorem I5 {n id:Nat} (oX:id≠pN) {c:Code} {K:Exit->AS->Prop} {a:Act} {w:World} (h:c.wpIn (fw none) n P (xb tE Pn au W (jN id K)) a w):(Code.block id c).wpIn (fw none) n P (xb tE Pn au W K) a w:=by
 refine wpIn_block (wpIn_mono h ?_)
 rintro e a' w' (⟨hx,st',ρ',hk,cW⟩|⟨c,a2,w2,rfl,hp,h⟩)
 ·cases e with
  |exit id'=>
   simp only [Exit.inBlock]
   simp only [jN] at hk
   split at hk
   ·rename_i e;rw [if_pos e];exact .inl ⟨by simp,st',ρ',hk,cW⟩
   ·rename_i e;rw [if_neg e];exact .inl ⟨hx,st',ρ',hk,cW⟩
  |_=>exact .inl ⟨hx,st',ρ',hk,cW⟩
 ·refine .inr ⟨c,a2,w2,rfl,hp,h.1,?_⟩
  obtain ⟨st',ρ',hk,cW⟩:=h.2
  simp only [jN,if_neg oX.symm] at hk
  exact ⟨st',ρ',hk,cW⟩
theorem OY {c:Code} {n:Nat} {I:Nat->AS->Prop} {Kx:Exit->AS->Prop}
  (ih: ∀m st,I m st-> ∀ρ a w,DK au W st ρ a w->c.wpIn (fw none) n P (xb tE Pn au W fun e qF=>match e with| .normal=> ∃m' st',m'<m/\ rF qF st'/\ I m' st'|e=>Kx e qF) a w)
  {m:Nat} {st stw:AS} (hw0:rF st stw) (h0:I m stw) {ρ:Env} {a:Act} {w:World} (aO:DK au W st ρ a w):(Code.loop c).wpIn (fw none) n P (xb tE Pn au W Kx) a w:=by
 intro b k cs hro hb hroom
 have key: ∀m a w,(∃st ρ,I m st/\ DK au W st ρ a w)-> ∃e a' w',xb tE Pn au W Kx e a' w'/\ ArrivesIn (Machine.fenced P (fw none)) P (lone (b.atR a (.code c:: .inLoop c::k)) cs w) b k cs e a' w':=by
  intro m
  induction m using Nat.strongRecOn with
  |_ m ihm=>
   rintro a w ⟨st,ρ,hI,aO⟩
   obtain ⟨e,a1,w1,hq,hO⟩:=ih m st hI ρ a w aO b (.inLoop c::k) cs hro hb hroom
   rcases hq with ⟨hx,kI,aQ,hk,cy⟩|⟨c',a2,w2,rfl,hp,h⟩
   ·cases e with
    |normal=>
     obtain ⟨m',st',hm,hw,hI'⟩:=hk
     obtain ⟨iY,eI⟩:=DK.weak cy hw
     obtain ⟨e2,a2,w2,hq2,Fz⟩:=ihm m' hm a1 w1 ⟨st',iY,hI',eI⟩
     exact ⟨e2,a2,w2,hq2,.of_steps (StepsIn.trans hO (.one (fenced_calm hb hroom rfl) stepR_inLoop)) Fz⟩
    |exit id=>exact ⟨_,a1,w1,.inl ⟨hx,kI,aQ,hk,cy⟩,.pass (x:= .inLoop c) rfl (fun _ _=> .inl (by simp)) hO⟩
    |goto l=>exact ⟨_,a1,w1,.inl ⟨hx,kI,aQ,hk,cy⟩,.pass (x:= .inLoop c) rfl (fun _ _=> .inl (by simp)) hO⟩
    |ret=>exact ⟨_,a1,w1,.inl ⟨hx,kI,aQ,hk,cy⟩,.pass (x:= .inLoop c) rfl (fun _ _=> .inl (by simp)) hO⟩
    |panic ch=>exact ⟨_,a1,w1,.inl ⟨hx,kI,aQ,hk,cy⟩,.pass (x:= .inLoop c) rfl (fun _ _=> .inl (by simp)) hO⟩
    |outgrown=>exact ⟨_,a1,w1,.inl ⟨hx,kI,aQ,hk,cy⟩,.pass (x:= .inLoop c) rfl (fun _ _=> .inl (by simp)) hO⟩
   ·exact ⟨_,a1,w1,.inr ⟨c',a2,w2,rfl,hp,h⟩,.pass (x:= .inLoop c) rfl (fun _ _=> .inl (by simp)) hO⟩
 obtain ⟨aV,DA⟩:=DK.weak aO hw0
 obtain ⟨e,a',w',hq,hO⟩:=key m a w ⟨stw,aV,h0,DA⟩
 exact ⟨e,a',w',hq,.of_steps (.one (fenced_calm hb hroom rfl) stepR_loop) hO⟩
theorem Q8.sub {c d:Code} (h:Q8 P ctx tE Pn rs c) (hs: ∀p∈wK rs d,p∈wK rs c):Q8 P ctx tE Pn rs d:=fun p hp=>h p (hs p hp)
theorem Ef (hT:cP P ctx.tt) (hC:eB P ctx) (hm:P.follows .mixedOrders=true) {id n:Nat} {ops:Array Oper} {draw:Bool} (hX:rD au W ctx.X) {st:AS} {K:Exit->AS->Prop} (h:iV ctx ops draw st (K .normal)) {ρ:Env} {a:Act} {w:World} (aO:DK au W st ρ a w):
  (Code.region id ops draw).wpIn (fw none) n P (xb tE Pn au W K) a w:=by
 have hX':=hX.sI aO.bz.st
 cases draw with
 |false=>
  have h:mL ctx ops ops.toList [] st [] fun st' _=>K .normal st':=h
  exact wpIn_region_list (jx hT hC hX' ops ops.toList [] st [] _ h (fun st' _ ρ' a' w' hk cW=> .inl ⟨by simp,st',ρ',hk,aO.back cW⟩) ρ a w aO.base)
 |true=>
  refine wpIn_mono (TE hT hC.sp hm hX' none n id ops st (K .normal) h ρ a w aO.base) ?_
  rintro e a' w' ⟨st',ρ',⟨rfl,hk⟩,cW⟩
  exact .inl ⟨by simp,st',ρ',hk,aO.back cW⟩
theorem agY (hT:cP P ctx.tt) (hC:eB P ctx) (hm:P.follows .mixedOrders=true): ∀(c:Code),II c=true->Q8 P ctx tE Pn rs c-> ∀au W n,rD au W ctx.X-> ∀st K,cz ctx (gC rs c) st K-> ∀ρ a w,DK au W st ρ a w->c.wpIn (fw none) n P (xb tE Pn au W K) a w:=by
 intro c
 induction c with
 |skip=>intro _ _ au W n hX st K h ρ a w aO;exact wpIn_skip (.inl ⟨by simp,st,ρ,h,aO⟩)
 |exit id=>intro hx _ au W n hX st K h ρ a w aO;exact wpIn_exit (.inl ⟨fun e=>(by injection e with e;subst e;simp [II] at hx),st,ρ,h,aO⟩)
 |ret=>intro _ _ au W n hX st K h ρ a w aO;exact wpIn_ret (.inl ⟨by simp,st,ρ,h,aO⟩)
 |region id ops draw=>
  intro _ mJ au W n hX st K h ρ a w aO
  unfold gC at h
  split at h
  ·rename_i hr
   have:=mJ (1000000+id,.region id ops draw) (by simp [wK,hr])
   dsimp only at this
   unfold cz at h
   split at h
   ·rename_i sp hsp
    rw [hsp] at this
    exact this au W n hX st K h ρ a w aO
   ·rename_i hsp
    rw [hsp] at this
    cases this
  ·exact Ef hT hC hm hX h aO
 |seq x y ihx ihy=>
  intro hrf mJ au W n hX st K h ρ a w aO
  simp only [II,Bool.and_eq_true] at hrf
  refine wpIn_seq (wpIn_mono (ihx hrf.1 (mJ.sub fun p hp=>by simp [wK,hp]) au W n hX st _ h ρ a w aO) ?_)
  rintro e a' w' (⟨hx,st',ρ',hk,cW⟩|⟨c,a2,w2,rfl,hp,h⟩)
  ·cases e with
   |normal=>exact ihy hrf.2 (mJ.sub fun p hp=>by simp [wK,hp]) au W n hX st' K hk ρ' a' w' cW
   |_=>exact .inl ⟨hx,st',ρ',hk,cW⟩
  ·exact .inr ⟨c,a2,w2,rfl,hp,h⟩
 |cond c x y ihx ihy=>
  intro hrf mJ au W n hX st K h ρ a w aO
  simp only [II,Bool.and_eq_true] at hrf
  unfold gC cz at h
  split at h
  ·rename_i t hc
   have:=aO.bz.eval c (by rw [hc];simp)
   rw [hc] at this
   exact wpIn_cond_split this (fun ht=>ihx hrf.1 (mJ.sub fun p hp=>by simp [wK,hp]) au W n hX st K (by subst ht;exact h) ρ a w aO) (fun ht=>ihy hrf.2 (mJ.sub fun p hp=>by simp [wK,hp]) au W n hX st K (by subst ht;exact h) ρ a w aO)
  ·exact h.elim
 |block id c ih=>
  intro hrf mJ au W n hX st K h ρ a w aO
  have h1:=mJ (id,.block id c) (by simp [wK])
  simp only [II,Bool.and_eq_true,Bool.not_eq_true'] at hrf
  have oX:id≠pN:=fun e=>by rw [e] at hrf;simp at hrf
  have hrf:=hrf.2
  unfold gC cz at h
  dsimp only at h1
  split at h
  ·rename_i sp hsp
   rw [hsp] at h1
   exact h1 au W n hX st K h ρ a w aO
  ·exact I5 oX (ih hrf (mJ.sub fun p hp=>by simp [wK,hp]) au W n hX st _ h ρ a w aO)
 |loop c ih=>
  intro hrf mJ au W n hX st K h ρ a w aO
  obtain ⟨I,⟨m,stw,hw0,h0⟩,hr⟩:=h
  exact OY (fun m st hI ρ a w aO=>ih hrf (mJ.sub fun p hp=>hp) au W n hX st _ (hr m st hI) ρ a w aO) hw0 h0 aO
 |rangeFunc g ps assign body _ _=>intro hrf;cases hrf
 |_=>intro _ _ au W n hX st K h;exact h.elim
def gZ (P:Program) (X:Addr->Value->Prop) (tE:TypeId) (Pn:Ti) (rs:List Nat) (c:Code) (lp:List (Nat×bw)):Prop:=
 ∀id sp d,aJ lp id=some sp->(id,d)∈wK rs c->Bn P X tE Pn sp d
def EJ (lp:List (Nat×bw)):List (Nat×Code)->Bool
 | []=>true
 |p::r=>(!T7 p.2||(aJ lp p.1).isSome)&&EJ lp r
theorem EK {lp:List (Nat×bw)} : ∀ {l:List (Nat×Code)},EJ lp l=true-> ∀p∈l,T7 p.2=true->(aJ lp p.1).isSome=true
 | [],_,p,hp=>by cases hp
 |q::r,h,p,hp=>by
  simp only [EJ,Bool.and_eq_true,Bool.or_eq_true,Bool.not_eq_true'] at h
  rcases List.mem_cons.1 hp with rfl|hp
  ·intro hr;rcases h.1 with h1|h1
   ·rw [hr] at h1;cases h1
   ·exact h1
  ·exact EK h.2 p hp
theorem gZ.lpG {c d:Code} (h:gZ P ctx.X tE Pn rs c ctx.lp) (hs: ∀p∈wK rs d,p∈wK rs c) (ha:EJ ctx.lp (wK rs d)=true):Q8 P ctx tE Pn rs d:=by
 intro p hp
 have h1:=h p.1
 split
 ·rename_i sp hsp
  exact h1 sp p.2 hsp (hs p hp)
 ·rename_i hsp
  cases hr:T7 p.2 with
  |false=>rfl
  |true=>
   have:=EK ha p hp hr
   rw [hsp] at this;cases this
theorem gZ.nil {X:Addr->Value->Prop} {c:Code} :gZ P X tE Pn rs c []:=fun _ _ _ h=>by cases h
theorem sE: ∀ {c:Code} {id:Nat} {b:Code},(id,Code.block id b)∈wK rs c-> ∀q∈wK rs b,q∈wK rs c
 | .seq a b,_,_,h,q,hq=>by
  simp only [wK,List.mem_append] at h ⊢
  exact h.imp (fun h=>sE h q hq) fun h=>sE h q hq
 | .cond _ a b,_,_,h,q,hq=>by
  simp only [wK,List.mem_append] at h ⊢
  exact h.imp (fun h=>sE h q hq) fun h=>sE h q hq
 | .loop c,_,_,h,q,hq=>sE (c:=c) h q hq
 | .block i c,_,_,h,q,hq=>by
  simp only [wK,List.mem_cons] at h ⊢
  rcases h with h|h
  ·simp only [Prod.mk.injEq,Code.block.injEq] at h
   obtain ⟨rfl,_,rfl⟩:=h
   exact .inr hq
  ·exact .inr (sE h q hq)
 | .region i ops draw,_,_,h,_,_=>by
  simp only [wK] at h
  split at h
  ·simp at h
  ·cases h
 | .skip,_,_,h,_,_=>by cases h
 | .exit _,_,_,h,_,_=>by cases h
 | .scope _,_,_,h,_,_=>by cases h
 | .label _,_,_,h,_,_=>by cases h
 | .goto _,_,_,h,_,_=>by cases h
 | .ret,_,_,h,_,_=>by cases h
 | .refuse _,_,_,h,_,_=>by cases h
 | .rangeFunc _ _ _ _,_,_,h,_,_=>by cases h
theorem uW {α:Type} : ∀ {l:List (Nat×α)} {k:Nat} {a:α},aJ l k=some a->(k,a)∈l
 | [],_,_,h=>by cases h
 |p::r,k,a,h=>by
  unfold aJ at h
  split at h
  ·rename_i e;cases h;subst e;exact List.mem_cons_self ..
  ·exact List.mem_cons_of_mem _ (uW h)
theorem CQ {α:Type} : ∀ {l:List (Nat×α)} {k:Nat} {a b:α},(l.map (·.1)).Nodup->(k,a)∈l->(k,b)∈l->a=b
 | [],_,_,_,_,h,_=>by cases h
 |p::r,k,a,b,hn,h1,h2=>by
  simp only [List.map_cons,List.nodup_cons,List.mem_map] at hn
  rcases List.mem_cons.1 h1 with h3|h3<;>rcases List.mem_cons.1 h2 with h4|h4
  ·rw [<- h3] at h4;injection h4 with _ h4;exact h4.symm
  ·exact absurd ⟨_,h4,by rw [<- h3]⟩ hn.1
  ·exact absurd ⟨_,h3,by rw [<- h4]⟩ hn.1
  ·exact CQ hn.2 h3 h4
end
section
variable {P:Program} {tt:List (Nat×TI)} {specs:List (Nat×Spec)} {X:Addr->Value->Prop} {lp:List (Nat×bw)} {ys:List (Nat×Spec)} {its:List (Nat×cD)} {tE:TypeId} {Pn:Ti} {rs:List Nat}
theorem gZ.cons {c d:Code} {id:Nat} {sp:bw} (hl:gZ P X tE Pn rs c lp) (hk:(dg ((wK rs c).map (·.1)),aJ (wK rs c) id)=(true,some d)) (h:Bn P X tE Pn sp d):gZ P X tE Pn rs c ((id,sp)::lp):=by
 simp only [Prod.mk.injEq] at hk
 intro id' sp' d' hs hd
 unfold aJ at hs
 split at hs
 ·rename_i e;subst e;cases hs
  rw [<- CQ (dJ hk.1) (uW hk.2) hd];exact h
 ·exact hl id' sp' d' hs hd
theorem gZ.tr (hT:cP P tt) (hC:eB P ⟨tt,specs,X,lp,ys,its⟩) (hm:P.follows .mixedOrders=true) {c:Code} (id:Nat) (b:Code) (L:aK) {i:Bool} (t:L.S->Tr (L.S⊕L.R) i) (hl:gZ P X tE Pn rs c lp)
  (hk:(dg ((wK rs c).map (·.1)),aJ (wK rs c) id,L.ok id,EJ lp (wK rs b),II b,Nat.beq id pN)=(true,some (.block id (.loop b)),true,true,true,false))
  (h: ∀g s Q,cz ⟨tt,specs,X,lp,ys,its⟩ (gC rs b) (L.Nj.fill g s) (L.kb g Q)=(t s).wp (L.post g Q) (Mw L.gt g)):gZ P X tE Pn rs c ((id,L.sp t)::lp):=by
 simp only [Prod.mk.injEq] at hk
 obtain ⟨X4,ZU,hok,ha,hrf,oX⟩:=hk
 have oX:id≠pN:=fun e=>by rw [e] at oX;simp at oX
 refine hl.cons (Prod.ext X4 ZU) ?_
 intro au W n hX st K hs ρ a w aO
 have mJ:Q8 P ⟨tt,specs,X,lp,ys,its⟩ tE Pn rs b:=gZ.lpG (ctx:=⟨tt,specs,X,lp,ys,its⟩) (c:=c) hl (fun p hp=>sE (uW ZU) p hp) ha
 have hok:L.Nj.ok=true/\ aK.xOk id L.xs=true:=by simpa [aK.ok] using hok
 unfold aK.sp at hs
 split at hs
 rotate_left
 ·exact hs.elim
 rename_i g c' s0 hrd
 obtain ⟨hc,OD,hk⟩:=hs
 have hw:=tx.MI hok.1 hrd hc
 obtain ⟨r,m,hn⟩:=OD.iter
 have DD:=Ca hn
 refine wpIn_mono (I5 oX (K:=jy K) ?_) fun _ _ _ h=>Sy h
 refine OY (I:=fun m st=> ∃s,st=L.Nj.fill g s/\ Term (fun s=>(t s).val) (fun s=>Tr.pI i (t s).pre) s/\ cO (fun s=>(t s).val) m s=some r) (m:=m) ?_ hw ⟨s0,rfl,OD,hn⟩ aO
 rintro m kI ⟨s,rfl,hts,hm'⟩ aQ a1 w1 cy
 have ZF:cz ⟨tt,specs,X,lp,ys,its⟩ (gC rs b) (L.Nj.fill g s) (L.kb g fun v=>match v with| .inl s'=> ∃m',m'<m/\ Term (fun s=>(t s).val) (fun s=>Tr.pI i (t s).pre) s'/\ cO (fun s=>(t s).val) m' s'=some r| .inr r'=>aK.W9 L.xs g r' K):=by
  rw [h]
  cases hts with
  |mk _ hp j7=>
   refine Tr.Ib _ _ _ hp (aK.Ut ?_)
   match m,hm' with
   |0,hm'=>cases hm'
   |m+1,hm'=>
    simp only [cO] at hm'
    cases hv:(t s).val with
    |inl s'=>
     rw [hv] at hm'
     exact ⟨m,by omega,j7 s' hv,hm'⟩
    |inr r'=>
     rw [hv] at hm'
     have:r'=run (fun s=>(t s).val) s0:=by rw [DD];exact Option.some.inj hm'
     exact hk r' this
 refine wpIn_mono (agY (ctx:=⟨tt,specs,X,lp,ys,its⟩) hT hC hm b hrf mJ au W n hX _ _ ZF aQ a1 w1 cy) ?_
 have cont: ∀e qF,L.kb g (fun v=>match v with| .inl s'=> ∃m',m'<m/\ Term (fun s=>(t s).val) (fun s=>Tr.pI i (t s).pre) s'/\ cO (fun s=>(t s).val) m' s'=some r| .inr r'=>aK.W9 L.xs g r' K) e qF->
   (match e with| .normal=> ∃m' st',m'<m/\ rF qF st'/\ ∃s,st'=L.Nj.fill g s/\ Term (fun s=>(t s).val) (fun s=>Tr.pI i (t s).pre) s/\ cO (fun s=>(t s).val) m' s=some r|e=>jN id (jy K) e qF):=by
  intro e qF hkb
  cases e with
  |normal=>
   obtain ⟨s',hw',m',h1,h2,h3⟩:=aK.MH hok.1 hkb
   exact ⟨m',_,h1,hw',s',rfl,h2,h3⟩
  |_=>exact aK.aas L.xs hok.2 hkb
 rintro e a2 w2 (⟨hx,qF,iY,hkb,eI⟩|⟨c',a3,w3,rfl,hp,hfr,qF,iY,hkb,eI⟩)
 ·exact .inl ⟨hx,qF,iY,cont e qF hkb,eI⟩
 ·exact .inr ⟨c',a3,w3,rfl,hp,hfr,qF,iY,cont pX qF hkb,eI⟩
end
end Go.Ev
