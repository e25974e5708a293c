/- Plain laws: a disc's first points. -/
import Derived.Test.YtngdehlpoomaiaaGreatMb
import Derived.Test.YtngdehlpoomaiaaGreatLf
import Derived.Test.YtngdehlpoomaiaaGreatEvU
import Derived.Sort.Grow
import Derived.Lib.SlicesCompact
noncomputable section
set_option linter.unusedSectionVars false
set_option linter.unusedVariables false
set_option linter.unusedSimpArgs false
namespace Go.Proofs.YtngdehlpoomaiaaGreat
open Go Go.Ev Go.Proofs
theorem TR.iter {S R:Type} [Inhabited R] {step:S->S⊕R} {pre:S->Prop} (hp: ∀s,pre s): ∀ {m:Nat} {s:S} {r:R},c6 step m s=some r->TR step pre s fun q=>q=r
 |0,s,r,h=>by cases h
 |m+1,s,r,h=>by
  simp only [c6] at h
  cases e:step s with
  |inl s'=>rw [e] at h;exact TR.go (hp s) e (TR.iter hp h)
  |inr r'=>rw [e] at h;exact TR.stop (hp s) e (Option.some.inj h)
def agq (b:Int):Nat->Int×(Int×Int)->Int×(Int×Int)
 |0,s=>s
 |k+1,s=>if s.2.2>0 then agq b k (s.1*b+s.2.2 % b,s.2.1*b,s.2.2 / b) else s
def Dj (b i:Int):Int×Int:=((agq b 8 (0,1,i)).1,(agq b 8 (0,1,i)).2.1)
def agr (b:Int):Bool:=(List.range 64).all fun i=>match c6 (da (b,(i:Int)) ()) 9 (0,1,(i:Int)) with
 |some r=>decide (r.1=(Dj b i).1)&&(decide (r.2.1=(Dj b i).2)&& !decide (r.2.1=0))
 |none=>false
theorem inv2:agr 2=true:=by kernel_rfl
theorem alz:agr 3=true:=by kernel_rfl
theorem Nx {b i:Int} (hb:2<=b/\ b<=16) (ht:agr b=true) (hi:0<=i/\ i<64):l9 (b,i)/\ hinv (b,i)=(Dj b i,0)/\ (Dj b i).2≠0:=by
 have h1:=List.all_eq_true.1 ht i.toNat (List.mem_range.2 (by omega))
 have ei:((i.toNat:Nat):Int)=i:=by omega
 rw [ei] at h1
 split at h1
 rotate_left
 ·cases h1
 rename_i r hr
 simp only [Bool.and_eq_true,decide_eq_true_eq,Bool.not_eq_true',decide_eq_false_iff_not] at h1
 have k:=TR.iter (pre:=gl (b,i) ()) (fun s _=>⟨by dsimp only;omega,by dsimp only;omega⟩) hr
 unfold l9 hinv aj
 dsimp only
 refine ⟨fun _ _ _ _=>k.1,?_,by rw [<- h1.2.1];exact h1.2.2⟩
 rw [if_neg (by omega),if_neg (by omega),if_neg (by omega),if_neg (by omega),k.2,h1.1,h1.2.1]
def sk (i:Int):Int×Int:=(65536*(Dj 2 i).1 / (Dj 2 i).2,65536*(Dj 3 i).1 / (Dj 3 i).2)
def agQ:Bool:=(List.range 64).all fun i=>decide (au (Int.tdiv (au (65536*(Dj 2 i).1)) (Dj 2 i).2)=(sk i).1)&&decide (au (Int.tdiv (au (65536*(Dj 3 i).1)) (Dj 3 i).2)=(sk i).2)
theorem aai:agQ=true:=by kernel_rfl
theorem QU {i:Int} (hi:0<=i/\ i<64):rR i/\ Fh i=(sk i,0):=by
 obtain ⟨a1,a2,a3⟩:=Nx (b:=2) (by omega) inv2 hi
 obtain ⟨b1,b2,b3⟩:=Nx (b:=3) (by omega) alz hi
 have h1:=List.all_eq_true.1 aai i.toNat (List.mem_range.2 (by omega))
 have ei:((i.toNat:Nat):Int)=i:=by omega
 rw [ei] at h1
 simp only [Bool.and_eq_true,decide_eq_true_eq] at h1
 unfold rR Fh aB aj
 rw [a2,b2]
 dsimp only
 refine ⟨⟨a1,fun _=>⟨b1,a3,b3⟩⟩,?_⟩
 rw [if_neg (by decide),h1.1,h1.2]
def tI (n:Int) (s:List (Int×Int)×Int):(List (Int×Int)×Int)⊕List (Int×Int):=
 if (s.1.length:Int)<n then
  if zg (sk s.2)=true then .inl (s.1++ [(rQ (sk s.2).1,rQ (sk s.2).2)],s.2+1) else .inl (s.1,s.2+1)
 else .inr s.1
def D24:List (Int×Int):=match c6 (tI 24) 60 ([],1) with
 |some l=>l
 |none=> []
def ahU:Bool:=(List.range 25).all fun n=>match c6 (tI n) 60 ([],1) with
 |some l=>decide (l=D24.take n)
 |none=>false
theorem ab9:ahU=true:=by kernel_rfl
theorem Sv:D24.length=24:=by kernel_rfl
def aly:Bool:=D24.all fun d=>decide (-1024<=d.1/\ d.1<=1024)&&decide (-1024<=d.2/\ d.2<=1024)
theorem ago:aly=true:=by kernel_rfl
theorem Xp: ∀d∈D24,InD d:=fun d hd=>by
 have:=List.all_eq_true.1 ago d hd
 simpa [InD] using this
theorem EJ (n:Int): ∀(m:Nat) (l:List (Int×Int)) (i:Int) (r:List (Int×Int)),1<=i->i+m<=64->l.length+m<=1000->c6 (tI n) m (l,i)=some r->TR (eU n) (iX n) (l,i) fun q=>q=r
 |0,l,i,r,_,_,_,h=>by cases h
 |m+1,l,i,r,h1,h2,h3,h=>by
  obtain ⟨p1,p2⟩:=QU (i:=i) (by omega)
  have hw:au (i+1)=i+1:=aC (by omega) (by omega)
  have hpre:iX n (l,i):=by
   unfold iX aB
   exact fun _ _=>⟨p1,fun _=>by dsimp only;omega⟩
  simp only [c6] at h
  have hstep:eU n (l,i)=tI n (l,i):=by
   unfold eU tI aj
   dsimp only
   rw [if_pos (by omega),p2,hw]
  by_cases hl:(l.length:Int)<n
  ·by_cases hin:zg (sk i)=true
   ·have e:tI n (l,i)= .inl (l++ [(rQ (sk i).1,rQ (sk i).2)],i+1):=by
     unfold tI;dsimp only;rw [if_pos hl,if_pos hin]
    rw [e] at h
    exact TR.go hpre (hstep.trans e) (EJ n m _ _ r (by omega) (by omega) (by simp;omega) h)
   ·have e:tI n (l,i)= .inl (l,i+1):=by
     unfold tI;dsimp only;rw [if_pos hl,if_neg hin]
    rw [e] at h
    exact TR.go hpre (hstep.trans e) (EJ n m _ _ r (by omega) (by omega) (by omega) h)
  ·have e:tI n (l,i)= .inr l:=by
    unfold tI;dsimp only;rw [if_neg hl]
   rw [e] at h
   exact TR.stop hpre (hstep.trans e) (Option.some.inj h)
theorem Vv {n:Int} (hn:0<=n/\ n<=24):vV n/\ Nv n=(D24.take n.toNat,0):=by
 have h1:=List.all_eq_true.1 ab9 n.toNat (List.mem_range.2 (by omega))
 have ei:((n.toNat:Nat):Int)=n:=by omega
 rw [ei] at h1
 split at h1
 rotate_left
 ·cases h1
 rename_i l hl
 have k:=EJ n 60 [] 1 l (by omega) (by omega) (by simp) hl
 unfold vV Nv aj
 refine ⟨fun _ _=>k.1,?_⟩
 rw [if_neg (by omega),if_neg (by omega),k.2,of_decide_eq_true h1]
end Go.Proofs.YtngdehlpoomaiaaGreat
namespace Go.Ev
open Go.RowKit
structure aj6 where
 ka:Bool
 k:Ty
 u:Ty
structure FnG where
 p:lF
 r:aj6
 pre:p.ty.T->Prop
 f:p.ty.T->List (r.k.T×List r.u.T)
section
variable {P:Program} {tt:List (Nat×TI)} {specs:List (Nat×Spec)}
end
namespace Tr
variable {τ:Type}
end Tr
end Go.Ev
namespace Go.Ev
open Go.RowKit
inductive Uy
 |ty (t:Ty)
 |rp (u:Ty)
 |ref (v:Uy)
 |pair (a b:Uy)
@[reducible] def Uy.ty':Uy->Ty
 | .ty t=>t
 | .rp u=>u
 | .ref v=>v.ty'
 | .pair a b=> .prod a.ty' b.ty'
inductive Qf
 |arg (p:lF)
 |var (v:Uy)
 |pair (a b:Qf)
 |iT (f:FuncId) (a:Qf)
 |mv (f:FuncId) (v:Uy)
@[reducible] def Qf.ty:Qf->Ty
 | .arg p=>p.ty
 | .var v=>v.ty'
 | .pair a b=> .prod a.ty b.ty
 | .iT _ a=>a.ty
 | .mv _ v=>v.ty'
def Qf.cap:Qf->Bool
 | .arg p=>p.cap
 | .var _=>true
 | .pair a b=>a.cap&&b.cap
 |_=>false
structure FnQ where
 p:Qf
 r:lF
 pre:p.ty.T->Prop
 f:p.ty.T->r.ty.T
section
variable {P:Program} {tt:List (Nat×TI)} {specs:List (Nat×Spec)}
end
namespace Tr
variable {τ:Type}
end Tr
end Go.Ev
namespace Go.Ev
open Go.RowKit
section
variable {P:Program} {f:FuncId}
end
end Go.Ev
namespace Go.Ev
open Go.RowKit
structure abO where
 ka:Bool
 k:Ty
 u:Ty
 q:lF
@[reducible] def abO.ty (d:abO):Ty:= .prod (.sl (.prod d.k (.sl d.u))) d.q.ty
structure FnL where
 p:abO
 r:lF
 pre:p.ty.T->Prop
 f:p.ty.T->r.ty.T×List (p.k.T×List p.u.T)
def Im (d:abO) (x:d.ty.T):List AV:= .v (.one (.mp 0))::(bf 0 2 d.q x.2).1.map .v
section
variable {P:Program} {tt:List (Nat×TI)} {specs:List (Nat×Spec)}
end
namespace Tr
variable {τ:Type}
end Tr
end Go.Ev
namespace Go.Ev
open Go.RowKit
def ent (tE:TypeId) (c:Int):PanicEntry:= {v:= .iface tE (.int .i64 c),recovered:=false}
abbrev pN:Nat:=999983
abbrev pX:Exit:= .exit pN
abbrev SD:=Int->Act->World->Act->World->Prop
abbrev D5 (aq:e8) (W:World) (st:AS) (ρ:Env) (a:Act) (w:World):Prop:=AtD aq W [] st ρ a w
theorem D5.weak {aq:e8} {W:World} {st st':AS} {ρ:Env} {a:Act} {w:World} (h:D5 aq W st ρ a w) (hw:rq st st'): ∃ρ',D5 aq W st' ρ' a w:=by
 obtain ⟨ρ',h'⟩:=h.bz.weak hw
 exact ⟨ρ',h.nd,h.dd,h'⟩
def MB (aq:e8) (W:World) (K:Exit->AS->Prop):Exit->Act->World->Prop:=fun e a w=> ∃st ρ,K e st/\ D5 aq W st ρ a w
theorem FQ {aq:e8} {W:World} {K:Exit->AS->Prop} {e:Exit} {a:Act} {w:World} (h:MB aq W (jE K) e a w):MB aq W K e a w:=by
 obtain ⟨st,ρ,⟨st',hw,hk⟩,aR⟩:=h
 obtain ⟨ρ',c9⟩:=D5.weak aR hw
 exact ⟨st',ρ',hk,c9⟩
def wP (tE:TypeId) (Pn:SD) (aq:e8) (W:World) (K:Exit->AS->Prop):Exit->Act->World->Prop:=fun e a w=>
 (e≠pX/\ MB aq W K e a w)\/ ∃c a' w',e= .panic [ent tE c]/\ Pn c a w a' w'/\ Fr aq W w/\ MB aq W K pX a' w'
def Js:Code->Bool
 | .seq a b=>Js a&&Js b
 | .cond _ a b=>Js a&&Js b
 | .loop c=>Js c
 | .block id c=> !Nat.beq id pN&&Js c
 | .exit id=> !Nat.beq id pN
 | .rangeFunc .. =>false
 |_=>true
def gC (rs:List Nat):Code->Code
 | .seq a b=> .seq (gC rs a) (gC rs b)
 | .cond c a b=> .cond c (gC rs a) (gC rs b)
 | .loop c=> .loop (gC rs c)
 | .block id c=> .block id (gC rs c)
 | .region id ops draw=>if xZ id rs then .block (1000000+id) .skip else .region id ops draw
 |c=>c
def wk (rs:List Nat):Code->List (Nat×Code)
 | .seq a b=>wk rs a++wk rs b
 | .cond _ a b=>wk rs a++wk rs b
 | .loop c=>wk rs c
 | .block id c=>(id,.block id c)::wk rs c
 | .region id ops draw=>if xZ id rs then [(1000000+id,.region id ops draw)] else []
 |_=> []
def Tb:Code->Bool
 | .region .. =>true
 |_=>false
section
variable {P:Program} {ctx:Ctx} {aq:e8} {W:World} {tE:TypeId} {Pn:SD} {rs:List Nat}
def D8 (P:Program) (X:Addr->Value->Prop) (tE:TypeId) (Pn:SD) (sp:bC) (c:Code):Prop:= ∀aq W n,ru aq W X-> ∀st K,sp st K-> ∀ρ a w,D5 aq W st ρ a w->c.wpIn (fw none) n P (wP tE Pn aq W K) a w
def SA (P:Program) (ctx:Ctx) (tE:TypeId) (Pn:SD) (rs:List Nat) (c:Code):Prop:= ∀p∈wk rs c,match aI ctx.lp p.1 with
 |some sp=>D8 P ctx.X tE Pn sp p.2
 |none=>Tb p.2=false
theorem RJ {K:Exit->AS->Prop} {e:Exit} {a:Act} {w:World} (h:wP tE Pn aq W (jE K) e a w):wP tE Pn aq W K e a w:=by
 rcases h with h|⟨c,a',w',h1,h2,h3⟩
 ·exact .inl ⟨h.1,FQ h.2⟩
 ·exact .inr ⟨c,a',w',h1,h2,h3.1,FQ h3.2⟩
theorem Ip {n id:Nat} (oK:id≠pN) {c:Code} {K:Exit->AS->Prop} {a:Act} {w:World} (h:c.wpIn (fw none) n P (wP tE Pn aq W (jU id K)) a w):(Code.block id c).wpIn (fw none) n P (wP tE Pn aq W K) a w:=by
 refine wpIn_block (wpIn_mono h ?_)
 rintro e a' w' (⟨hx,st',ρ',hk,c9⟩|⟨c,a2,w2,rfl,hp,h⟩)
 ·cases e with
  |exit id'=>
   simp only [Exit.inBlock]
   simp only [jU] at hk
   split at hk
   ·rename_i e;rw [if_pos e];exact .inl ⟨by simp,st',ρ',hk,c9⟩
   ·rename_i e;rw [if_neg e];exact .inl ⟨hx,st',ρ',hk,c9⟩
  |_=>exact .inl ⟨hx,st',ρ',hk,c9⟩
 ·refine .inr ⟨c,a2,w2,rfl,hp,h.1,?_⟩
  obtain ⟨st',ρ',hk,c9⟩:=h.2
  simp only [jU,if_neg oK.symm] at hk
  exact ⟨st',ρ',hk,c9⟩
theorem N6 {c:Code} {n:Nat} {I:Nat->AS->Prop} {Kx:Exit->AS->Prop}
  (ih: ∀m st,I m st-> ∀ρ a w,D5 aq W st ρ a w->c.wpIn (fw none) n P (wP tE Pn aq W fun e qx=>match e with| .normal=> ∃m' st',m'<m/\ rq qx st'/\ I m' st'|e=>Kx e qx) a w)
  {m:Nat} {st stw:AS} (hw0:rq st stw) (h0:I m stw) {ρ:Env} {a:Act} {w:World} (aR:D5 aq W st ρ a w):(Code.loop c).wpIn (fw none) n P (wP tE Pn aq W Kx) a w:=by
 intro b k cs hro hb hroom
 have key: ∀m a w,(∃st ρ,I m st/\ D5 aq W st ρ a w)-> ∃e a' w',wP tE Pn aq W Kx e a' w'/\ ArrivesIn (Machine.fenced P (fw none)) P (lone (b.atR a (.code c:: .inLoop c::k)) cs w) b k cs e a' w':=by
  intro m
  induction m using Nat.strongRecOn with
  |_ m ihm=>
   rintro a w ⟨st,ρ,hI,aR⟩
   obtain ⟨e,a1,w1,hq,ia⟩:=ih m st hI ρ a w aR b (.inLoop c::k) cs hro hb hroom
   rcases hq with ⟨hx,lC,aX,hk,di⟩|⟨c',a2,w2,rfl,hp,h⟩
   ·cases e with
    |normal=>
     obtain ⟨m',st',hm,hw,hI'⟩:=hk
     obtain ⟨jb,fF⟩:=D5.weak di hw
     obtain ⟨e2,a2,w2,hq2,E1⟩:=ihm m' hm a1 w1 ⟨st',jb,hI',fF⟩
     exact ⟨e2,a2,w2,hq2,.of_steps (StepsIn.trans ia (.one (fenced_calm hb hroom rfl) stepR_inLoop)) E1⟩
    |exit id=>exact ⟨_,a1,w1,.inl ⟨hx,lC,aX,hk,di⟩,.pass (x:= .inLoop c) rfl (fun _ _=> .inl (by simp)) ia⟩
    |goto l=>exact ⟨_,a1,w1,.inl ⟨hx,lC,aX,hk,di⟩,.pass (x:= .inLoop c) rfl (fun _ _=> .inl (by simp)) ia⟩
    |ret=>exact ⟨_,a1,w1,.inl ⟨hx,lC,aX,hk,di⟩,.pass (x:= .inLoop c) rfl (fun _ _=> .inl (by simp)) ia⟩
    |panic ch=>exact ⟨_,a1,w1,.inl ⟨hx,lC,aX,hk,di⟩,.pass (x:= .inLoop c) rfl (fun _ _=> .inl (by simp)) ia⟩
    |outgrown=>exact ⟨_,a1,w1,.inl ⟨hx,lC,aX,hk,di⟩,.pass (x:= .inLoop c) rfl (fun _ _=> .inl (by simp)) ia⟩
   ·exact ⟨_,a1,w1,.inr ⟨c',a2,w2,rfl,hp,h⟩,.pass (x:= .inLoop c) rfl (fun _ _=> .inl (by simp)) ia⟩
 obtain ⟨aZ,Df⟩:=D5.weak aR hw0
 obtain ⟨e,a',w',hq,ia⟩:=key m a w ⟨stw,aZ,h0,Df⟩
 exact ⟨e,a',w',hq,.of_steps (.one (fenced_calm hb hroom rfl) stepR_loop) ia⟩
theorem SA.sub {c d:Code} (h:SA P ctx tE Pn rs c) (hs: ∀p∈wk rs d,p∈wk rs c):SA P ctx tE Pn rs d:=fun p hp=>h p (hs p hp)
theorem L4 (hT:aK P ctx.tt) (hC:fq P ctx) (hm:P.follows .mixedOrders=true) {id n:Nat} {ops:Array Oper} {draw:Bool} (hX:ru aq W ctx.X) {st:AS} {K:Exit->AS->Prop} (h:lP ctx ops draw st (K .normal)) {ρ:Env} {a:Act} {w:World} (aR:D5 aq W st ρ a w):
  (Code.region id ops draw).wpIn (fw none) n P (wP tE Pn aq W K) a w:=by
 have hX':=hX.uN aR.bz.st
 cases draw with
 |false=>
  have h:nj ctx ops ops.toList [] st [] fun st' _=>K .normal st':=h
  exact wpIn_region_list (jD hT hC hX' ops ops.toList [] st [] _ h (fun st' _ ρ' a' w' hk c9=> .inl ⟨by simp,st',ρ',hk,aR.back c9⟩) ρ a w aR.base)
 |true=>
  refine wpIn_mono (SR hT hC.sp hm hX' none n id ops st (K .normal) h ρ a w aR.base) ?_
  rintro e a' w' ⟨st',ρ',⟨rfl,hk⟩,c9⟩
  exact .inl ⟨by simp,st',ρ',hk,aR.back c9⟩
theorem afN (hT:aK P ctx.tt) (hC:fq P ctx) (hm:P.follows .mixedOrders=true): ∀(c:Code),Js c=true->SA P ctx tE Pn rs c-> ∀aq W n,ru aq W ctx.X-> ∀st K,cJ ctx (gC rs c) st K-> ∀ρ a w,D5 aq W st ρ a w->c.wpIn (fw none) n P (wP tE Pn aq W K) a w:=by
 intro c
 induction c with
 |skip=>intro _ _ aq W n hX st K h ρ a w aR;exact wpIn_skip (.inl ⟨by simp,st,ρ,h,aR⟩)
 |exit id=>intro hx _ aq W n hX st K h ρ a w aR;exact wpIn_exit (.inl ⟨fun e=>(by injection e with e;subst e;simp [Js] at hx),st,ρ,h,aR⟩)
 |ret=>intro _ _ aq W n hX st K h ρ a w aR;exact wpIn_ret (.inl ⟨by simp,st,ρ,h,aR⟩)
 |region id ops draw=>
  intro _ mL aq W n hX st K h ρ a w aR
  unfold gC at h
  split at h
  ·rename_i hr
   have:=mL (1000000+id,.region id ops draw) (by simp [wk,hr])
   dsimp only at this
   unfold cJ at h
   split at h
   ·rename_i sp hsp
    rw [hsp] at this
    exact this aq W n hX st K h ρ a w aR
   ·rename_i hsp
    rw [hsp] at this
    cases this
  ·exact L4 hT hC hm hX h aR
 |seq x y ihx ihy=>
  intro hrf mL aq W n hX st K h ρ a w aR
  simp only [Js,Bool.and_eq_true] at hrf
  refine wpIn_seq (wpIn_mono (ihx hrf.1 (mL.sub fun p hp=>by simp [wk,hp]) aq W n hX st _ h ρ a w aR) ?_)
  rintro e a' w' (⟨hx,st',ρ',hk,c9⟩|⟨c,a2,w2,rfl,hp,h⟩)
  ·cases e with
   |normal=>exact ihy hrf.2 (mL.sub fun p hp=>by simp [wk,hp]) aq W n hX st' K hk ρ' a' w' c9
   |_=>exact .inl ⟨hx,st',ρ',hk,c9⟩
  ·exact .inr ⟨c,a2,w2,rfl,hp,h⟩
 |cond c x y ihx ihy=>
  intro hrf mL aq W n hX st K h ρ a w aR
  simp only [Js,Bool.and_eq_true] at hrf
  unfold gC cJ at h
  split at h
  ·rename_i t hc
   have:=aR.bz.eval c (by rw [hc];simp)
   rw [hc] at this
   exact wpIn_cond_split this (fun ht=>ihx hrf.1 (mL.sub fun p hp=>by simp [wk,hp]) aq W n hX st K (by subst ht;exact h) ρ a w aR) (fun ht=>ihy hrf.2 (mL.sub fun p hp=>by simp [wk,hp]) aq W n hX st K (by subst ht;exact h) ρ a w aR)
  ·exact h.elim
 |block id c ih=>
  intro hrf mL aq W n hX st K h ρ a w aR
  have h1:=mL (id,.block id c) (by simp [wk])
  simp only [Js,Bool.and_eq_true,Bool.not_eq_true'] at hrf
  have oK:id≠pN:=fun e=>by rw [e] at hrf;simp at hrf
  have hrf:=hrf.2
  unfold gC cJ at h
  dsimp only at h1
  split at h
  ·rename_i sp hsp
   rw [hsp] at h1
   exact h1 aq W n hX st K h ρ a w aR
  ·exact Ip oK (ih hrf (mL.sub fun p hp=>by simp [wk,hp]) aq W n hX st _ h ρ a w aR)
 |loop c ih=>
  intro hrf mL aq W n hX st K h ρ a w aR
  obtain ⟨I,⟨m,stw,hw0,h0⟩,hr⟩:=h
  exact N6 (fun m st hI ρ a w aR=>ih hrf (mL.sub fun p hp=>hp) aq W n hX st _ (hr m st hI) ρ a w aR) hw0 h0 aR
 |rangeFunc g ps assign body _ _=>intro hrf;cases hrf
 |_=>intro _ _ aq W n hX st K h;exact h.elim
def jV (P:Program) (X:Addr->Value->Prop) (tE:TypeId) (Pn:SD) (rs:List Nat) (c:Code) (lp:List (Nat×bC)):Prop:=
 ∀id sp d,aI lp id=some sp->(id,d)∈wk rs c->D8 P X tE Pn sp d
def Eh (lp:List (Nat×bC)):List (Nat×Code)->Bool
 | []=>true
 |p::r=>(!Tb p.2||(aI lp p.1).isSome)&&Eh lp r
theorem Ei {lp:List (Nat×bC)} : ∀ {l:List (Nat×Code)},Eh lp l=true-> ∀p∈l,Tb p.2=true->(aI lp p.1).isSome=true
 | [],_,p,hp=>by cases hp
 |q::r,h,p,hp=>by
  simp only [Eh,Bool.and_eq_true,Bool.or_eq_true,Bool.not_eq_true'] at h
  rcases List.mem_cons.1 hp with rfl|hp
  ·intro hr;rcases h.1 with h1|h1
   ·rw [hr] at h1;cases h1
   ·exact h1
  ·exact Ei h.2 p hp
theorem jV.lpG {c d:Code} (h:jV P ctx.X tE Pn rs c ctx.lp) (hs: ∀p∈wk rs d,p∈wk rs c) (ha:Eh ctx.lp (wk rs d)=true):SA P ctx tE Pn rs d:=by
 intro p hp
 have h1:=h p.1
 split
 ·rename_i sp hsp
  exact h1 sp p.2 hsp (hs p hp)
 ·rename_i hsp
  cases hr:Tb p.2 with
  |false=>rfl
  |true=>
   have:=Ei ha p hp hr
   rw [hsp] at this;cases this
theorem jV.nil {X:Addr->Value->Prop} {c:Code} :jV P X tE Pn rs c []:=fun _ _ _ h=>by cases h
theorem sj: ∀ {c:Code} {id:Nat} {b:Code},(id,Code.block id b)∈wk rs c-> ∀q∈wk rs b,q∈wk rs c
 | .seq a b,_,_,h,q,hq=>by
  simp only [wk,List.mem_append] at h ⊢
  exact h.imp (fun h=>sj h q hq) fun h=>sj h q hq
 | .cond _ a b,_,_,h,q,hq=>by
  simp only [wk,List.mem_append] at h ⊢
  exact h.imp (fun h=>sj h q hq) fun h=>sj h q hq
 | .loop c,_,_,h,q,hq=>sj (c:=c) h q hq
 | .block i c,_,_,h,q,hq=>by
  simp only [wk,List.mem_cons] at h ⊢
  rcases h with h|h
  ·simp only [Prod.mk.injEq,Code.block.injEq] at h
   obtain ⟨rfl,_,rfl⟩:=h
   exact .inr hq
  ·exact .inr (sj h q hq)
 | .region i ops draw,_,_,h,_,_=>by
  simp only [wk] at h
  split at h
  ·simp at h
  ·cases h
 | .skip,_,_,h,_,_=>by cases h
 | .exit _,_,_,h,_,_=>by cases h
 | .scope _,_,_,h,_,_=>by cases h
 | .label _,_,_,h,_,_=>by cases h
 | .goto _,_,_,h,_,_=>by cases h
 | .ret,_,_,h,_,_=>by cases h
 | .refuse _,_,_,h,_,_=>by cases h
 | .rangeFunc _ _ _ _,_,_,h,_,_=>by cases h
theorem uG {α:Type} : ∀ {l:List (Nat×α)} {k:Nat} {a:α},aI l k=some a->(k,a)∈l
 | [],_,_,h=>by cases h
 |p::r,k,a,h=>by
  unfold aI at h
  split at h
  ·rename_i e;cases h;subst e;exact List.mem_cons_self ..
  ·exact List.mem_cons_of_mem _ (uG h)
theorem Cv {α:Type} : ∀ {l:List (Nat×α)} {k:Nat} {a b:α},(l.map (·.1)).Nodup->(k,a)∈l->(k,b)∈l->a=b
 | [],_,_,_,_,h,_=>by cases h
 |p::r,k,a,b,hn,h1,h2=>by
  simp only [List.map_cons,List.nodup_cons,List.mem_map] at hn
  rcases List.mem_cons.1 h1 with h3|h3<;>rcases List.mem_cons.1 h2 with h4|h4
  ·rw [<- h3] at h4;injection h4 with _ h4;exact h4.symm
  ·exact absurd ⟨_,h4,by rw [<- h3]⟩ hn.1
  ·exact absurd ⟨_,h3,by rw [<- h4]⟩ hn.1
  ·exact Cv hn.2 h3 h4
end
section
variable {P:Program} {tt:List (Nat×TI)} {specs:List (Nat×Spec)} {X:Addr->Value->Prop} {lp:List (Nat×bC)} {ys:List (Nat×Spec)} {its:List (Nat×cX)} {tE:TypeId} {Pn:SD} {rs:List Nat}
theorem jV.cons {c d:Code} {id:Nat} {sp:bC} (hl:jV P X tE Pn rs c lp) (hk:(dy ((wk rs c).map (·.1)),aI (wk rs c) id)=(true,some d)) (h:D8 P X tE Pn sp d):jV P X tE Pn rs c ((id,sp)::lp):=by
 simp only [Prod.mk.injEq] at hk
 intro id' sp' d' hs hd
 unfold aI at hs
 split at hs
 ·rename_i e;subst e;cases hs
  rw [<- Cv (dQ hk.1) (uG hk.2) hd];exact h
 ·exact hl id' sp' d' hs hd
theorem jV.tr (hT:aK P tt) (hC:fq P ⟨tt,specs,X,lp,ys,its⟩) (hm:P.follows .mixedOrders=true) {c:Code} (id:Nat) (b:Code) (L:aL) {i:Bool} (t:L.S->Tr (L.S⊕L.R) i) (hl:jV P X tE Pn rs c lp)
  (hk:(dy ((wk rs c).map (·.1)),aI (wk rs c) id,L.ok id,Eh lp (wk rs b),Js b,Nat.beq id pN)=(true,some (.block id (.loop b)),true,true,true,false))
  (h: ∀g s Q,cJ ⟨tt,specs,X,lp,ys,its⟩ (gC rs b) (L.Mx.fill g s) (L.kb g Q)=(t s).wp (L.post g Q) (LV L.gt g)):jV P X tE Pn rs c ((id,L.sp t)::lp):=by
 simp only [Prod.mk.injEq] at hk
 obtain ⟨Xj,hk2,hok,ha,hrf,oK⟩:=hk
 have oK:id≠pN:=fun e=>by rw [e] at oK;simp at oK
 refine hl.cons (Prod.ext Xj hk2) ?_
 intro aq W n hX st K hs ρ a w aR
 have mL:SA P ⟨tt,specs,X,lp,ys,its⟩ tE Pn rs b:=jV.lpG (ctx:=⟨tt,specs,X,lp,ys,its⟩) (c:=c) hl (fun p hp=>sj (uG hk2) p hp) ha
 have hok:L.Mx.ok=true/\ aL.xOk id L.xs=true:=by simpa [aL.ok] using hok
 unfold aL.sp at hs
 split at hs
 rotate_left
 ·exact hs.elim
 rename_i g c' s0 hrd
 obtain ⟨hc,NJ,hk⟩:=hs
 have hw:=sY.L3 hok.1 hrd hc
 obtain ⟨r,m,hn⟩:=NJ.iter
 have HV:=BO hn
 refine wpIn_mono (Ip oK (K:=jE K) ?_) fun _ _ _ h=>RJ h
 refine N6 (I:=fun m st=> ∃s,st=L.Mx.fill g s/\ Term (fun s=>(t s).val) (fun s=>Tr.pI i (t s).pre) s/\ c6 (fun s=>(t s).val) m s=some r) (m:=m) ?_ hw ⟨s0,rfl,NJ,hn⟩ aR
 rintro m lC ⟨s,rfl,hts,hm'⟩ aX a1 w1 di
 have YV:cJ ⟨tt,specs,X,lp,ys,its⟩ (gC rs b) (L.Mx.fill g s) (L.kb g fun v=>match v with| .inl s'=> ∃m',m'<m/\ Term (fun s=>(t s).val) (fun s=>Tr.pI i (t s).pre) s'/\ c6 (fun s=>(t s).val) m' s'=some r| .inr r'=>aL.Wp L.xs g r' K):=by
  rw [h]
  cases hts with
  |mk _ hp kq=>
   refine Tr.Hz _ _ _ hp (aL.TC ?_)
   match m,hm' with
   |0,hm'=>cases hm'
   |m+1,hm'=>
    simp only [c6] at hm'
    cases hv:(t s).val with
    |inl s'=>
     rw [hv] at hm'
     exact ⟨m,by omega,kq s' hv,hm'⟩
    |inr r'=>
     rw [hv] at hm'
     have:r'=run (fun s=>(t s).val) s0:=by rw [HV];exact Option.some.inj hm'
     exact hk r' this
 refine wpIn_mono (afN (ctx:=⟨tt,specs,X,lp,ys,its⟩) hT hC hm b hrf mL aq W n hX _ _ YV aX a1 w1 di) ?_
 have cont: ∀e qx,L.kb g (fun v=>match v with| .inl s'=> ∃m',m'<m/\ Term (fun s=>(t s).val) (fun s=>Tr.pI i (t s).pre) s'/\ c6 (fun s=>(t s).val) m' s'=some r| .inr r'=>aL.Wp L.xs g r' K) e qx->
   (match e with| .normal=> ∃m' st',m'<m/\ rq qx st'/\ ∃s,st'=L.Mx.fill g s/\ Term (fun s=>(t s).val) (fun s=>Tr.pI i (t s).pre) s/\ c6 (fun s=>(t s).val) m' s=some r|e=>jU id (jE K) e qx):=by
  intro e qx hkb
  cases e with
  |normal=>
   obtain ⟨s',hw',m',h1,h2,h3⟩:=aL.L2 hok.1 hkb
   exact ⟨m',_,h1,hw',s',rfl,h2,h3⟩
  |_=>exact aL.ZD L.xs hok.2 hkb
 rintro e a2 w2 (⟨hx,qx,jb,hkb,fF⟩|⟨c',a3,w3,rfl,hp,hfr,qx,jb,hkb,fF⟩)
 ·exact .inl ⟨hx,qx,jb,cont e qx hkb,fF⟩
 ·exact .inr ⟨c',a3,w3,rfl,hp,hfr,qx,jb,cont pX qx hkb,fF⟩
end
end Go.Ev
