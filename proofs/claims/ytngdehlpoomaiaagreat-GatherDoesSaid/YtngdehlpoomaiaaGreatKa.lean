/- Plain laws: a disc's first points. -/
import Derived.Test.YtngdehlpoomaiaaGreatWe
import Derived.Test.YtngdehlpoomaiaaGreatLf
import Derived.Test.YtngdehlpoomaiaaGreatEvU
import Derived.Sort.Grow
import Derived.Lib.SlicesCompact
noncomputable section
set_option linter.unusedSectionVars false
set_option linter.unusedVariables false
set_option linter.unusedSimpArgs false
namespace Go.Proofs.YtngdehlpoomaiaaGreat
open Go Go.Ev Go.Proofs
theorem TR.iter {S R:Type} [Inhabited R] {step:S->S⊕R} {pre:S->Prop} (hp: ∀s,pre s): ∀ {m:Nat} {s:S} {r:R},cQ step m s=some r->TR step pre s fun q=>q=r
 |0,s,r,h=>by cases h
 |m+1,s,r,h=>by
  simp only [cQ] at h
  cases e:step s with
  |inl s'=>rw [e] at h;exact TR.go (hp s) e (TR.iter hp h)
  |inr r'=>rw [e] at h;exact TR.stop (hp s) e (Option.some.inj h)
def ap1 (b:Int):Nat->Int×(Int×Int)->Int×(Int×Int)
 |0,s=>s
 |k+1,s=>if s.2.2>0 then ap1 b k (s.1*b+s.2.2 % b,s.2.1*b,s.2.2 / b) else s
def wX (b i:Int):Int×Int:=((ap1 b 8 (0,1,i)).1,(ap1 b 8 (0,1,i)).2.1)
def ap2 (b:Int):Bool:=(List.range 64).all fun i=>match cQ (dw (b,(i:Int)) ()) 9 (0,1,(i:Int)) with
 |some r=>decide (r.1=(wX b i).1)&&(decide (r.2.1=(wX b i).2)&& !decide (r.2.1=0))
 |none=>false
theorem inv2:ap2 2=true:=by kernel_rfl
theorem avh:ap2 3=true:=by kernel_rfl
theorem VK {b i:Int} (hb:2<=b/\ b<=16) (ht:ap2 b=true) (hi:0<=i/\ i<64):tX (b,i)/\ hinv (b,i)=(wX b i,0)/\ (wX b i).2≠0:=by
 have h1:=List.all_eq_true.1 ht i.toNat (List.mem_range.2 (by omega))
 have ei:((i.toNat:Nat):Int)=i:=by omega
 rw [ei] at h1
 split at h1
 rotate_left
 ·cases h1
 rename_i r hr
 simp only [Bool.and_eq_true,decide_eq_true_eq,Bool.not_eq_true',decide_eq_false_iff_not] at h1
 have k:=TR.iter (pre:=iy (b,i) ()) (fun s _=>⟨by dsimp only;omega,by dsimp only;omega⟩) hr
 unfold tX hinv ak
 dsimp only
 refine ⟨fun _ _ _ _=>k.1,?_,by rw [<- h1.2.1];exact h1.2.2⟩
 rw [if_neg (by omega),if_neg (by omega),if_neg (by omega),if_neg (by omega),k.2,h1.1,h1.2.1]
def c6 (i:Int):Int×Int:=(65536*(wX 2 i).1 / (wX 2 i).2,65536*(wX 3 i).1 / (wX 3 i).2)
def aqo:Bool:=(List.range 64).all fun i=>decide (au (Int.tdiv (au (65536*(wX 2 i).1)) (wX 2 i).2)=(c6 i).1)&&decide (au (Int.tdiv (au (65536*(wX 3 i).1)) (wX 3 i).2)=(c6 i).2)
theorem ajw:aqo=true:=by kernel_rfl
theorem Zr {i:Int} (hi:0<=i/\ i<64):B7 i/\ Zp i=(c6 i,0):=by
 obtain ⟨a1,a2,a3⟩:=VK (b:=2) (by omega) inv2 hi
 obtain ⟨b1,b2,b3⟩:=VK (b:=3) (by omega) avh hi
 have h1:=List.all_eq_true.1 ajw i.toNat (List.mem_range.2 (by omega))
 have ei:((i.toNat:Nat):Int)=i:=by omega
 rw [ei] at h1
 simp only [Bool.and_eq_true,decide_eq_true_eq] at h1
 dsimp only [B7,Zp,Dq,Tr.val,Tr.pre];(try dsimp only [az,ak])
 rw [a2,b2]
 try dsimp only
 refine ⟨⟨a1,fun _=>⟨b1,a3,b3⟩⟩,?_⟩
 rw [if_neg (by decide),h1.1,h1.2]
def kX (n:Int) (s:List (Int×Int)×Int):(List (Int×Int)×Int)⊕List (Int×Int):=
 if (s.1.length:Int)<n then
  if Ab (c6 s.2)=true then .inl (s.1++ [(qB (c6 s.2).1,qB (c6 s.2).2)],s.2+1) else .inl (s.1,s.2+1)
 else .inr s.1
def YH:List (Int×Int):=match cQ (kX 24) 60 ([],1) with
 |some l=>l
 |none=> []
def arw:Bool:=(List.range 25).all fun n=>match cQ (kX n) 60 ([],1) with
 |some l=>decide (l=YH.take n)
 |none=>false
theorem abS:arw=true:=by kernel_rfl
theorem RY:YH.length=24:=by kernel_rfl
def avg:Bool:=YH.all fun d=>decide (-1024<=d.1/\ d.1<=1024)&&decide (-1024<=d.2/\ d.2<=1024)
theorem apZ:avg=true:=by kernel_rfl
theorem YI: ∀d∈YH,InD d:=fun d hd=>by
 have:=List.all_eq_true.1 apZ d hd
 simpa [InD] using this
theorem K1 (n:Int): ∀(m:Nat) (l:List (Int×Int)) (i:Int) (r:List (Int×Int)),1<=i->i+m<=64->l.length+m<=1000->cQ (kX n) m (l,i)=some r->TR (fe n) (jQ n) (l,i) fun q=>q=r
 |0,l,i,r,_,_,_,h=>by cases h
 |m+1,l,i,r,h1,h2,h3,h=>by
  obtain ⟨p1,p2⟩:=Zr (i:=i) (by omega)
  have hw:au (i+1)=i+1:=ax (by omega) (by omega)
  have hpre:jQ n (l,i):=by
   dsimp only [jQ,gg,Tr.val,Tr.pre];(try dsimp only [az,ak])
   exact fun _ _=>⟨p1,fun _=>by (try dsimp only);omega⟩
  simp only [cQ] at h
  have hstep:fe n (l,i)=kX n (l,i):=by
   unfold kX;dsimp only [fe,gg,Tr.val,Tr.pre];(try dsimp only [az,ak])
   rw [if_pos (by omega),p2,hw]
  by_cases hl:(l.length:Int)<n
  ·by_cases hin:Ab (c6 i)=true
   ·have e:kX n (l,i)= .inl (l++ [(qB (c6 i).1,qB (c6 i).2)],i+1):=by
     unfold kX;(try dsimp only);rw [if_pos hl,if_pos hin]
    rw [e] at h
    exact TR.go hpre (hstep.trans e) (K1 n m _ _ r (by omega) (by omega) (by simp;omega) h)
   ·have e:kX n (l,i)= .inl (l,i+1):=by
     unfold kX;(try dsimp only);rw [if_pos hl,if_neg hin]
    rw [e] at h
    exact TR.go hpre (hstep.trans e) (K1 n m _ _ r (by omega) (by omega) (by omega) h)
  ·have e:kX n (l,i)= .inr l:=by
    unfold kX;(try dsimp only);rw [if_neg hl]
   rw [e] at h
   exact TR.stop hpre (hstep.trans e) (Option.some.inj h)
theorem aeq {n:Int} (hn:0<=n/\ n<=24):z7 n/\ VI n=(YH.take n.toNat,0):=by
 have h1:=List.all_eq_true.1 abS n.toNat (List.mem_range.2 (by omega))
 have ei:((n.toNat:Nat):Int)=n:=by omega
 rw [ei] at h1
 split at h1
 rotate_left
 ·cases h1
 rename_i l hl
 have k:=K1 n 60 [] 1 l (by omega) (by omega) (by simp) hl
 unfold z7 VI ak
 refine ⟨fun _ _=>k.1,?_⟩
 rw [if_neg (by omega),if_neg (by omega),k.2,of_decide_eq_true h1]
end Go.Proofs.YtngdehlpoomaiaaGreat
namespace Go.Ev
open Go.RowKit
structure atQ where
 ka:Bool
 k:Ty
 u:Ty
structure FnG where
 p:mG
 r:atQ
 pre:p.ty.T->Prop
 f:p.ty.T->List (r.k.T×List r.u.T)
section
variable {P:Program} {tt:List (Nat×TI)} {specs:List (Nat×Spec)}
end
namespace Tr
variable {τ:Type}
end Tr
end Go.Ev
namespace Go.Ev
open Go.RowKit
inductive adC
 |ty (t:Ty)
 |rp (u:Ty)
 |ref (v:adC)
 |pair (a b:adC)
@[reducible] def adC.ty':adC->Ty
 | .ty t=>t
 | .rp u=>u
 | .ref v=>v.ty'
 | .pair a b=> .prod a.ty' b.ty'
inductive YM
 |arg (p:mG)
 |var (v:adC)
 |pair (a b:YM)
 |jO (f:FuncId) (a:YM)
 |mv (f:FuncId) (v:adC)
@[reducible] def YM.ty:YM->Ty
 | .arg p=>p.ty
 | .var v=>v.ty'
 | .pair a b=> .prod a.ty b.ty
 | .jO _ a=>a.ty
 | .mv _ v=>v.ty'
def YM.cap:YM->Bool
 | .arg p=>p.cap
 | .var _=>true
 | .pair a b=>a.cap&&b.cap
 |_=>false
structure FnQ where
 p:YM
 r:mG
 pre:p.ty.T->Prop
 f:p.ty.T->r.ty.T
section
variable {P:Program} {tt:List (Nat×TI)} {specs:List (Nat×Spec)}
end
namespace Tr
variable {τ:Type}
end Tr
end Go.Ev
namespace Go.Ev
open Go.RowKit
section
variable {P:Program} {f:FuncId}
end
end Go.Ev
namespace Go.Ev
open Go.RowKit
structure alo where
 ka:Bool
 k:Ty
 u:Ty
 q:mG
@[reducible] def alo.ty (d:alo):Ty:= .prod (.sl (.prod d.k (.sl d.u))) d.q.ty
structure FnL where
 p:alo
 r:mG
 pre:p.ty.T->Prop
 f:p.ty.T->r.ty.T×List (p.k.T×List p.u.T)
def O1 (d:alo) (x:d.ty.T):List AV:= .v (.one (.mp 0))::(aY 0 2 d.q x.2).1.map .v
section
variable {P:Program} {tt:List (Nat×TI)} {specs:List (Nat×Spec)}
end
namespace Tr
variable {τ:Type}
end Tr
end Go.Ev
namespace Go.Ev
open Go.RowKit
def ent (tE:TypeId) (c:Int):PanicEntry:= {v:= .iface tE (.int .i64 c),recovered:=false}
abbrev pN:Nat:=999983
abbrev pX:Exit:= .exit pN
abbrev PnT:=Int->Act->World->Act->World->Prop
abbrev Jv (av:fG) (W:World) (st:AS) (ρ:Env) (a:Act) (w:World):Prop:=AtD av W [] st ρ a w
theorem Jv.weak {av:fG} {W:World} {st st':AS} {ρ:Env} {a:Act} {w:World} (h:Jv av W st ρ a w) (hw:uS st st'): ∃ρ',Jv av W st' ρ' a w:=by
 obtain ⟨ρ',h'⟩:=h.aX.weak hw
 exact ⟨ρ',h.nd,h.dd,h'⟩
def UM (av:fG) (W:World) (K:Exit->AS->Prop):Exit->Act->World->Prop:=fun e a w=> ∃st ρ,K e st/\ Jv av W st ρ a w
theorem Ma {av:fG} {W:World} {K:Exit->AS->Prop} {e:Exit} {a:Act} {w:World} (h:UM av W (kN K) e a w):UM av W K e a w:=by
 obtain ⟨st,ρ,⟨st',hw,hk⟩,aQ⟩:=h
 obtain ⟨ρ',dr⟩:=Jv.weak aQ hw
 exact ⟨st',ρ',hk,dr⟩
def AR (tE:TypeId) (Pn:PnT) (av:fG) (W:World) (K:Exit->AS->Prop):Exit->Act->World->Prop:=fun e a w=>
 (e≠pX/\ UM av W K e a w)\/ ∃c a' w',e= .panic [ent tE c]/\ Pn c a w a' w'/\ Fr av W w/\ UM av W K pX a' w'
def Ow:Code->Bool
 | .seq a b=>Ow a&&Ow b
 | .cond _ a b=>Ow a&&Ow b
 | .loop c=>Ow c
 | .block id c=> !Nat.beq id pN&&Ow c
 | .exit id=> !Nat.beq id pN
 | .rangeFunc .. =>false
 |_=>true
def gC (rs:List Nat):Code->Code
 | .seq a b=> .seq (gC rs a) (gC rs b)
 | .cond c a b=> .cond c (gC rs a) (gC rs b)
 | .loop c=> .loop (gC rs c)
 | .block id c=> .block id (gC rs c)
 | .region id ops draw=>if Ce id rs then .block (1000000+id) .skip else .region id ops draw
 |c=>c
def Ak (rs:List Nat):Code->List (Nat×Code)
 | .seq a b=>Ak rs a++Ak rs b
 | .cond _ a b=>Ak rs a++Ak rs b
 | .loop c=>Ak rs c
 | .block id c=>(id,.block id c)::Ak rs c
 | .region id ops draw=>if Ce id rs then [(1000000+id,.region id ops draw)] else []
 |_=> []
def acn:Code->Bool
 | .region .. =>true
 |_=>false
section
variable {P:Program} {ctx:Ctx} {av:fG} {W:World} {tE:TypeId} {Pn:PnT} {rs:List Nat}
def FQ (P:Program) (X:Addr->Value->Prop) (tE:TypeId) (Pn:PnT) (sp:br) (c:Code):Prop:= ∀av W n,uR av W X-> ∀st K,sp st K-> ∀ρ a w,Jv av W st ρ a w->c.wpIn (fw none) n P (AR tE Pn av W K) a w
def YL (P:Program) (ctx:Ctx) (tE:TypeId) (Pn:PnT) (rs:List Nat) (c:Code):Prop:= ∀p∈Ak rs c,match aL ctx.lp p.1 with
 |some sp=>FQ P ctx.X tE Pn sp p.2
 |none=>acn p.2=false
theorem aad {K:Exit->AS->Prop} {e:Exit} {a:Act} {w:World} (h:AR tE Pn av W (kN K) e a w):AR tE Pn av W K e a w:=by
 rcases h with h|⟨c,a',w',h1,h2,h3⟩
 ·exact .inl ⟨h.1,Ma h.2⟩
 ·exact .inr ⟨c,a',w',h1,h2,h3.1,Ma h3.2⟩
theorem O3 {n id:Nat} (ru:id≠pN) {c:Code} {K:Exit->AS->Prop} {a:Act} {w:World} (h:c.wpIn (fw none) n P (AR tE Pn av W (lA id K)) a w):(Code.block id c).wpIn (fw none) n P (AR tE Pn av W K) a w:=by
 refine wpIn_block (wpIn_mono h ?_)
 rintro e a' w' (⟨hx,st',ρ',hk,dr⟩|⟨c,a2,w2,rfl,hp,h⟩)
 ·cases e with
  |exit id'=>
   simp only [Exit.inBlock]
   simp only [lA] at hk
   split at hk
   ·rename_i e;rw [if_pos e];exact .inl ⟨by simp,st',ρ',hk,dr⟩
   ·rename_i e;rw [if_neg e];exact .inl ⟨hx,st',ρ',hk,dr⟩
  |_=>exact .inl ⟨hx,st',ρ',hk,dr⟩
 ·refine .inr ⟨c,a2,w2,rfl,hp,h.1,?_⟩
  obtain ⟨st',ρ',hk,dr⟩:=h.2
  simp only [lA,if_neg ru.symm] at hk
  exact ⟨st',ρ',hk,dr⟩
theorem Wa {c:Code} {n:Nat} {I:Nat->AS->Prop} {Kx:Exit->AS->Prop}
  (ih: ∀m st,I m st-> ∀ρ a w,Jv av W st ρ a w->c.wpIn (fw none) n P (AR tE Pn av W fun e tC=>match e with| .normal=> ∃m' st',m'<m/\ uS tC st'/\ I m' st'|e=>Kx e tC) a w)
  {m:Nat} {st stw:AS} (hw0:uS st stw) (h0:I m stw) {ρ:Env} {a:Act} {w:World} (aQ:Jv av W st ρ a w):(Code.loop c).wpIn (fw none) n P (AR tE Pn av W Kx) a w:=by
 intro b k cs hro hb hroom
 have key: ∀m a w,(∃st ρ,I m st/\ Jv av W st ρ a w)-> ∃e a' w',AR tE Pn av W Kx e a' w'/\ ArrivesIn (Machine.fenced P (fw none)) P (lone (b.atR a (.code c:: .inLoop c::k)) cs w) b k cs e a' w':=by
  intro m
  induction m using Nat.strongRecOn with
  |_ m ihm=>
   rintro a w ⟨st,ρ,hI,aQ⟩
   obtain ⟨e,a1,w1,hq,jh⟩:=ih m st hI ρ a w aQ b (.inLoop c::k) cs hro hb hroom
   rcases hq with ⟨hx,mE,aR,hk,cN⟩|⟨c',a2,w2,rfl,hp,h⟩
   ·cases e with
    |normal=>
     obtain ⟨m',st',hm,hw,hI'⟩:=hk
     obtain ⟨jZ,fc⟩:=Jv.weak cN hw
     obtain ⟨e2,a2,w2,hq2,Lk⟩:=ihm m' hm a1 w1 ⟨st',jZ,hI',fc⟩
     exact ⟨e2,a2,w2,hq2,.of_steps (StepsIn.trans jh (.one (fenced_calm hb hroom rfl) stepR_inLoop)) Lk⟩
    |exit id=>exact ⟨_,a1,w1,.inl ⟨hx,mE,aR,hk,cN⟩,.pass (x:= .inLoop c) rfl (fun _ _=> .inl (by simp)) jh⟩
    |goto l=>exact ⟨_,a1,w1,.inl ⟨hx,mE,aR,hk,cN⟩,.pass (x:= .inLoop c) rfl (fun _ _=> .inl (by simp)) jh⟩
    |ret=>exact ⟨_,a1,w1,.inl ⟨hx,mE,aR,hk,cN⟩,.pass (x:= .inLoop c) rfl (fun _ _=> .inl (by simp)) jh⟩
    |panic ch=>exact ⟨_,a1,w1,.inl ⟨hx,mE,aR,hk,cN⟩,.pass (x:= .inLoop c) rfl (fun _ _=> .inl (by simp)) jh⟩
    |outgrown=>exact ⟨_,a1,w1,.inl ⟨hx,mE,aR,hk,cN⟩,.pass (x:= .inLoop c) rfl (fun _ _=> .inl (by simp)) jh⟩
   ·exact ⟨_,a1,w1,.inr ⟨c',a2,w2,rfl,hp,h⟩,.pass (x:= .inLoop c) rfl (fun _ _=> .inl (by simp)) jh⟩
 obtain ⟨aW,Ji⟩:=Jv.weak aQ hw0
 obtain ⟨e,a',w',hq,jh⟩:=key m a w ⟨stw,aW,h0,Ji⟩
 exact ⟨e,a',w',hq,.of_steps (.one (fenced_calm hb hroom rfl) stepR_loop) jh⟩
theorem YL.sub {c d:Code} (h:YL P ctx tE Pn rs c) (hs: ∀p∈Ak rs d,p∈Ak rs c):YL P ctx tE Pn rs d:=fun p hp=>h p (hs p hp)
theorem J2 (hT:di P ctx.tt) (hC:e8 P ctx) (hm:P.follows .mixedOrders=true) {id n:Nat} {ops:Array Oper} {draw:Bool} (hX:uR av W ctx.X) {st:AS} {K:Exit->AS->Prop} (h:jW ctx ops draw st (K .normal)) {ρ:Env} {a:Act} {w:World} (aQ:Jv av W st ρ a w):
  (Code.region id ops draw).wpIn (fw none) n P (AR tE Pn av W K) a w:=by
 have hX':=hX.v5 aQ.aX.st
 cases draw with
 |false=>
  have h:oM ctx ops ops.toList [] st [] fun st' _=>K .normal st':=h
  exact wpIn_region_list (kM hT hC hX' ops ops.toList [] st [] _ h (fun st' _ ρ' a' w' hk dr=> .inl ⟨by simp,st',ρ',hk,aQ.back dr⟩) ρ a w aQ.base)
 |true=>
  refine wpIn_mono (abU hT hC.sp hm hX' none n id ops st (K .normal) h ρ a w aQ.base) ?_
  rintro e a' w' ⟨st',ρ',⟨rfl,hk⟩,dr⟩
  exact .inl ⟨by simp,st',ρ',hk,aQ.back dr⟩
theorem apl (hT:di P ctx.tt) (hC:e8 P ctx) (hm:P.follows .mixedOrders=true): ∀(c:Code),Ow c=true->YL P ctx tE Pn rs c-> ∀av W n,uR av W ctx.X-> ∀st K,cJ ctx (gC rs c) st K-> ∀ρ a w,Jv av W st ρ a w->c.wpIn (fw none) n P (AR tE Pn av W K) a w:=by
 intro c
 induction c with
 |skip=>intro _ _ av W n hX st K h ρ a w aQ;exact wpIn_skip (.inl ⟨by simp,st,ρ,h,aQ⟩)
 |exit id=>intro hx _ av W n hX st K h ρ a w aQ;exact wpIn_exit (.inl ⟨fun e=>(by injection e with e;subst e;simp [Ow] at hx),st,ρ,h,aQ⟩)
 |ret=>intro _ _ av W n hX st K h ρ a w aQ;exact wpIn_ret (.inl ⟨by simp,st,ρ,h,aQ⟩)
 |region id ops draw=>
  intro _ oL av W n hX st K h ρ a w aQ
  unfold gC at h
  split at h
  ·rename_i hr
   have:=oL (1000000+id,.region id ops draw) (by simp [Ak,hr])
   dsimp only at this
   unfold cJ at h
   split at h
   ·rename_i sp hsp
    rw [hsp] at this
    exact this av W n hX st K h ρ a w aQ
   ·rename_i hsp
    rw [hsp] at this
    cases this
  ·exact J2 hT hC hm hX h aQ
 |seq x y ihx ihy=>
  intro hrf oL av W n hX st K h ρ a w aQ
  simp only [Ow,Bool.and_eq_true] at hrf
  refine wpIn_seq (wpIn_mono (ihx hrf.1 (oL.sub fun p hp=>by simp [Ak,hp]) av W n hX st _ h ρ a w aQ) ?_)
  rintro e a' w' (⟨hx,st',ρ',hk,dr⟩|⟨c,a2,w2,rfl,hp,h⟩)
  ·cases e with
   |normal=>exact ihy hrf.2 (oL.sub fun p hp=>by simp [Ak,hp]) av W n hX st' K hk ρ' a' w' dr
   |_=>exact .inl ⟨hx,st',ρ',hk,dr⟩
  ·exact .inr ⟨c,a2,w2,rfl,hp,h⟩
 |cond c x y ihx ihy=>
  intro hrf oL av W n hX st K h ρ a w aQ
  simp only [Ow,Bool.and_eq_true] at hrf
  unfold gC cJ at h
  split at h
  ·rename_i t hc
   have:=aQ.aX.eval c (by rw [hc];simp)
   rw [hc] at this
   exact wpIn_cond_split this (fun ht=>ihx hrf.1 (oL.sub fun p hp=>by simp [Ak,hp]) av W n hX st K (by subst ht;exact h) ρ a w aQ) (fun ht=>ihy hrf.2 (oL.sub fun p hp=>by simp [Ak,hp]) av W n hX st K (by subst ht;exact h) ρ a w aQ)
  ·exact h.elim
 |block id c ih=>
  intro hrf oL av W n hX st K h ρ a w aQ
  have h1:=oL (id,.block id c) (by simp [Ak])
  simp only [Ow,Bool.and_eq_true,Bool.not_eq_true'] at hrf
  have ru:id≠pN:=fun e=>by rw [e] at hrf;simp at hrf
  have hrf:=hrf.2
  unfold gC cJ at h
  dsimp only at h1
  split at h
  ·rename_i sp hsp
   rw [hsp] at h1
   exact h1 av W n hX st K h ρ a w aQ
  ·exact O3 ru (ih hrf (oL.sub fun p hp=>by simp [Ak,hp]) av W n hX st _ h ρ a w aQ)
 |loop c ih=>
  intro hrf oL av W n hX st K h ρ a w aQ
  obtain ⟨I,⟨m,stw,hw0,h0⟩,hr⟩:=h
  exact Wa (fun m st hI ρ a w aQ=>ih hrf (oL.sub fun p hp=>hp) av W n hX st _ (hr m st hI) ρ a w aQ) hw0 h0 aQ
 |rangeFunc g ps assign body _ _=>intro hrf;cases hrf
 |_=>intro _ _ av W n hX st K h;exact h.elim
def jg (P:Program) (X:Addr->Value->Prop) (tE:TypeId) (Pn:PnT) (rs:List Nat) (c:Code) (lp:List (Nat×br)):Prop:=
 ∀id sp d,aL lp id=some sp->(id,d)∈Ak rs c->FQ P X tE Pn sp d
def Kz (lp:List (Nat×br)):List (Nat×Code)->Bool
 | []=>true
 |p::r=>(!acn p.2||(aL lp p.1).isSome)&&Kz lp r
theorem KA {lp:List (Nat×br)} : ∀ {l:List (Nat×Code)},Kz lp l=true-> ∀p∈l,acn p.2=true->(aL lp p.1).isSome=true
 | [],_,p,hp=>by cases hp
 |q::r,h,p,hp=>by
  simp only [Kz,Bool.and_eq_true,Bool.or_eq_true,Bool.not_eq_true'] at h
  rcases List.mem_cons.1 hp with rfl|hp
  ·intro hr;rcases h.1 with h1|h1
   ·rw [hr] at h1;cases h1
   ·exact h1
  ·exact KA h.2 p hp
theorem jg.lpG {c d:Code} (h:jg P ctx.X tE Pn rs c ctx.lp) (hs: ∀p∈Ak rs d,p∈Ak rs c) (ha:Kz ctx.lp (Ak rs d)=true):YL P ctx tE Pn rs d:=by
 intro p hp
 have h1:=h p.1
 split
 ·rename_i sp hsp
  exact h1 sp p.2 hsp (hs p hp)
 ·rename_i hsp
  cases hr:acn p.2 with
  |false=>rfl
  |true=>
   have:=KA ha p hp hr
   rw [hsp] at this;cases this
theorem jg.nil {X:Addr->Value->Prop} {c:Code} :jg P X tE Pn rs c []:=fun _ _ _ h=>by cases h
theorem vD: ∀ {c:Code} {id:Nat} {b:Code},(id,Code.block id b)∈Ak rs c-> ∀q∈Ak rs b,q∈Ak rs c
 | .seq a b,_,_,h,q,hq=>by
  simp only [Ak,List.mem_append] at h ⊢
  exact h.imp (fun h=>vD h q hq) fun h=>vD h q hq
 | .cond _ a b,_,_,h,q,hq=>by
  simp only [Ak,List.mem_append] at h ⊢
  exact h.imp (fun h=>vD h q hq) fun h=>vD h q hq
 | .loop c,_,_,h,q,hq=>vD (c:=c) h q hq
 | .block i c,_,_,h,q,hq=>by
  simp only [Ak,List.mem_cons] at h ⊢
  rcases h with h|h
  ·simp only [Prod.mk.injEq,Code.block.injEq] at h
   obtain ⟨rfl,_,rfl⟩:=h
   exact .inr hq
  ·exact .inr (vD h q hq)
 | .region i ops draw,_,_,h,_,_=>by
  simp only [Ak] at h
  split at h
  ·simp at h
  ·cases h
 | .skip,_,_,h,_,_=>by cases h
 | .exit _,_,_,h,_,_=>by cases h
 | .scope _,_,_,h,_,_=>by cases h
 | .label _,_,_,h,_,_=>by cases h
 | .goto _,_,_,h,_,_=>by cases h
 | .ret,_,_,h,_,_=>by cases h
 | .refuse _,_,_,h,_,_=>by cases h
 | .rangeFunc _ _ _ _,_,_,h,_,_=>by cases h
theorem yf {α:Type} : ∀ {l:List (Nat×α)} {k:Nat} {a:α},aL l k=some a->(k,a)∈l
 | [],_,_,h=>by cases h
 |p::r,k,a,h=>by
  unfold aL at h
  split at h
  ·rename_i e;cases h;subst e;exact List.mem_cons_self ..
  ·exact List.mem_cons_of_mem _ (yf h)
theorem HJ {α:Type} : ∀ {l:List (Nat×α)} {k:Nat} {a b:α},(l.map (·.1)).Nodup->(k,a)∈l->(k,b)∈l->a=b
 | [],_,_,_,_,h,_=>by cases h
 |p::r,k,a,b,hn,h1,h2=>by
  simp only [List.map_cons,List.nodup_cons,List.mem_map] at hn
  rcases List.mem_cons.1 h1 with h3|h3<;>rcases List.mem_cons.1 h2 with h4|h4
  ·rw [<- h3] at h4;injection h4 with _ h4;exact h4.symm
  ·exact absurd ⟨_,h4,by rw [<- h3]⟩ hn.1
  ·exact absurd ⟨_,h3,by rw [<- h4]⟩ hn.1
  ·exact HJ hn.2 h3 h4
end
section
variable {P:Program} {tt:List (Nat×TI)} {specs:List (Nat×Spec)} {X:Addr->Value->Prop} {lp:List (Nat×br)} {ys:List (Nat×Spec)} {its:List (Nat×cP)} {tE:TypeId} {Pn:PnT} {rs:List Nat}
theorem jg.cons {c d:Code} {id:Nat} {sp:br} (hl:jg P X tE Pn rs c lp) (hk:(cZ ((Ak rs c).map (·.1)),aL (Ak rs c) id)=(true,some d)) (h:FQ P X tE Pn sp d):jg P X tE Pn rs c ((id,sp)::lp):=by
 simp only [Prod.mk.injEq] at hk
 intro id' sp' d' hs hd
 unfold aL at hs
 split at hs
 ·rename_i e;subst e;cases hs
  rw [<- HJ (ef hk.1) (yf hk.2) hd];exact h
 ·exact hl id' sp' d' hs hd
theorem jg.tr (hT:di P tt) (hC:e8 P ⟨tt,specs,X,lp,ys,its⟩) (hm:P.follows .mixedOrders=true) {c:Code} (id:Nat) (b:Code) (L:aI) {i:Bool} (t:L.S->Tr (L.S⊕L.R) i) (hl:jg P X tE Pn rs c lp)
  (hk:(cZ ((Ak rs c).map (·.1)),aL (Ak rs c) id,L.ok id,Kz lp (Ak rs b),Ow b,Nat.beq id pN)=(true,some (.block id (.loop b)),true,true,true,false))
  (h: ∀g s Q,cJ ⟨tt,specs,X,lp,ys,its⟩ (gC rs b) (L.SX.fill g s) (L.kb g Q)=(t s).wp (L.post g Q) (Ov L.gt g)):jg P X tE Pn rs c ((id,L.sp t)::lp):=by
 simp only [Prod.mk.injEq] at hk
 obtain ⟨hk1,hk2,hok,ha,hrf,ru⟩:=hk
 have ru:id≠pN:=fun e=>by rw [e] at ru;simp at ru
 refine hl.cons (Prod.ext hk1 hk2) ?_
 intro av W n hX st K hs ρ a w aQ
 have oL:YL P ⟨tt,specs,X,lp,ys,its⟩ tE Pn rs b:=jg.lpG (ctx:=⟨tt,specs,X,lp,ys,its⟩) (c:=c) hl (fun p hp=>vD (yf hk2) p hp) ha
 have hok:L.SX.ok=true/\ aI.xOk id L.xs=true:=by simpa [aI.ok] using hok
 unfold aI.sp at hs
 split at hs
 rotate_left
 ·exact hs.elim
 rename_i g c' s0 hrd
 obtain ⟨hc,VR,hk⟩:=hs
 have hw:=wU.T5 hok.1 hrd hc
 obtain ⟨r,m,hn⟩:=VR.iter
 have Jn:=GR hn
 refine wpIn_mono (O3 ru (K:=kN K) ?_) fun _ _ _ h=>aad h
 refine Wa (I:=fun m st=> ∃s,st=L.SX.fill g s/\ Term (fun s=>(t s).val) (fun s=>Tr.pI i (t s).pre) s/\ cQ (fun s=>(t s).val) m s=some r) (m:=m) ?_ hw ⟨s0,rfl,VR,hn⟩ aQ
 rintro m mE ⟨s,rfl,hts,hm'⟩ aR a1 w1 cN
 have ah7:cJ ⟨tt,specs,X,lp,ys,its⟩ (gC rs b) (L.SX.fill g s) (L.kb g fun v=>match v with| .inl s'=> ∃m',m'<m/\ Term (fun s=>(t s).val) (fun s=>Tr.pI i (t s).pre) s'/\ cQ (fun s=>(t s).val) m' s'=some r| .inr r'=>aI.afc L.xs g r' K):=by
  rw [h]
  cases hts with
  |mk _ hp lO=>
   refine Tr.N6 _ _ _ hp (aI.acK ?_)
   match m,hm' with
   |0,hm'=>cases hm'
   |m+1,hm'=>
    simp only [cQ] at hm'
    cases hv:(t s).val with
    |inl s'=>
     rw [hv] at hm'
     exact ⟨m,by omega,lO s' hv,hm'⟩
    |inr r'=>
     rw [hv] at hm'
     have:r'=run (fun s=>(t s).val) s0:=by rw [Jn];exact Option.some.inj hm'
     exact hk r' this
 refine wpIn_mono (apl (ctx:=⟨tt,specs,X,lp,ys,its⟩) hT hC hm b hrf oL av W n hX _ _ ah7 aR a1 w1 cN) ?_
 have cont: ∀e tC,L.kb g (fun v=>match v with| .inl s'=> ∃m',m'<m/\ Term (fun s=>(t s).val) (fun s=>Tr.pI i (t s).pre) s'/\ cQ (fun s=>(t s).val) m' s'=some r| .inr r'=>aI.afc L.xs g r' K) e tC->
   (match e with| .normal=> ∃m' st',m'<m/\ uS tC st'/\ ∃s,st'=L.SX.fill g s/\ Term (fun s=>(t s).val) (fun s=>Tr.pI i (t s).pre) s/\ cQ (fun s=>(t s).val) m' s=some r|e=>lA id (kN K) e tC):=by
  intro e tC hkb
  cases e with
  |normal=>
   obtain ⟨s',hw',m',h1,h2,h3⟩:=aI.T4 hok.1 hkb
   exact ⟨m',_,h1,hw',s',rfl,h2,h3⟩
  |_=>exact aI.aiT L.xs hok.2 hkb
 rintro e a2 w2 (⟨hx,tC,jZ,hkb,fc⟩|⟨c',a3,w3,rfl,hp,hfr,tC,jZ,hkb,fc⟩)
 ·exact .inl ⟨hx,tC,jZ,cont e tC hkb,fc⟩
 ·exact .inr ⟨c',a3,w3,rfl,hp,hfr,tC,jZ,cont pX tC hkb,fc⟩
end
end Go.Ev
