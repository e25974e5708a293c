/- Models: a new caster, the document's rows. -/
import Derived.Test.YtngdehlpoomaiaaGreatLk
import Derived.Test.YtngdehlpoomaiaaGreatKa
noncomputable section
set_option linter.unusedSectionVars false
set_option linter.unusedVariables false
set_option linter.unusedSimpArgs false
namespace Go.Proofs.YtngdehlpoomaiaaGreat
open Go Go.Ev Go.Proofs
abbrev Uk:Type:=(List I9×Int×Int×Int×Int×List (Int×I3×I3×I2))
def at9 (x:I9):Bool:=
 (ak (oP [x.1,x.2.1,x.2.2]) fun y=>
 (!y))
def ahA (x:I9):Prop:=
 (hO [x.1,x.2.1,x.2.2])
def apd (x:I9):Tr Bool true:=
 (.fn eN [x.1,x.2.1,x.2.2] fun y=>
 (.ret (!y)))
abbrev Sv:bF:=⟨(.agg cO),(.one Ty.bool),ahA,at9⟩
theorem al4:aq Tryz.prog 25 (ah Sv):=aM Sv apd (fn:=Tryz.f25) MJ
def ac0:List (Nat×Ev.Spec):=(25,ah Sv)::acW
theorem CF:aj Tryz.prog ac0:=aA (fn:=Tryz.f25) al4 MJ
def PE (x:(List I9×Bool)):aI:=⟨[],⟨cj 19 0 [(0,.v (.one (.full 0))),(1,.v (.one (.jO 25 0 []))),(7,.v (.one (.i .i64))),(8,.v (.one (.i .i64)))],[.row cO 0],0,none,[],[0,2],[1],[.i],[.i (x.1.length:Int),.l cO x.1]⟩,[⟨.ret,.ret,⟨cj 19 0 [(4,.v (.one (.i .i64)))],[],0,none,[],[],[0],[.i],[]⟩⟩,⟨(.exit 0),.normal,⟨cj 19 0 [],[],0,none,[],[],[],[],[]⟩⟩]⟩
def rT (x:(List I9×Bool)) (s:Int):Tr (Int⊕(Int⊕Unit)) true:=
 (.i10 (s<(x.1.length:Int))
 (.oR s (x.1.length:Int)
 (.od (s.toNat<x.1.length)
 (.od (s.toNat<x.1.length)
 (.fn Sv (x.1.getD s.toNat Ju) fun y=>
 (.iY y
 (.ret (.inr (Sum.inl s)))
 (.ret (.inl (au (s+1)))))))))
 (.ret (.inr (Sum.inr (())))))
abbrev x3 (x:(List I9×Bool)) (s:Int):Int⊕(Int⊕Unit):=(rT x s).val
abbrev Oq (x:(List I9×Bool)) (s:Int):Prop:=(rT x s).pre
def aiC (x:(List I9×Bool)):Int:=
 (ak (run (x3 x) 0) fun r=>
 (Sum.elim (fun a=>
 a) (fun b=>
 (-1)) r))
def LD (x:(List I9×Bool)):Prop:=
 (Term (x3 x) (Oq x) 0)
def aiD (x:(List I9×Bool)):Tr Int true:=
 (aI.lp (PE x) (rT x) z0 fun r=>
 (.Jr r (fun a=>
 (.ret a)) (fun b=>
 (.ret (-1)))))
abbrev xZ:bF:=⟨(.pair (.one (Ty.sl cO)) (.jO 25 .none)),(.one yi),LD,aiC⟩
theorem aeB:aq Tryz.prog 59 (ah xZ):=bS xZ aiD (fn:=Tryz.f59) CF (aH.nil _ _) (fun x=>(bX CF 0 (PE x) (rT x) aK.nil))
def Q7:List (Nat×Ev.Spec):=(59,zD xZ.p (ah xZ) (ah xY))::ac0
theorem EK:aj Tryz.prog Q7:=aA (fn:=Tryz.f59) (uT aeB (PD)) CF
def mP (x:(List I9×Bool)):Bool:=
 (ak (aiC (x.1,false)) fun y=>
 (decide (y>=0)))
def j9 (x:(List I9×Bool)):Prop:=
 (LD (x.1,false))
def Ve (x:(List I9×Bool)):Tr Bool true:=
 (.fn xZ (x.1,false) fun y=>
 (.ret (decide (y>=z0))))
abbrev e9:bF:=⟨(.pair (.one (Ty.sl cO)) (.jO 25 .none)),(.one Ty.bool),j9,mP⟩
theorem Sh:aq Tryz.prog 27 (ah e9):=aM e9 Ve (fn:=Tryz.f27) EK
def EB:List (Nat×Ev.Spec):=(27,zD e9.p (ah e9) (ah nZ))::Q7
theorem wM:aj Tryz.prog EB:=aA (fn:=Tryz.f27) (uT Sh (C4)) EK
def C2 (x:(List I9)):Tr (List I9) true:=
 (.nil (fun b=>((0<x.length)->(b=false))) fun b=>
 (.gG b
 (.ret [])
 (.od ((0+x.length)<1099511627776)
 (.ret ((List.replicate 0 Ju)++x)))))
def KS (x:(List I9)):(List I9):=(C2 x).val
def uX (x:(List I9)):Prop:=(C2 x).pre
abbrev nY:bF:=⟨(.one (Ty.sl cO)),(.one (Ty.sl cO)),uX,KS⟩
theorem adP:aq Tryz.prog 28 (ah nY):=bS nY C2 (fn:=Tryz.f28) wM (aH.dead 28 (fn:=Tryz.f28) (by kernel_rfl)) (fun x=>aK.nil)
def QN:List (Nat×Ev.Spec):=(28,ah nY)::EB
theorem Ey:aj Tryz.prog QN:=aA (fn:=Tryz.f28) adP wM
def Pf (x:Uk):Bool:=
 (if ((x.1.length:Int)<=8) then
 (if ((x.2.2.2.2.2.length:Int)<=10) then
 (if (x.2.1<=12) then
 true else
 (decide (x.2.1>64))) else
 false) else
 false)
def aec (_:Uk):Prop:=True
def al7 (x:Uk):Tr Bool false:=
 (.iz ((nL x.1)<=8)
 (.iz ((nL x.2.2.2.2.2)<=10)
 (.iz (x.2.1<=12)
 (.ret true)
 (.ret (decide (x.2.1>64))))
 (.ret false))
 (.ret false))
abbrev JC:bF:=⟨(.pair (.one (Ty.sl cO)) (.agg (Ty.prod yi (Ty.prod yi (Ty.prod yi (Ty.prod yi (Ty.sl (Ty.prod yi (Ty.prod aG (Ty.prod aG dh)))))))))),(.one Ty.bool),aec,Pf⟩
theorem ahB:aq Tryz.prog 8 (ah JC):=aM JC al7 (fn:=Tryz.f8) Ey
def Xy:List (Nat×Ev.Spec):=(8,ah JC)::QN
theorem yV:aj Tryz.prog Xy:=aA (fn:=Tryz.f8) ahB Ey
def Vx:Od Tryz.prog:=⟨_,(aH.walk bt yV mixed 9 (fn:=Tryz.f9) (by kernel_rfl) (aH.nil _ _) fun ys hy=>aK.nil)⟩
def vl (x:Bool):Tr Bool true:=
 (.CX
 (.fn e9 ([],false) fun y=>
 (.b11 y
 (.pn 0 3
 (.CX
 (.fn e9 ([(((-4000),(-4000),100),(4000,(-4000),100),0,8000,100)],false) fun aB=>
 (.b11 aB
 (.pn 1 5
 (.fn sJ ((4,512,0,100,[]),bn,0,0,1) fun y_2=>
 (.fn sJ ((4,512,0,100,[]),bn,0,0,1) fun bI=>
 (.fn iL ((0,0,10,0,[]),(5,uQ),0,0,1) fun dG=>
 (.fn sJ ((4,512,0,100,[]),bn,0,0,1) fun tw=>
 (.fn iL ((4,512,0,100,[]),(4161,uQ),0,0,1) fun Kh=>
 (.ret false)))))))
 (.fn nY [(((-4000),(-4000),100),(4000,(-4000),100),0,8000,100)] fun y_2=>
 (.pn 1 5
 (.fn sJ ((4,512,0,100,[]),bn,0,0,1) fun bI=>
 (.fn BN (y_2,[],[],bn,(4,512,0,100),bn,0,0,1) fun dG=>
 (.fn iL ((0,0,10,0,[]),(5,uQ),0,0,1) fun tw=>
 (.fn sJ ((4,512,0,100,[]),bn,0,0,1) fun Kh=>
 (.fn iL ((4,512,0,100,[]),(4161,uQ),0,0,1) fun y_7=>
 (.ret false))))))))))))
 (.fn nY [] fun aB=>
 (.pn 0 3
 (.CX
 (.fn e9 ([(((-4000),(-4000),100),(4000,(-4000),100),0,8000,100)],false) fun y_2=>
 (.b11 y_2
 (.pn 1 7
 (.fn BN (aB,[],[],bn,(4,512,0,100),bn,0,0,1) fun bI=>
 (.fn sJ ((4,512,0,100,[]),bn,0,0,1) fun dG=>
 (.fn iL ((0,0,10,0,[]),(5,uQ),0,0,1) fun tw=>
 (.fn sJ ((4,512,0,100,[]),bn,0,0,1) fun Kh=>
 (.fn iL ((4,512,0,100,[]),(4161,uQ),0,0,1) fun y_7=>
 (.ret false)))))))
 (.fn nY [(((-4000),(-4000),100),(4000,(-4000),100),0,8000,100)] fun bI=>
 (.pn 1 7
 (.fn BN (aB,[],[],bn,(4,512,0,100),bn,0,0,1) fun dG=>
 (.fn BN (bI,[],[],bn,(4,512,0,100),bn,0,0,1) fun tw=>
 (.fn iL ((0,0,10,0,[]),(5,uQ),0,0,1) fun Kh=>
 (.fn sJ ((4,512,0,100,[]),bn,0,0,1) fun y_7=>
 (.fn iL ((4,512,0,100,[]),(4161,uQ),0,0,1) fun y_8=>
 (.BQ (dG.1.2==0)
 (.BQ (dG.1.1==100)
 (.BQ (tw.1.2==0)
 (.BQ (tw.1.1==0)
 (.BQ (Kh.2==0)
 (.BQ ((Kh.1.1==5)&&((Kh.1.2.1==0)&&((Kh.1.2.2==10)&&true)))
 (.BQ (y_7.2==1)
 (.BQ (y_8.2==5)
 (.fn Hr (4,512,0,100,[]) fun y_9=>
 (.BQ y_9
 (.fn Hr (65,0,0,0,[]) fun aqI=>
 (.ret (!aqI)))
 (.ret false)))
 (.ret false))
 (.ret false))
 (.ret false))
 (.ret false))
 (.ret false))
 (.ret false))
 (.ret false))
 (.ret false)))))))))))))))))
def Lh (x:Bool):Bool:=(vl x).val
def vk (x:Bool):Prop:=(vl x).pre
abbrev mV:bF:=⟨.none,(.one Ty.bool),vk,Lh⟩
theorem Vy:aq Tryz.prog 10 (ah mV):=bS mV vl (fn:=Tryz.f10) yV Vx.ok (fun x=>aK.nil)
def fC:List (Nat×Ev.Spec):=(10,ah mV)::Xy
theorem eO:aj Tryz.prog fC:=aA (fn:=Tryz.f10) Vy yV
end Go.Proofs.YtngdehlpoomaiaaGreat
namespace Go.Proofs.YtngdehlpoomaiaaGreat
open Go Go.Ev Go.Proofs
abbrev zA:Type:=Int×(P3×P3×Int×Int)
abbrev Jb:Type:=Int×(Int×Int×Int×List zA)
def de (l:zA):Prop:=(1<=l.1/\ l.1<=3)/\ (0<=l.2.2.2.1/\ l.2.2.2.1<=255)/\ (0<=l.2.2.2.2/\ l.2.2.2.2<=1024)/\ (dB l.2.1/\ dB l.2.2.1)/\ (l.1=2\/ l.2.2.1≠(0,0,0))
instance (l:zA):Decidable (de l):=by unfold de;infer_instance
theorem HK (n m:Int):S9 (n,m)=decide (0<=n/\ n<=m):=by
 unfold S9
 dsimp only
 by_cases h:n>=0
 ·rw [if_pos h,Bool.eq_iff_iff];simp;omega
 ·rw [if_neg h,Bool.eq_iff_iff];simp;omega
theorem n8 (n m:Int):SI (n,m)=decide (0<=n/\ n<=m):=by
 unfold SI
 dsimp only
 by_cases h:n>=0
 ·rw [if_pos h,Bool.eq_iff_iff];simp;omega
 ·rw [if_neg h,Bool.eq_iff_iff];simp;omega
theorem GM (l:zA):vu l/\ S7 l=decide (de l):=by
 obtain ⟨k,a,d,p,c⟩:=l
 obtain ⟨s1,s2⟩:=gZ [a,d] (by simp)
 dsimp only [vu,S7,DE,Tr.val,Tr.pre];(try dsimp only [az,ak])
 rw [HK,HK,s2]
 refine ⟨fun _ _ _ _=>s1,?_⟩
 have hd:(!((d.1==(0:Int))&&((d.2.1==(0:Int))&&((d.2.2==(0:Int))&&true))))=decide (d≠(0,0,0)):=by
  obtain ⟨x,y,z⟩:=d
  rw [Bool.eq_iff_iff]
  simp
 have hs:(decide (∀p∈ [a,d],dB p))=decide (dB a/\ dB d):=by
  rw [Bool.eq_iff_iff];simp
 rw [hd,hs]
 unfold de
 try dsimp only
 by_cases h1:k>=1
 rotate_left
 ·rw [if_neg h1];exact (decide_eq_false fun h=>h1 h.1.1).symm
 rw [if_pos h1]
 by_cases h2:k<=3
 rotate_left
 ·rw [if_neg h2];exact (decide_eq_false fun h=>h2 h.1.2).symm
 rw [if_pos h2]
 by_cases h3:0<=p/\ p<=255
 rotate_left
 ·rw [decide_eq_false h3,if_neg (by decide)];exact (decide_eq_false fun h=>h3 h.2.1).symm
 rw [decide_eq_true h3,if_pos rfl]
 by_cases h4:0<=c/\ c<=1024
 rotate_left
 ·rw [decide_eq_false h4,if_neg (by decide)];exact (decide_eq_false fun h=>h4 h.2.2.1).symm
 rw [decide_eq_true h4,if_pos rfl]
 by_cases h5:dB a/\ dB d
 rotate_left
 ·rw [decide_eq_false h5,if_neg (by decide)]
  exact (decide_eq_false fun h=>h5 h.2.2.2.1).symm
 rw [decide_eq_true h5,if_pos rfl]
 by_cases h6:k=2
 ·rw [if_pos (by simp [h6])]
  exact (decide_eq_true ⟨⟨h1,h2⟩,h3,h4,h5,.inl h6⟩).symm
 ·rw [if_neg (by simp [h6])]
  by_cases h7:d≠(0,0,0)
  ·rw [decide_eq_true h7]
   exact (decide_eq_true ⟨⟨h1,h2⟩,h3,h4,h5,.inr h7⟩).symm
  ·rw [decide_eq_false h7]
   exact (decide_eq_false fun h=>h.2.2.2.2.elim h6 h7).symm
theorem amZ (L:List zA) (hl:L.length<4611686018427387904):JU L/\ lis L=decide (∀l∈L,de l):=by
 have key:JU L/\ lis L= !L.any (fun l=> !decide (de l)):=by
  refine iq L hl _ _ _ (fun i hi=> ?_) (fun i v hv=> ?_) ?_
  ·unfold LN
   intro h
   simp only [Int.toNat_natCast]
   exact ⟨⟨by omega,by omega⟩,by omega,by omega,(GM _).1⟩
  ·have hlt:=cz hv
   unfold rV
   rw [if_pos (by omega),Int.toNat_natCast,gW hv]
   unfold ak
   rw [(GM v).2]
  ·unfold rV
   rw [if_neg (by omega)]
 refine ⟨key.1,?_⟩
 rw [key.2,Bool.eq_iff_iff]
 simp
def OU (j:Jb):Prop:=(0<=j.1/\ j.1<=64)/\ (0<=j.2.1/\ j.2.1<=2048)/\ (0<=j.2.2.1/\ j.2.2.1<=64)/\ (0<=j.2.2.2.1/\ j.2.2.2.1<=255)/\ j.2.2.2.2.length<=8/\ ∀l∈j.2.2.2.2,de l
instance (j:Jb):Decidable (OU j):=by unfold OU;infer_instance
theorem Di (j:Jb):Dj j/\ gis j=decide (OU j):=by
 obtain ⟨a,b,c,d,L⟩:=j
 dsimp only [Dj,gis,ab6,Tr.val,Tr.pre];(try dsimp only [az,ak])
 rw [n8,n8,n8,n8]
 have hL:(((L.length:Nat):Int)<=8)->JU L/\ lis L=decide (∀l∈L,de l):=fun h=>amZ L (by omega)
 refine ⟨fun _ _ _ _ h=>(hL h).1,?_⟩
 unfold OU
 try dsimp only
 by_cases h1:0<=a/\ a<=64
 rotate_left
 ·rw [decide_eq_false h1,if_neg (by decide)];exact (decide_eq_false fun h=>h1 h.1).symm
 rw [decide_eq_true h1,if_pos rfl]
 by_cases h2:0<=b/\ b<=2048
 rotate_left
 ·rw [decide_eq_false h2,if_neg (by decide)];exact (decide_eq_false fun h=>h2 h.2.1).symm
 rw [decide_eq_true h2,if_pos rfl]
 by_cases h3:0<=c/\ c<=64
 rotate_left
 ·rw [decide_eq_false h3,if_neg (by decide)];exact (decide_eq_false fun h=>h3 h.2.2.1).symm
 rw [decide_eq_true h3,if_pos rfl]
 by_cases h4:0<=d/\ d<=255
 rotate_left
 ·rw [decide_eq_false h4,if_neg (by decide)];exact (decide_eq_false fun h=>h4 h.2.2.2.1).symm
 rw [decide_eq_true h4,if_pos rfl]
 by_cases h5:((L.length:Nat):Int)<=8
 rotate_left
 ·rw [if_neg h5];exact (decide_eq_false fun h=>h5 (by have:=h.2.2.2.2.1;omega)).symm
 rw [if_pos h5,(hL h5).2]
 by_cases h6: ∀l∈L,de l
 ·rw [decide_eq_true h6];exact (decide_eq_true ⟨h1,h2,h3,h4,by omega,h6⟩).symm
 ·rw [decide_eq_false h6];exact (decide_eq_false fun h=>h6 h.2.2.2.2.2).symm
def In4 (p:P3):Prop:=(-4160<=p.1/\ p.1<=4160)/\ (-4160<=p.2.1/\ p.2.1<=4160)/\ (-4160<=p.2.2/\ p.2.2<=4160)
instance (p:P3):Decidable (In4 p):=by unfold In4;infer_instance
abbrev w9:Type:=Jb×(P3×P3)
def bW (x:w9):Int:=if¬OU x.1 then 1 else if¬(In4 x.2.1/\ Nr x.2.2) then 5 else if x.2.2=(0,0,0) then 3 else 0
def gK (x:w9):P3:=xe x.2.1 (bK x.2.2) x.1.2.2.1
theorem lI {x:w9} (h:bW x=0):OU x.1/\ In4 x.2.1/\ Nr x.2.2/\ x.2.2≠(0,0,0):=by
 unfold bW at h
 split at h
 ·cases h
 rename_i h1
 split at h
 ·cases h
 rename_i h2
 split at h
 ·cases h
 rename_i h3
 have h1:=Classical.not_not.1 h1
 have h2:=Classical.not_not.1 h2
 exact ⟨h1,h2.1,h2.2,h3⟩
theorem Yd {x:w9} (h:bW x=0):(-4224<=(gK x).1/\ (gK x).1<=4224)/\ (-4224<=(gK x).2.1/\ (gK x).2.1<=4224)/\ (-4224<=(gK x).2.2/\ (gK x).2.2<=4224):=by
 obtain ⟨h1,h2,h3,h4⟩:=lI h
 obtain ⟨_,_,u,_⟩:=c8 h3 h4
 have hb:=h1.2.2.1
 have f: ∀w:Int,(-1024<=w/\ w<=1024)-> -64<=w*x.1.2.2.1 / 1024/\ w*x.1.2.2.1 / 1024<=64:=fun w hw=>by
  have:=qJ (A:=1024) (B:=64) hw.1 hw.2 (by omega) hb.2
  omega
 have a:=f _ u.1
 have b:=f _ u.2.1
 have c:=f _ u.2.2
 have i1:=h2.1
 have i2:=h2.2.1
 have i3:=h2.2.2
 unfold gK xe
 dsimp only
 omega
theorem U3.fr {u:P3} (h:U3 u):Fr4 u:=⟨by have:=h.1;omega,by have:=h.2.1;omega,by have:=h.2.2;omega⟩
theorem Wm (x:w9):qh x/\ ((bW x=0/\ mK x=(false,(x.1.1,x.1.2.1,x.1.2.2.1,x.1.2.2.2.1),gK x,x.2.2))\/ (bW x≠0/\ mK x=(true,(bW x,0,0,0),(0,0,0),0,0,0))):=by
 obtain ⟨j,p,n⟩:=x
 obtain ⟨g1,g2⟩:=Di j
 unfold qh mK az ak bW
 dsimp only
 rw [g2]
 by_cases h1:OU j
 rotate_left
 ·rw [decide_eq_false h1,if_pos h1]
  exact ⟨⟨g1,fun h=>absurd rfl h⟩,.inr ⟨by decide,rfl⟩⟩
 rw [decide_eq_true h1,if_neg (fun h=>h h1)]
 have hmin:(bB (bB p.1 p.2.1) p.2.2< -4160\/ bw (bw p.1 p.2.1) p.2.2>4160)↔ ¬In4 p:=by
  unfold In4 bB bw
  split<;>split<;>split<;>split<;>omega
 by_cases h2:In4 p
 rotate_left
 ·rw [if_pos (fun h=>h2 h.1)]
  by_cases h3:bB (bB p.1 p.2.1) p.2.2< -4160
  ·rw [if_pos h3]
   exact ⟨⟨g1,fun _ h=>absurd h3 h⟩,.inr ⟨by decide,rfl⟩⟩
  ·have h4:=(hmin.2 h2).resolve_left h3
   rw [if_neg h3,if_pos h4]
   exact ⟨⟨g1,fun _ _ h=>absurd h4 h⟩,.inr ⟨by decide,rfl⟩⟩
 have h3: ¬bB (bB p.1 p.2.1) p.2.2< -4160:=fun h=>hmin.1 (.inl h) h2
 have h4: ¬bw (bw p.1 p.2.1) p.2.2>4160:=fun h=>hmin.1 (.inr h) h2
 rw [if_neg h3,if_neg h4]
 by_cases h5:Nr n
 rotate_left
 ·obtain ⟨u1,u2⟩:=akB h5
  rw [u2,if_pos (fun h=>h5 h.2)]
  exact ⟨⟨g1,fun _ _ _=>⟨u1,fun h=>absurd h (by decide)⟩⟩,.inr ⟨by decide,rfl⟩⟩
 rw [if_neg (fun h=>h ⟨h2,h5⟩)]
 by_cases h6:n=(0,0,0)
 ·subst h6
  obtain ⟨u1,u2⟩:=RJ
  rw [u2,if_pos (rfl:((0:Int),(0:Int),(0:Int))=(0,0,0))]
  exact ⟨⟨g1,fun _ _ _=>⟨u1,fun h=>absurd h (by decide)⟩⟩,.inr ⟨by decide,rfl⟩⟩
 ·obtain ⟨u1,u2,u3,u4⟩:=c8 h5 h6
  have hb:=h1.2.2.1
  have hp:Nr p:=by
   have i1:=h2.1
   have i2:=h2.2.1
   have i3:=h2.2.2
   exact ⟨by omega,by omega,by omega⟩
  obtain ⟨b1,b2⟩:=KH hp u3.fr (k:=j.2.2.1) ⟨hb.1,by omega⟩
  rw [u2,if_neg h6]
  dsimp only
  rw [b2]
  exact ⟨⟨g1,fun _ _ _=>⟨u1,fun _=>⟨yl.1,b1⟩⟩⟩,.inl ⟨rfl,by rfl⟩⟩
theorem uj (x:w9):qg x/\ oZ x=bW x:=by
 obtain ⟨h1,⟨h2,h3⟩|⟨h2,h3⟩⟩:=Wm x
 ·refine ⟨h1,?_⟩
  unfold oZ
  rw [h3,h2,if_neg (fun h=>(by cases h))]
 ·refine ⟨h1,?_⟩
  unfold oZ
  rw [h3,if_pos rfl]
theorem uh {x:w9} (h:bW x=0):qf x/\ A8 x=((x.1.1,x.1.2.1,x.1.2.2.1,x.1.2.2.2.1),gK x,x.2.2):=by
 obtain ⟨h1,⟨h2,h3⟩|⟨h2,h3⟩⟩:=Wm x
 ·exact ⟨⟨h1,by rw [h3]⟩,by unfold A8;rw [h3]⟩
 ·exact absurd h h2
theorem CJ (x:w9):CK x/\ aa6 x=if bW x=0 then (gK x,0) else ((0,0,0),bW x):=by
 obtain ⟨k1,k2⟩:=uj x
 unfold CK aa6 wA CL az ak
 rw [k2]
 dsimp only
 by_cases h:bW x=0
 ·obtain ⟨g1,g2⟩:=uh h
  rw [if_pos h,if_pos h,g2]
  exact ⟨⟨k1,fun _=>g1⟩,rfl⟩
 ·rw [if_neg h,if_neg h]
  exact ⟨⟨k1,fun q=>absurd q h⟩,rfl⟩
def lJ (n:Int) (aX nn:P3) (len:Int):List P3:=(YH.take n.toNat).map fun d=>xe aX (fa nn d) len
theorem Po {a b c d:Int} {L:List zA} {aX n:P3} (ha:0<=a/\ a<=24) (hb:0<=b/\ b<=2048) (hp:Nr aX) (hn:Nr n) (h0:n≠(0,0,0)):
  tT ((a,b,c,d,L),aX,n)/\ Pm ((a,b,c,d,L),aX,n)=lJ a aX n b:=by
 obtain ⟨d1,d2⟩:=aeq ha
 have hDl:(YH.take a.toNat).length<=24:=by rw [List.length_take,RY];omega
 have hDi: ∀q∈YH.take a.toNat,InD q:=fun q hq=>YI q (List.mem_of_mem_take hq)
 generalize hD:YH.take a.toNat=D at*
 have key:TR (kf ((a,b,c,d,L),aX,n)) (pE ((a,b,c,d,L),aX,n)) ([],D,((D.length:Nat):Int),0) fun r=>r=lJ a aX n b:=by
  refine cu D.length (fun i s=>s=((D.take i).map (fun d=>xe aX (fa n d) b),D,((D.length:Nat):Int),(i:Int))) _ (fun i s hi hJ=> ?_) (fun s hJ=> ?_) rfl
  ·subst hJ
   have hin:InD (D.getD i (0,0)):=hDi _ (dW hi _)
   obtain ⟨w1,w2,w3⟩:=BW hn h0 hin
   obtain ⟨b1,b2⟩:=KH hp w3 (k:=b) hb
   have hl:((D.take i).map (fun d=>xe aX (fa n d) b)).length=i:=by rw [List.length_map,List.length_take];omega
   dsimp only [pE,kf,kL,Tr.val,Tr.pre];(try dsimp only [az,ak])
   simp only [Int.toNat_natCast]
   rw [if_pos (by omega),w2]
   try dsimp only
   rw [b2,hl]
   refine ⟨fun _=>⟨⟨by omega,by omega⟩,hi,hi,w1,yl.1,b1,by omega⟩,.inl ⟨_,rfl,?_⟩⟩
   rw [bZ hi (0,0),List.map_append,ax (by omega) (by omega)]
   rfl
  ·subst hJ
   refine ⟨?_,_,?_,rfl⟩
   ·dsimp only [pE,kL,Tr.val,Tr.pre];(try dsimp only [az,ak])
    intro q
    (try dsimp only at q);omega
   ·unfold lJ;dsimp only [kf,kL,Tr.val,Tr.pre];(try dsimp only [az,ak])
    rw [if_neg (by omega),List.take_length,hD]
 unfold tT Pm az ak
 try dsimp only
 rw [d2]
 try dsimp only
 exact ⟨⟨d1,yl.1,key.1⟩,key.2⟩
theorem ad5 {x:w9} (hs:bW x=0->x.1.1<=24):F6 x/\ ahs x=if bW x=0 then (lJ x.1.1 (gK x) x.2.2 x.1.2.1,0) else ([],bW x):=by
 obtain ⟨k1,k2⟩:=uj x
 unfold F6 ahs zP K6 az ak
 rw [k2]
 dsimp only
 by_cases h:bW x=0
 ·obtain ⟨g1,g2⟩:=uh h
  obtain ⟨h1,h2,h3,h4⟩:=lI h
  have hst:=Yd h
  obtain ⟨e1,e2⟩:=Po (a:=x.1.1) (b:=x.1.2.1) (c:=x.1.2.2.1) (d:=x.1.2.2.2.1) (L:=x.1.2.2.2.2) (aX:=gK x) (n:=x.2.2) ⟨h1.1.1,hs h⟩ h1.2.1 ⟨by omega,by omega,by omega⟩ h3 h4
  rw [if_pos h,if_pos h,g2]
  dsimp only
  rw [e2]
  exact ⟨⟨k1,fun _=>⟨g1,e1⟩⟩,rfl⟩
 ·rw [if_neg h,if_neg h]
  exact ⟨⟨k1,fun q=>absurd q h⟩,rfl⟩
end Go.Proofs.YtngdehlpoomaiaaGreat
