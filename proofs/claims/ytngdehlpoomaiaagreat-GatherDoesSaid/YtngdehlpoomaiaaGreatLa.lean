/- The caster's tree, built when it is asked for first. -/
import Derived.Test.YtngdehlpoomaiaaGreatVa
import Derived.Test.YtngdehlpoomaiaaGreatWb
import Derived.Test.YtngdehlpoomaiaaGreatWc
noncomputable section
set_option linter.unusedSectionVars false
set_option linter.unusedVariables false
set_option linter.unusedSimpArgs false
namespace Go.Proofs.YtngdehlpoomaiaaGreat
open Go Go.Ev Go.Proofs
theorem amV:aq Tryz.prog 142 ldB:=ap8 asP
theorem adD:aq Tryz.prog 122 abE:=agQ aql
abbrev Fs:Type:=(Int×Int×Int×Int×Int×I3)
def ada:List (Nat×Ev.Spec):=(142,ldB)::X6
theorem aa4:aj Tryz.prog ada:=aA (fn:=Tryz.f142) amV X7
def uG:List (Nat×Ev.Spec):=(122,abE)::ada
theorem pR:aj Tryz.prog uG:=aA (fn:=Tryz.f122) adD aa4
def eU:wT:=⟨OQ,gP,80,mM,fun L=>(jl L).1⟩
def aoC:cP:=x5 tt uG cf (fun _=> []) [] Tryz.f139
def Ua:List (Nat×cP):= [(143,acV 139 aoC)]
def aoc:List (Nat×cP):=(124,x5 tt uG cf (fun _=> []) Ua Tryz.f124)::Ua
theorem aky:gM Tryz.prog cf 139 aoC:=gM.fn bt pR mixed (fn:=Tryz.f139) (by kernel_rfl) (by kernel_rfl) (aH.nil _ _) fun _ _=>aK.nil
theorem MH:aH Tryz.prog cf Ua:=aH.cons (b9.of (fn:=Tryz.f143) (by kernel_rfl) (by kernel_rfl) (by kernel_rfl)) (Xo aky fun b off cap w Q h0 h1 f1 hg hQ=>aox b off _ cap w Q h0 h1 f1 (b9.of (fn:=Tryz.f139) (by kernel_rfl) (by kernel_rfl) (by kernel_rfl)) hg hQ) (aH.nil _ _)
theorem ahm:aH Tryz.prog cf aoc:=aH.cons (b9.of (fn:=Tryz.f124) (by kernel_rfl) (by kernel_rfl) (by kernel_rfl)) (gM.fn bt pR mixed (fn:=Tryz.f124) (by kernel_rfl) (by kernel_rfl) MH fun _ _=>aK.nil) MH
theorem anD (L:List eU.tv.T) (T z:List eU.tb.T) (dn:Int) (q a b:Value) (aW:Env):
  JD ⟨tt,uG,cf,[],[],aoc⟩ Tryz.f121 [.v (.one (.ptr 0 0))] (tW eU L T (.int .u32 dn) (.int .i32 0) q a b aW) (aaV eU aW q a b (fun m=> .v (.one (.full m))) z)=
  (∀aR:Env,cB (!(dn !=0)) (∀jZ:Env,ob (decide (dn=0)&&decide ((0:Int)=0)) (∀wI:Env,mM L/\ ∀y,y=jl L->wI=wI/\ (7:Nat)=7/\ jZ=jZ/\ (6:Nat)=6/\ aR=aR/\ (5:Nat)=5/\
   ((1:Nat)=1/\ (1:Int)=1/\ (0:Int)=0/\ q=q/\ a=a)/\ (b=b/\ (80:Nat)=80/\ AV.v (.one (.full 8))=AV.v (.one (.full 8))/\ (2:Nat)=2)/\ aW=aW/\ (3:Nat)=3/\ y.1=z))
   (aR=aR/\ (5:Nat)=5/\ ((1:Nat)=1/\ dn=1/\ (0:Int)=0/\ q=q/\ a=a)/\ (b=b/\ (80:Nat)=80/\ AV.v (.one (.full 2))=AV.v (.one (.full 2))/\ (2:Nat)=2)/\ aW=aW/\ (3:Nat)=3/\ T=z)):=by kernel_rfl
theorem adN:aq Tryz.prog 121 (Jx eU):=aq.fnC bt pR mixed (fn:=Tryz.f121) (by kernel_rfl) (by kernel_rfl) ahm fun L T dn q a b aW hd hp=>by
 rw [anD]
 intro aR
 rcases hd with rfl|rfl
 ·exact fun _ _=>⟨hp rfl,fun y hy=>⟨rfl,rfl,rfl,rfl,rfl,rfl,⟨rfl,rfl,rfl,rfl,rfl⟩,⟨rfl,rfl,rfl,rfl⟩,rfl,rfl,by subst hy;rfl⟩⟩
 ·exact ⟨rfl,rfl,⟨rfl,rfl,rfl,rfl,rfl⟩,⟨rfl,rfl,rfl,rfl⟩,rfl,rfl,rfl⟩
def GX:List (Nat×Ev.Spec):=(121,Jx eU)::uG
theorem Ew:aj Tryz.prog GX:=aA (fn:=Tryz.f121) adN pR
def fI:aoG:=⟨eU,fun L T x=>uN (T,L,x),fun L T x=>RQ (T,L,x)⟩
abbrev as0 (q:Value) (a b A B:Int) (V V':Bool×(Int×Int)) (y z:List gP.T) (aW:Env):Prop:=((1:Nat)=1/\ (1:Int)=1/\ (0:Int)=0/\ q=q/\ Value.int .i64 a=Value.int .i64 A)/\ (Value.int .i64 b=Value.int .i64 B/\ (80:Nat)=80/\ AV.pT [.one (.raw (.bool V.1)),.one (.raw (.int .i64 V.2.2))]=AV.pT [.one (.raw (.bool V'.1)),.one (.raw (.int .i64 V'.2.2))]/\ (2:Nat)=2)/\ aW=aW/\ (3:Nat)=3/\ y=z
theorem ag2 (L:List fI.base.tv.T) (T z:List fI.base.tb.T) (dn:Int) (q:Value) (a b A B:Int) (V:Bool×(Int×Int)) (x:PtI×PtI) (aW:Env):
  JD ⟨tt,GX,cf,[],[],[]⟩ Tryz.f96 [.v (.one (.ptr 0 0)),ptA x.1,ptA x.2] (tW fI.base L T (.int .u32 dn) (.int .i32 0) q (.int .i64 a) (.int .i64 b) aW) (aaV fI.base aW q (.int .i64 A) (.int .i64 B) (fun _=> .pT [.one (.raw (.bool V.1)),.one (.raw (.int .i64 V.2.2))]) z)=
  ob (true&&decide ((0:Int)=0)&&(decide (dn=0)||decide (dn=1))) (HL dn (mM L)/\ ∀y,y=o7 dn (jl L).1 T->uN (y,L,x)/\ ∀u,u=RQ (y,L,x)->
   cB (u.2.2==0) (True/\ ∀a',a'=IntKind.wrap .i64 (a+1)->True/\ ∀b',b'=IntKind.wrap .i64 (b+u.2.1)->as0 q a' b' A B u V y z aW) (as0 q a b A B u V y z aW)):=by kernel_rfl
theorem xg:aq Tryz.prog 96 (Sb fI):=aq.fnD bt Ew mixed (fn:=Tryz.f96) (by kernel_rfl) (by kernel_rfl) fun L T dn q a b x aW hd hp hp2=>by
 rw [ag2]
 refine Wj (by rcases hd with rfl|rfl<;>rfl) ⟨hp,fun y hy=>⟨by subst hy;exact hp2,fun u hu=> ?_⟩⟩
 have hu2:u=fI.ask L (o7 dn (fI.base.YO L) T) x:=by subst hu;subst hy;rfl
 rw [<- hu2]
 have hy2:y=o7 dn (fI.base.YO L) T:=hy
 cases h:u.2.2==0 with
 |true=>
  have h0:u.2.2=0:=by simpa using h
  exact ⟨trivial,fun a' ha=>⟨trivial,fun b' hb=>⟨⟨rfl,rfl,rfl,rfl,by rw [ha,AN,if_pos h0]⟩,⟨by rw [hb,AN,if_pos h0],rfl,rfl,rfl⟩,rfl,rfl,hy2⟩⟩⟩
 |false=>
  have h0: ¬u.2.2=0:=by simpa using h
  exact ⟨⟨rfl,rfl,rfl,rfl,by rw [AN,if_neg h0]⟩,⟨by rw [AN,if_neg h0],rfl,rfl,rfl⟩,rfl,rfl,hy2⟩
def Xr:List (Nat×Ev.Spec):=(96,Sb fI)::GX
theorem yQ:aj Tryz.prog Xr:=aA (fn:=Tryz.f96) xg Ew
end Go.Proofs.YtngdehlpoomaiaaGreat
namespace Go.Proofs.YtngdehlpoomaiaaGreat
open Go Go.Ev Go.Proofs
def adx (x:(I3×I3)):aI:=⟨[],⟨cj 33 0 [(6,.v (.one (.ptr 0 0))),(7,.v (.one (.ptr 1 0))),(8,.v (.one (.i .i64))),(19,.v (.one (.i .i64)))],[.cells [.i .i64,.i .i64,.i .i64] 124,.cells [.i .i64,.i .i64,.i .i64] 124],0,none,[],[],[2,3,4,5,6,7,0,1],[.i,.i,.i,.i,.i,.i,.i,.i],[]⟩,[⟨(.exit 0),.normal,⟨cj 33 0 [(8,.v (.one (.i .i64)))],[],0,none,[],[],[0],[.i],[]⟩⟩]⟩
def ie (x:(I3×I3)) (s:Fs):Fs⊕Int:=
 (if (s.2.2.2.2.2.2.2<3) then
 (Sum.inl (s.1,s.2.1,s.2.2.1,s.2.2.2.1,s.2.2.2.2.1,s.2.2.2.2.2.1,(au (s.2.2.2.2.2.2.1+(au ((List.getD [s.1,s.2.1,s.2.2.1] (0+(s.2.2.2.2.2.2.2.toNat*1)) 0)*(List.getD [s.2.2.2.1,s.2.2.2.2.1,s.2.2.2.2.2.1] (0+(s.2.2.2.2.2.2.2.toNat*1)) 0))))),(au (s.2.2.2.2.2.2.2+1)))) else
 (Sum.inr (s.2.2.2.2.2.2.1)))
def I6 (x:(I3×I3)) (s:Fs):Prop:=
 ((s.2.2.2.2.2.2.2<3)->
 (((0<=s.2.2.2.2.2.2.2)/\ (s.2.2.2.2.2.2.2<3))/\
 ((((0+(s.2.2.2.2.2.2.2.toNat*1))+1)<=3)/\
 (((0<=s.2.2.2.2.2.2.2)/\ (s.2.2.2.2.2.2.2<3))/\
 (((0+(s.2.2.2.2.2.2.2.toNat*1))+1)<=3)))))
def RN (x:(I3×I3)) (s:Fs):Tr (Fs⊕Int) true:=
 (.i10 (s.2.2.2.2.2.2.2<3)
 (.oR s.2.2.2.2.2.2.2 3
 (.od (((0+((tN s.2.2.2.2.2.2.2)*1))+1)<=3)
 (.oR s.2.2.2.2.2.2.2 3
 (.od (((0+((tN s.2.2.2.2.2.2.2)*1))+1)<=3)
 (.ret (.inl (s.1,s.2.1,s.2.2.1,s.2.2.2.1,s.2.2.2.2.1,s.2.2.2.2.2.1,(au (s.2.2.2.2.2.2.1+(au ((List.getD [s.1,s.2.1,s.2.2.1] (0+((tN s.2.2.2.2.2.2.2)*1)) z0)*(List.getD [s.2.2.2.1,s.2.2.2.2.1,s.2.2.2.2.2.1] (0+((tN s.2.2.2.2.2.2.2)*1)) z0))))),(w1 s.2.2.2.2.2.2.2))))))))
 (.ret (.inr (s.2.2.2.2.2.2.1))))
def abl (x:(I3×I3)):I2:=
 (ak (S0 [x.1,x.2]) fun y=>
 (if ((!y)=true) then
 (0,5) else
 (ak (ig x.1) fun aB=>
 (ak (ig x.2) fun y_2=>
 (ak (run (ie x) (aB.1,aB.2.1,aB.2.2,y_2.1,y_2.2.1,y_2.2.2,0,0)) fun r=>
 (r,0))))))
def uL (x:(I3×I3)):Prop:=
 ((qE [x.1,x.2])/\
 az (S0 [x.1,x.2]) fun y=>
 (¬((!y)=true)->
 (az (ig x.1) fun aB=>
 (az (ig x.2) fun y_2=>
 (Term (ie x) (I6 x) (aB.1,aB.2.1,aB.2.2,y_2.1,y_2.2.1,y_2.2.2,0,0))))))
def aqB (x:(I3×I3)):Tr I2 true:=
 (.fn Gj [x.1,x.2] fun y=>
 (.gG (!y)
 (.ret (z0,5))
 (.fn0 iX x.1 trivial fun aB=>
 (.fn0 iX x.2 trivial fun y_2=>
 (aI.lp (adx x) (RN x) (aB.1,aB.2.1,aB.2.2,y_2.1,y_2.2.1,y_2.2.2,uQ) fun r=>
 (.ret (r,z0)))))))
abbrev NQ:bF:=⟨(.pair (.agg aG) (.agg aG)),(.pair (.one yi) (.one yi)),uL,abl⟩
theorem anL:aq Tryz.prog 67 (ah NQ):=bS NQ aqB (fn:=Tryz.f67) yQ (aH.nil _ _) (fun x=>(bX yQ 0 (adx x) (RN x) aK.nil))
def adh:List (Nat×Ev.Spec):=(67,ah NQ)::Xr
theorem Nn:aj Tryz.prog adh:=aA (fn:=Tryz.f67) anL yQ
def G8 (x:I2):Int:=
 (if ((x.2==0)=true) then
 3 else
 (if ((x.1==(-9223372036854775808))=true) then
 (if ((x.2==(-1))=true) then
 4 else
 0) else
 0))
def abt (_:I2):Prop:=True
def ak2 (x:I2):Tr Int false:=
 (.iY (x.2==z0)
 (.ret 3)
 (.iY (x.1==(-9223372036854775808))
 (.iY (x.2==(-1))
 (.ret 4)
 (.ret z0))
 (.ret z0)))
abbrev FJ:bF:=⟨(.pair (.one yi) (.one yi)),(.one yi),abt,G8⟩
theorem ago:aq Tryz.prog 119 (ah FJ):=aM FJ ak2 (fn:=Tryz.f119) Nn
def RF:List (Nat×Ev.Spec):=(119,ah FJ)::adh
theorem Fi:aj Tryz.prog RF:=aA (fn:=Tryz.f119) ago Nn
def G6 (x:I2):I3:=
 (ak (G8 x) fun y=>
 (if ((y !=0)=true) then
 (0,0,y) else
 (if (((Int.tmod x.1 x.2) !=0)=true) then
 (if ((au (((BitVec.toNat ((BitVec.ofInt 64 (Int.tmod x.1 x.2))^^^(BitVec.ofInt 64 x.2))):Nat):Int))<0) then
 ((au ((au (Int.tdiv x.1 x.2))- 1)),(au ((Int.tmod x.1 x.2)+x.2)),0) else
 ((au (Int.tdiv x.1 x.2)),(Int.tmod x.1 x.2),0)) else
 ((au (Int.tdiv x.1 x.2)),(Int.tmod x.1 x.2),0))))
def rq (x:I2):Prop:=
 (az (G8 x) fun y=>
 (¬((y !=0)=true)->
 ((x.2≠0)/\
 (x.2≠0))))
def akV (x:I2):Tr I3 true:=
 (.fn0 FJ x trivial fun y=>
 (.gG (y !=z0)
 (.ret (z0,z0,y))
 (.od (x.2≠z0)
 (.od (x.2≠z0)
 (.iY ((Int.tmod x.1 x.2) !=z0)
 (.iz ((au (((BitVec.toNat ((BitVec.ofInt 64 (Int.tmod x.1 x.2))^^^(BitVec.ofInt 64 x.2))):Nat):Int))<z0)
 (.ret ((wm (au (Int.tdiv x.1 x.2))),(au ((Int.tmod x.1 x.2)+x.2)),z0))
 (.ret ((au (Int.tdiv x.1 x.2)),(Int.tmod x.1 x.2),z0)))
 (.ret ((au (Int.tdiv x.1 x.2)),(Int.tmod x.1 x.2),z0)))))))
abbrev zx:bF:=⟨(.pair (.one yi) (.one yi)),(.pair (.one yi) (.pair (.one yi) (.one yi))),rq,G6⟩
theorem agl:aq Tryz.prog 95 (ah zx):=aM zx akV (fn:=Tryz.f95) Fi
def RD:List (Nat×Ev.Spec):=(95,ah zx)::RF
theorem Fh:aj Tryz.prog RD:=aA (fn:=Tryz.f95) agl Fi
def adp (x:I2):Bool:=
 (decide ((au (x.1*x.1))<=x.2))
def af0 (_:I2):Prop:=True
def anz (x:I2):Tr Bool false:=
 (.ret (decide ((au (x.1*x.1))<=x.2)))
abbrev J5:bF:=⟨(.pair (.one yi) (.ptr (.int .i64))),(.one Ty.bool),af0,adp⟩
theorem akk:aq Tryz.prog 101 (ah J5):=aM J5 anz (fn:=Tryz.f101) Fh
def XZ:List (Nat×Ev.Spec):=(101,ah J5)::RD
theorem zj:aj Tryz.prog XZ:=aA (fn:=Tryz.f101) akk Fh
def MC (x:I2):aI:=⟨[],⟨cj 26 0 [(1,.v (.one (.jO 101 0 [.elem 0]))),(5,.v (.one (.i .i64))),(6,.v (.one (.i .i64)))],[.row yi 0],0,none,[],[0,3],[1,2],[.i,.i],[.n 0,.l yi [x.2]]⟩,[⟨(.exit 0),.normal,⟨cj 26 0 [(5,.v (.one (.i .i64)))],[],0,none,[],[],[0],[.i],[]⟩⟩]⟩
def kI (x:I2) (s:I2):I2⊕Int:=
 (if (s.1<s.2) then
 (ak (adp ((au (s.1+(au (Int.tdiv (au ((au (s.2- s.1))+1)) 2)))),x.2)) fun y=>
 (if (y=true) then
 (Sum.inl ((au (s.1+(au (Int.tdiv (au ((au (s.2- s.1))+1)) 2)))),s.2)) else
 (Sum.inl (s.1,(au ((au (s.1+(au (Int.tdiv (au ((au (s.2- s.1))+1)) 2))))- 1)))))) else
 (Sum.inr (s.1)))
def yK (x:I2) (s:I2):Prop:=
 True
def Ek (x:I2) (s:I2):Tr (I2⊕Int) false:=
 (.iz (s.1<s.2)
 (.fn0 J5 ((au (s.1+(au (Int.tdiv (w1 (au (s.2- s.1))) 2)))),x.2) trivial fun y=>
 (.iY y
 (.ret (.inl ((au (s.1+(au (Int.tdiv (w1 (au (s.2- s.1))) 2)))),s.2)))
 (.ret (.inl (s.1,(wm (au (s.1+(au (Int.tdiv (w1 (au (s.2- s.1))) 2))))))))))
 (.ret (.inr (s.1))))
def J4 (x:I2):Int:=
 (ak (run (kI x) (0,x.1)) fun r=>
 r)
def yL (x:I2):Prop:=
 (Term (kI x) (yK x) (0,x.1))
def afQ (x:I2):Tr Int true:=
 (aI.lp (MC x) (Ek x) (z0,x.1) fun r=>
 (.ret r))
abbrev AE:bF:=⟨(.pair (.one yi) (.jO 101 (.ptr (.int .i64)))),(.one yi),yL,J4⟩
theorem aa0:aq Tryz.prog 100 (ah AE):=bS AE afQ (fn:=Tryz.f100) zj (aH.nil _ _) (fun x=>(bX zj 0 (MC x) (Ek x) aK.nil))
def Nm:List (Nat×Ev.Spec):=(100,ah AE)::XZ
theorem BF:aj Tryz.prog Nm:=aA (fn:=Tryz.f100) aa0 zj
def N7 (x:Int):I2:=
 (if (x<0) then
 (0,1) else
 (ak (J4 (3037000499,x)) fun y=>
 (y,0)))
def uP (x:Int):Prop:=
 (¬(x<0)->
 (yL (3037000499,x)))
def anX (x:Int):Tr I2 true:=
 (.wY (x<z0)
 (.ret (z0,z1))
 (.fn AE (3037000499,x) fun y=>
 (.ret (y,z0))))
abbrev FL:bF:=⟨(.one yi),(.pair (.one yi) (.one yi)),uP,N7⟩
theorem ak5:aq Tryz.prog 68 (ah FL):=aM FL anX (fn:=Tryz.f68) BF
def X8:List (Nat×Ev.Spec):=(68,ah FL)::Nm
theorem IX:aj Tryz.prog X8:=aA (fn:=Tryz.f68) ak5 BF
def Lc (x:I2):Int:=
 (ak (G6 x) fun y=>
 y.1)
def ve (x:I2):Prop:=
 (rq x)
def ahC (x:I2):Tr Int true:=
 (.fn zx x fun y=>
 (.ret y.1))
abbrev xB:bF:=⟨(.pair (.one yi) (.one yi)),(.one yi),ve,Lc⟩
theorem aed:aq Tryz.prog 72 (ah xB):=aM xB ahC (fn:=Tryz.f72) IX
def QS:List (Nat×Ev.Spec):=(72,ah xB)::X8
theorem EF:aj Tryz.prog QS:=aA (fn:=Tryz.f72) aed IX
def fof (x:I3):I3:=
 x
def ama (_:I3):Prop:=True
def arD (x:I3):Tr I3 false:=
 (.ret x)
abbrev Hp:bF:=⟨(.agg aG),(.agg aG),ama,fof⟩
theorem apg:aq Tryz.prog 69 (ah Hp):=aM Hp arD (fn:=Tryz.f69) EF
def akd:List (Nat×Ev.Spec):=(69,ah Hp)::QS
theorem QU:aj Tryz.prog akd:=aA (fn:=Tryz.f69) apg EF
def SD (x:I3):I3:=
 x
def ahO (_:I3):Prop:=True
def api (x:I3):Tr I3 false:=
 (.ret x)
abbrev B2:bF:=⟨(.agg aG),(.agg aG),ahO,SD⟩
theorem amd:aq Tryz.prog 73 (ah B2):=aM B2 api (fn:=Tryz.f73) QU
def ac2:List (Nat×Ev.Spec):=(73,ah B2)::akd
theorem MO:aj Tryz.prog ac2:=aA (fn:=Tryz.f73) amd QU
def I1 (x:I2):Int:=
 (ak (Lc ((au (1048576*x.1)),x.2)) fun y=>
 y)
def qp (x:I2):Prop:=
 (ve ((au (1048576*x.1)),x.2))
def anG (x:I2):Tr Int true:=
 (.fn xB ((au (1048576*x.1)),x.2) fun y=>
 (.ret y))
abbrev AJ:bF:=⟨(.pair (.one yi) (.ptr (.int .i64))),(.one yi),qp,I1⟩
theorem akA:aq Tryz.prog 71 (ah AJ):=aM AJ anG (fn:=Tryz.f71) MO
def X2:List (Nat×Ev.Spec):=(71,ah AJ)::ac2
theorem zl:aj Tryz.prog X2:=aA (fn:=Tryz.f71) akA MO
def abV (x:(I3×Int)):I3:=
 (ak (I1 (x.1.1,x.2)) fun y=>
 (ak (I1 (x.1.2.1,x.2)) fun aB=>
 (ak (I1 (x.1.2.2,x.2)) fun y_2=>
 (y,aB,y_2))))
def F5 (x:(I3×Int)):Prop:=
 ((qp (x.1.1,x.2))/\
 az (I1 (x.1.1,x.2)) fun y=>
 ((qp (x.1.2.1,x.2))/\
 az (I1 (x.1.2.1,x.2)) fun aB=>
 (qp (x.1.2.2,x.2))))
def alT (x:(I3×Int)):Tr I3 true:=
 (.fn AJ (x.1.1,x.2) fun y=>
 (.fn AJ (x.1.2.1,x.2) fun aB=>
 (.fn AJ (x.1.2.2,x.2) fun y_2=>
 (.ret (y,aB,y_2)))))
abbrev C7:bF:=⟨(.pair (.agg aG) (.jO 71 (.ptr (.int .i64)))),(.agg aG),F5,abV⟩
theorem Vn:aq Tryz.prog 70 (ah C7):=bS C7 alT (fn:=Tryz.f70) zl (aH.nil _ _) (fun x=>(aK.pW bt (aj.F0 zl (aH.nil _ _)) mixed 0 4 aK.nil (by kernel_rfl)))
def Xv:List (Nat×Ev.Spec):=(70,ah C7)::X2
theorem Ig:aj Tryz.prog Xv:=aA (fn:=Tryz.f70) Vn zl
def tR (x:I3):(I3×Int):=
 (ak (abl (x,x)) fun y=>
 (if ((y.2 !=0)=true) then
 ((0,0,0),y.2) else
 (if ((y.1==0)=true) then
 ((0,0,0),3) else
 (ak (N7 (au (1048576*y.1))) fun aB=>
 (ak (fof x) fun y_2=>
 (ak (abV (y_2,aB.1)) fun bI=>
 (ak (SD bI) fun dG=>
 (dG,aB.2))))))))
def gb (x:I3):Prop:=
 ((uL (x,x))/\
 az (abl (x,x)) fun y=>
 (¬((y.2 !=0)=true)->
 (¬((y.1==0)=true)->
 ((uP (au (1048576*y.1)))/\
 az (N7 (au (1048576*y.1))) fun aB=>
 (az (fof x) fun y_2=>
 (F5 (y_2,aB.1)))))))
def amc (x:I3):Tr (I3×Int) true:=
 (.fn NQ (x,x) fun y=>
 (.gG (y.2 !=z0)
 (.ret (bn,y.2))
 (.gG (y.1==z0)
 (.ret (bn,3))
 (.fn FL (au (1048576*y.1)) fun aB=>
 (.fn0 Hp x trivial fun y_2=>
 (.fn C7 (y_2,aB.1) fun bI=>
 (.fn0 B2 bI trivial fun dG=>
 (.ret (dG,aB.2)))))))))
abbrev nx:bF:=⟨(.agg aG),(.pair (.agg aG) (.one yi)),gb,tR⟩
theorem ahN:aq Tryz.prog 35 (ah nx):=aM nx amc (fn:=Tryz.f35) Ig
def XB:List (Nat×Ev.Spec):=(35,ah nx)::Xv
theorem Ij:aj Tryz.prog XB:=aA (fn:=Tryz.f35) ahN Ig
end Go.Proofs.YtngdehlpoomaiaaGreat
