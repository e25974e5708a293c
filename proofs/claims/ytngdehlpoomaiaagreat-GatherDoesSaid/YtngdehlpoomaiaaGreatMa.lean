/- Models of frame's functions, and of gather's small ones. -/
import Derived.Test.YtngdehlpoomaiaaGreatLa
import Derived.Test.YtngdehlpoomaiaaGreatWb
noncomputable section
set_option linter.unusedSectionVars false
set_option linter.unusedVariables false
set_option linter.unusedSimpArgs false
namespace Go.Proofs.YtngdehlpoomaiaaGreat
open Go Go.Ev Go.Proofs
def Jt (x:Int):Int:=
 (if (x>0) then
 (au (0- x)) else
 x)
def akL (_:Int):Prop:=True
def aqC (x:Int):Tr Int false:=
 (.iz (x>z0)
 (.ret (au (z0- x)))
 (.ret x))
abbrev NV:bF:=⟨(.one yi),(.one yi),akL,Jt⟩
theorem anM:aq Tryz.prog 145 (ah NV):=aM NV aqC (fn:=Tryz.f145) Ij
def adi:List (Nat×Ev.Spec):=(145,ah NV)::XB
theorem CI:aj Tryz.prog adi:=aA (fn:=Tryz.f145) anM Ij
def Yr (x:I3):aI:=⟨[],⟨cj 23 0 [(3,.v (.one (.ptr 0 0))),(4,.v (.one (.i .i64))),(8,.v (.one (.i .i64)))],[.cells [.i .i64,.i .i64,.i .i64] 124],0,none,[],[],[2,3,4,0,1],[.i,.i,.i,.i,.i],[]⟩,[⟨(.exit 0),.normal,⟨cj 23 0 [(4,.v (.one (.i .i64)))],[],0,none,[],[],[0],[.i],[]⟩⟩]⟩
def fP (x:I3) (s:(Int×Int×I3)):(Int×Int×I3)⊕Int:=
 (if (s.2.2.2.2<3) then
 (ak (Jt (List.getD [s.1,s.2.1,s.2.2.1] (0+(s.2.2.2.2.toNat*1)) 0)) fun y=>
 (ak (Jt (List.getD [s.1,s.2.1,s.2.2.1] (0+(s.2.2.2.1.toNat*1)) 0)) fun aB=>
 (if (y<aB) then
 (Sum.inl (s.1,s.2.1,s.2.2.1,s.2.2.2.2,(au (s.2.2.2.2+1)))) else
 (Sum.inl (s.1,s.2.1,s.2.2.1,s.2.2.2.1,(au (s.2.2.2.2+1))))))) else
 (Sum.inr (s.2.2.2.1)))
def FE (x:I3) (s:(Int×Int×I3)):Prop:=
 ((s.2.2.2.2<3)->
 (((0<=s.2.2.2.2)/\ (s.2.2.2.2<3))/\
 ((((0+(s.2.2.2.2.toNat*1))+1)<=3)/\
 (az (Jt (List.getD [s.1,s.2.1,s.2.2.1] (0+(s.2.2.2.2.toNat*1)) 0)) fun y=>
 (((0<=s.2.2.2.1)/\ (s.2.2.2.1<3))/\
 (((0+(s.2.2.2.1.toNat*1))+1)<=3))))))
def NP (x:I3) (s:(Int×Int×I3)):Tr ((Int×Int×I3)⊕Int) true:=
 (.i10 (s.2.2.2.2<3)
 (.oR s.2.2.2.2 3
 (.od (((0+((tN s.2.2.2.2)*1))+1)<=3)
 (.fn0 NV (List.getD [s.1,s.2.1,s.2.2.1] (0+((tN s.2.2.2.2)*1)) z0) trivial fun y=>
 (.oR s.2.2.2.1 3
 (.od (((0+((tN s.2.2.2.1)*1))+1)<=3)
 (.fn0 NV (List.getD [s.1,s.2.1,s.2.2.1] (0+((tN s.2.2.2.1)*1)) z0) trivial fun aB=>
 (.iz (y<aB)
 (.ret (.inl (s.1,s.2.1,s.2.2.1,s.2.2.2.2,(w1 s.2.2.2.2))))
 (.ret (.inl (s.1,s.2.1,s.2.2.1,s.2.2.2.1,(w1 s.2.2.2.2)))))))))))
 (.ret (.inr (s.2.2.2.1))))
def akH (x:I3):Int:=
 (ak (ig x) fun y=>
 (ak (run (fP x) (y.1,y.2.1,y.2.2,0,0)) fun r=>
 r))
def G4 (x:I3):Prop:=
 (az (ig x) fun y=>
 (Term (fP x) (FE x) (y.1,y.2.1,y.2.2,0,0)))
def anK (x:I3):Tr Int true:=
 (.fn0 iX x trivial fun y=>
 (aI.lp (Yr x) (NP x) (y.1,y.2.1,y.2.2,uQ) fun r=>
 (.ret r)))
abbrev Ka:bF:=⟨(.agg aG),(.one yi),G4,akH⟩
theorem akI:aq Tryz.prog 129 (ah Ka):=bS Ka anK (fn:=Tryz.f129) CI (aH.nil _ _) (fun x=>(bX CI 0 (Yr x) (NP x) aK.nil))
def X3:List (Nat×Ev.Spec):=(129,ah Ka)::adi
theorem IV:aj Tryz.prog X3:=aA (fn:=Tryz.f129) akI CI
def BZ (x:Int):Int:=
 (ak (Lc (x,1024)) fun y=>
 y)
def qA (x:Int):Prop:=
 (ve (x,1024))
def ahG (x:Int):Tr Int true:=
 (.fn xB (x,1024) fun y=>
 (.ret y))
abbrev tQ:bF:=⟨(.one yi),(.one yi),qA,BZ⟩
theorem aeh:aq Tryz.prog 147 (ah tQ):=aM tQ ahG (fn:=Tryz.f147) IV
def QT:List (Nat×Ev.Spec):=(147,ah tQ)::X3
theorem wj:aj Tryz.prog QT:=aA (fn:=Tryz.f147) aeh IV
def ahp (x:(I3×Bool)):I3:=
 (ak (BZ x.1.1) fun y=>
 (ak (BZ x.1.2.1) fun aB=>
 (ak (BZ x.1.2.2) fun y_2=>
 (y,aB,y_2))))
def F4 (x:(I3×Bool)):Prop:=
 ((qA x.1.1)/\
 az (BZ x.1.1) fun y=>
 ((qA x.1.2.1)/\
 az (BZ x.1.2.1) fun aB=>
 (qA x.1.2.2)))
def alS (x:(I3×Bool)):Tr I3 true:=
 (.fn tQ x.1.1 fun y=>
 (.fn tQ x.1.2.1 fun aB=>
 (.fn tQ x.1.2.2 fun y_2=>
 (.ret (y,aB,y_2)))))
abbrev C6:bF:=⟨(.pair (.agg aG) (.jO 147 .none)),(.agg aG),F4,ahp⟩
theorem ahq:aq Tryz.prog 70 (ah C6):=bS C6 alS (fn:=Tryz.f70) wj (aH.nil _ _) (fun x=>(aK.pW bt (aj.F0 wj (aH.nil _ _)) mixed 0 4 aK.nil (by kernel_rfl)))
def Xu:List (Nat×Ev.Spec):=(70,zD C6.p (ah C6) (ah C7))::QT
theorem Ie:aj Tryz.prog Xu:=aA (fn:=Tryz.f70) (uT ahq (Vn)) wj
def ab1 (x:I3):I3:=
 (ak (fof x) fun y=>
 (ak (ahp (y,false)) fun aB=>
 (ak (SD aB) fun y_2=>
 y_2)))
def zV (x:I3):Prop:=
 (az (fof x) fun y=>
 (F4 (y,false)))
def al9 (x:I3):Tr I3 true:=
 (.fn0 Hp x trivial fun y=>
 (.fn C6 (y,false) fun aB=>
 (.fn0 B2 aB trivial fun y_2=>
 (.ret y_2))))
abbrev De:bF:=⟨(.agg aG),(.agg aG),zV,ab1⟩
theorem ahH:aq Tryz.prog 131 (ah De):=aM De al9 (fn:=Tryz.f131) Ie
def Xz:List (Nat×Ev.Spec):=(131,ah De)::Xu
theorem Ii:aj Tryz.prog Xz:=aA (fn:=Tryz.f131) ahH Ie
def Dg (x:I3):Tr (((I3×I3)×I3)×Int) true:=
 (.fn nx x fun y=>
 (.gG (y.2 !=0)
 (.ret (((bn,bn),bn),y.2))
 (.fn Ka y.1 fun aB=>
 (.oR (Int.tmod (au (aB+1)) 3) 3
 (.od (((0+((Int.toNat (Int.tmod (au (aB+1)) 3))*1))+1)<=3)
 (.fn0 B2 ((cond (Nat.beq (0+((Int.toNat (Int.tmod (au (aB+1)) 3))*1)) 0) 1 0),(cond (Nat.beq (0+((Int.toNat (Int.tmod (au (aB+1)) 3))*1)) 1) 1 0),(cond (Nat.beq (0+((Int.toNat (Int.tmod (au (aB+1)) 3))*1)) 2) 1 0)) trivial fun y_2=>
 (.fn p9 (y_2,y.1) fun bI=>
 (.gG (bI.2 !=0)
 (.ret (((bn,bn),bn),bI.2))
 (.fn nx bI.1 fun dG=>
 (.gG (dG.2 !=0)
 (.ret (((bn,bn),bn),dG.2))
 (.fn p9 (y.1,dG.1) fun tw=>
 (.gG (tw.2 !=0)
 (.ret (((bn,bn),bn),tw.2))
 (.fn De tw.1 fun Kh=>
 (.ret (((dG.1,Kh),y.1),0)))))))))))))))
def ahI (x:I3):(((I3×I3)×I3)×Int):=(Dg x).val
def Ga (x:I3):Prop:=(Dg x).pre
abbrev JF:bF:=⟨(.agg aG),(.pair (.agg (Ty.prod (Ty.prod aG aG) aG)) (.one yi)),Ga,ahI⟩
theorem ahJ:aq Tryz.prog 103 (ah JF):=aM JF Dg (fn:=Tryz.f103) Ii
def XA:List (Nat×Ev.Spec):=(103,ah JF)::Xz
theorem yX:aj Tryz.prog XA:=aA (fn:=Tryz.f103) ahJ Ii
def fat (x:(((I3×I3)×I3)×I3)):I3:=
 (ak (fof x.1.1.1) fun y=>
 (ak (fof x.1.1.2) fun aB=>
 (ak (fof x.1.2) fun y_2=>
 (ak (SD ((au ((au ((au (y.1*x.2.1))+(au (aB.1*x.2.2.1))))+(au (y_2.1*x.2.2.2)))),(au ((au ((au (y.2.1*x.2.1))+(au (aB.2.1*x.2.2.1))))+(au (y_2.2.1*x.2.2.2)))),(au ((au ((au (y.2.2*x.2.1))+(au (aB.2.2*x.2.2.1))))+(au (y_2.2.2*x.2.2.2)))))) fun bI=>
 (ak (ab1 bI) fun dG=>
 dG)))))
def Sx (x:(((I3×I3)×I3)×I3)):Prop:=
 (az (fof x.1.1.1) fun y=>
 (az (fof x.1.1.2) fun aB=>
 (az (fof x.1.2) fun y_2=>
 (az (SD ((au ((au ((au (y.1*x.2.1))+(au (aB.1*x.2.2.1))))+(au (y_2.1*x.2.2.2)))),(au ((au ((au (y.2.1*x.2.1))+(au (aB.2.1*x.2.2.1))))+(au (y_2.2.1*x.2.2.2)))),(au ((au ((au (y.2.2*x.2.1))+(au (aB.2.2*x.2.2.1))))+(au (y_2.2.2*x.2.2.2)))))) fun bI=>
 (zV bI)))))
def arA (x:(((I3×I3)×I3)×I3)):Tr I3 true:=
 (.fn0 Hp x.1.1.1 trivial fun y=>
 (.fn0 Hp x.1.1.2 trivial fun aB=>
 (.fn0 Hp x.1.2 trivial fun y_2=>
 (.fn0 B2 ((au ((au ((au (y.1*x.2.1))+(au (aB.1*x.2.2.1))))+(au (y_2.1*x.2.2.2)))),(au ((au ((au (y.2.1*x.2.1))+(au (aB.2.1*x.2.2.1))))+(au (y_2.2.1*x.2.2.2)))),(au ((au ((au (y.2.2*x.2.1))+(au (aB.2.2*x.2.2.1))))+(au (y_2.2.2*x.2.2.2))))) trivial fun bI=>
 (.fn De bI fun dG=>
 (.ret dG))))))
abbrev ab0:bF:=⟨(.pair (.agg (Ty.prod (Ty.prod aG aG) aG)) (.pair (.one yi) (.pair (.one yi) (.one yi)))),(.agg aG),Sx,fat⟩
theorem ape:aq Tryz.prog 104 (ah ab0):=bS ab0 arA (fn:=Tryz.f104) yX (aH.nil _ _) (fun x=>(aK.pW bt (aj.F0 yX (aH.nil _ _)) mixed 0 4 aK.nil (by kernel_rfl)))
def akc:List (Nat×Ev.Spec):=(104,ah ab0)::XA
theorem QO:aj Tryz.prog akc:=aA (fn:=Tryz.f104) ape yX
def tP (x:(I3×I2)):Tr (I3×Int) true:=
 (.fn JF x.1 fun y=>
 (.gG (y.2 !=0)
 (.ret (bn,y.2))
 (.wY ((bB x.2.1 x.2.2)<(-1024))
 (.ret (bn,1))
 (.wY ((bw x.2.1 x.2.2)>1024)
 (.ret (bn,1))
 (.fn FL (bw (au ((au (1048576- (au (x.2.1*x.2.1))))- (au (x.2.2*x.2.2)))) 0) fun aB=>
 (.fn ab0 (y.1,x.2.1,x.2.2,aB.1) fun y_2=>
 (.ret (y_2,aB.2))))))))
def Sy (x:(I3×I2)):(I3×Int):=(tP x).val
def xA (x:(I3×I2)):Prop:=(tP x).pre
abbrev zR:bF:=⟨(.pair (.agg aG) (.agg dh)),(.pair (.agg aG) (.one yi)),xA,Sy⟩
theorem Y7:aq Tryz.prog 76 (ah zR):=aM zR tP (fn:=Tryz.f76) QO
def MN:List (Nat×Ev.Spec):=(76,ah zR)::akc
theorem Bk:aj Tryz.prog MN:=aA (fn:=Tryz.f76) Y7 QO
def vh (x:(I3×I3)):Tr I2 true:=
 (.wY ((bB (bB (bB (bB (bB x.1.1 x.1.2.1) x.1.2.2) x.2.1) x.2.2.1) x.2.2.2)<(-2048))
 (.ret (0,5))
 (.wY ((bw (bw (bw (bw (bw x.1.1 x.1.2.1) x.1.2.2) x.2.1) x.2.2.1) x.2.2.2)>2048)
 (.ret (0,5))
 (.fn NQ x fun y=>
 (.ret ((bB (au (Int.tdiv (bw y.1 0) 1024)) 1024),y.2)))))
def Dc (x:(I3×I3)):I2:=(vh x).val
def pD (x:(I3×I3)):Prop:=(vh x).pre
abbrev qz:bF:=⟨(.pair (.agg aG) (.agg aG)),(.pair (.one yi) (.one yi)),pD,Dc⟩
theorem Vv:aq Tryz.prog 37 (ah qz):=aM qz vh (fn:=Tryz.f37) Bk
def Ih:List (Nat×Ev.Spec):=(37,ah qz)::MN
theorem yW:aj Tryz.prog Ih:=aA (fn:=Tryz.f37) Vv Bk
def SI (x:I2):Bool:=
 (if (x.1>=0) then
 (decide (x.1<=x.2)) else
 false)
def VE (_:I2):Prop:=True
def aem (x:I2):Tr Bool false:=
 (.iz (x.1>=z0)
 (.ret (decide (x.1<=x.2)))
 (.ret false))
abbrev mW:bF:=⟨(.pair (.one yi) (.one yi)),(.one Ty.bool),VE,SI⟩
theorem Zg:aq Tryz.prog 50 (ah mW):=aM mW aem (fn:=Tryz.f50) yW
def MR:List (Nat×Ev.Spec):=(50,ah mW)::Ih
theorem Bn:aj Tryz.prog MR:=aA (fn:=Tryz.f50) Zg yW
def Li (x:Int):Bool:=
 (if ((x !=0)=true) then
 default else
 false)
def qe (x:Int):Prop:=
 (((x !=0)=true)->
 False)
def amg (x:Int):Tr Bool true:=
 (.BQ (x !=z0)
 (.og false False False.elim (.ret default))
 (.ret false))
abbrev kA:bF:=⟨(.one yi),.none,qe,Li⟩
theorem ahT:aq Tryz.prog 41 (ah kA):=aM kA amg (fn:=Tryz.f41) Bn
def XE:List (Nat×Ev.Spec):=(41,ah kA)::MR
theorem Il:aj Tryz.prog XE:=aA (fn:=Tryz.f41) ahT Bn
def zZ (x:I9):Tr I3 true:=
 (.fn ug x fun y=>
 (.fn kA y.2 fun aB=>
 (.iY (!(((au (Int.tdiv y.1.1 16384))==0)&&(((au (Int.tdiv y.1.2.1 16384))==0)&&(((au (Int.tdiv y.1.2.2 16384))==0)&&true))))
 (.ret ((au (Int.tdiv y.1.1 16384)),(au (Int.tdiv y.1.2.1 16384)),(au (Int.tdiv y.1.2.2 16384))))
 (.ret y.1))))
def SG (x:I9):I3:=(zZ x).val
def xJ (x:I9):Prop:=(zZ x).pre
abbrev tU:bF:=⟨(.agg cO),(.agg aG),xJ,SG⟩
theorem Zd:aq Tryz.prog 42 (ah tU):=aM tU zZ (fn:=Tryz.f42) Il
def MQ:List (Nat×Ev.Spec):=(42,ah tU)::XE
theorem Bm:aj Tryz.prog MQ:=aA (fn:=Tryz.f42) Zd Il
def Hq (x:I2):Int:=
 (ak (G6 ((au (x.1*x.2)),1024)) fun y=>
 (ak (Li y.2.2) fun aB=>
 y.1))
def qd (x:I2):Prop:=
 ((rq ((au (x.1*x.2)),1024))/\
 az (G6 ((au (x.1*x.2)),1024)) fun y=>
 (qe y.2.2))
def ame (x:I2):Tr Int true:=
 (.fn zx ((au (x.1*x.2)),1024) fun y=>
 (.fn kA y.2.2 fun aB=>
 (.ret y.1)))
abbrev zX:bF:=⟨(.pair (.one yi) (.ptr (.int .i64))),(.one yi),qd,Hq⟩
theorem ahP:aq Tryz.prog 94 (ah zX):=aM zX ame (fn:=Tryz.f94) Bm
def XC:List (Nat×Ev.Spec):=(94,ah zX)::MQ
theorem Ik:aj Tryz.prog XC:=aA (fn:=Tryz.f94) ahP Bm
def JH (x:(I3×I3×Int)):I3:=
 (ak (Hq (x.2.1.1,x.2.2)) fun y=>
 (ak (Hq (x.2.1.2.1,x.2.2)) fun aB=>
 (ak (Hq (x.2.1.2.2,x.2.2)) fun y_2=>
 ((au (x.1.1+y)),(au (x.1.2.1+aB)),(au (x.1.2.2+y_2))))))
def rP (x:(I3×I3×Int)):Prop:=
 ((qd (x.2.1.1,x.2.2))/\
 az (Hq (x.2.1.1,x.2.2)) fun y=>
 ((qd (x.2.1.2.1,x.2.2))/\
 az (Hq (x.2.1.2.1,x.2.2)) fun aB=>
 (qd (x.2.1.2.2,x.2.2))))
def aek (x:(I3×I3×Int)):Tr I3 true:=
 (.fn zX (x.2.1.1,x.2.2) fun y=>
 (.fn zX (x.2.1.2.1,x.2.2) fun aB=>
 (.fn zX (x.2.1.2.2,x.2.2) fun y_2=>
 (.ret ((au (x.1.1+y)),(au (x.1.2.1+aB)),(au (x.1.2.2+y_2)))))))
abbrev tS:bF:=⟨(.pair (.agg aG) (.pair (.agg aG) (.one yi))),(.agg aG),rP,JH⟩
theorem Zb:aq Tryz.prog 60 (ah tS):=aM tS aek (fn:=Tryz.f60) Ik
def MP:List (Nat×Ev.Spec):=(60,ah tS)::XC
theorem Bl:aj Tryz.prog MP:=aA (fn:=Tryz.f60) Zb Ik
end Go.Proofs.YtngdehlpoomaiaaGreat
namespace Go.Proofs.YtngdehlpoomaiaaGreat
open Go Go.Ev Go.Proofs
def aqH (r b:Int):Bool:=decide (au ((BitVec.ofInt 64 r^^^BitVec.ofInt 64 b).toNat:Nat)<0)
theorem agk (x:BitVec 64):au (x.toNat:Nat)=x.toInt:=by
 rw [au,IntKind.wrap_i64,BitVec.toInt_eq_toNat_cond]
 have:=x.isLt
 split<;>omega
theorem ak6 {r b:Int} (h1: -9223372036854775808<=r) (h2:r<=9223372036854775807) (h3: -9223372036854775808<=b) (h4:b<=9223372036854775807):aqH r b=(decide (r<0)^^decide (b<0)):=by
 have hm: ∀n:Int,-9223372036854775808<=n->n<=9223372036854775807->(BitVec.ofInt 64 n).msb=decide (n<0):=fun n h h'=>by
  rw [BitVec.msb_eq_toInt,BitVec.toInt_ofInt,Int.bmod_eq_of_le (by omega) (by omega)]
 unfold aqH
 rw [agk,<- BitVec.msb_eq_toInt,BitVec.msb_xor,hm r h1 h2,hm b h3 h4]
theorem tdm {a b:Int} (hb:0<b):(a.tmod b≠0/\ a<0->a.tdiv b=a / b+1/\ a.tmod b=a % b- b)/\ (¬(a.tmod b≠0/\ a<0)->a.tdiv b=a / b/\ a.tmod b=a % b):=by
 have h1:=Int.mul_tdiv_add_tmod a b
 have h2:=Int.mul_ediv_add_emod a b
 have h3:=Int.emod_nonneg a (show b≠0 by omega)
 have h4:=Int.emod_lt_of_pos a hb
 by_cases ha:0<=a
 ·have e1:=Int.tdiv_eq_ediv_of_nonneg (b:=b) ha
  have e2:=Int.tmod_eq_emod_of_nonneg (b:=b) ha
  refine ⟨fun h=>by omega,fun _=>⟨e1,e2⟩⟩
 ·have e0:a.tdiv b=if a % b=0 then a / b else a / b+1:=by
   rw [Int.tdiv_eq_ediv]
   have:(0<=a\/ b ∣ a)↔a % b=0:=⟨fun h=>h.elim (fun h=>by omega) Int.emod_eq_zero_of_dvd,fun h=> .inr (Int.dvd_of_emod_eq_zero h)⟩
   have hs:b.sign=1:=Int.sign_eq_one_of_pos hb
   simp only [this,hs]
   split<;>simp
  have e2:a.tmod b=if a % b=0 then 0 else a % b- b:=by
   rw [e0] at h1
   split at h1<;>rename_i hz
   ·rw [if_pos hz];omega
   ·rw [if_neg hz]
    rw [Int.mul_add] at h1;omega
  rw [e0,e2]
  by_cases hz:a % b=0
  ·simp [hz]
  ·simp only [hz,if_false]
   refine ⟨fun _=>by simp,fun h=>absurd ⟨by omega,by omega⟩ h⟩
theorem RS (x:Int×Int):rq x:=by
 unfold rq G8 az
 intro h
 have h0:x.2≠0:=fun h0=>h (by simp [h0])
 exact ⟨h0,h0⟩
theorem N0 {a b:Int} (h1: -9223372036854775808<=a) (h2:a<=9223372036854775807) (hb:0<b) (dR:b<=9223372036854775807):G6 (a,b)=(a / b,a % b,0):=by
 have ho:G8 (a,b)=0:=by
  unfold G8
  dsimp only
  rw [if_neg (by simp;omega)]
  split
  ·rw [if_neg (by simp;omega)]
  ·rfl
 have h3:=Int.emod_nonneg a (show b≠0 by omega)
 have h4:=Int.emod_lt_of_pos a hb
 have h6:=Int.mul_ediv_add_emod a b
 have h5: -9223372036854775808<=a / b/\ a / b<=9223372036854775807:=by
  by_cases ha:0<=a
  ·have:=Int.ediv_nonneg ha (show 0≤b by omega)
   have:=Int.ediv_le_self b ha
   omega
  ·have hq:=Int.ediv_neg_of_neg_of_pos (show a<0 by omega) hb
   have e:=Int.mul_nonneg (show 0<=b- 1 by omega) (show 0<= -(a / b)- 1 by omega)
   have e':(b- 1)*(-(a / b)- 1)= -(b*(a / b))- b+a / b+1:=by grind
   omega
 obtain ⟨t1,t2⟩:=tdm (a:=a) hb
 have hx: ∀r:Int,-9223372036854775808<=r->r<=9223372036854775807->(au (((BitVec.toNat ((BitVec.ofInt 64 r)^^^(BitVec.ofInt 64 b))):Nat):Int)<0↔r<0):=fun r hr hr2=>by
  have:=ak6 hr hr2 (show-9223372036854775808<=b by omega) dR
  unfold aqH at this
  simp only [show¬b<0 by omega,decide_false,Bool.xor_false,decide_eq_decide] at this
  exact this
 unfold G6
 rw [ho]
 dsimp only [ak]
 rw [if_neg (by decide)]
 by_cases hc:a.tmod b≠0/\ a<0
 ·obtain ⟨e1,e2⟩:=t1 hc
  rw [if_pos (by simpa using hc.1),if_pos ((hx _ (by omega) (by omega)).2 (by omega)),e1,e2]
  have hn:a / b<0:=Int.ediv_neg_of_neg_of_pos hc.2 hb
  rw [ax (n:=a / b+1) (by omega) (by omega),ax (by omega) (by omega),ax (by omega) (by omega)]
  congr 1
  ·omega
  ·congr 1;omega
 ·obtain ⟨e1,e2⟩:=t2 hc
  have Zj:(au (a.tdiv b),a.tmod b,(0:Int))=(a / b,a % b,0):=by rw [e1,e2,ax (by omega) (by omega)]
  split
  ·rename_i hne
   rw [if_neg (fun h=>by
    have h:=(hx _ (by omega) (by omega)).1 h
    omega)]
   exact Zj
  ·exact Zj
theorem as4 {a b:Int} (hb:0<=b) (h:b<a):b*b<a*a:=by
 have h1:=Int.mul_nonneg (show 0<=a- b- 1 by omega) (show 0<=a+b by omega)
 have e:(a- b- 1)*(a+b)=a*a- b*b- a- b:=by grind
 omega
theorem V4 {a b:Int} (hb:0<=b) (h:a*a<=b*b):a<=b:=by
 refine Int.not_lt.1 fun hlt=> ?_
 have:=as4 hb hlt
 omega
theorem qF {a b:Int} (hb:0<=b) (h:a*a<b*b):a<b:=by
 refine Int.not_le.1 fun hle=> ?_
 have h1:=Int.mul_nonneg (show 0<=a- b by omega) (show 0<=a+b by omega)
 have e:(a- b)*(a+b)=a*a- b*b:=by grind
 omega
theorem sF (a:Int):0<=a*a:=by
 rcases Int.le_total 0 a with h|h
 ·exact Int.mul_nonneg h h
 ·have:=Int.mul_nonneg (show 0≤ -a by omega) (show 0≤ -a by omega)
  rwa [Int.neg_mul_neg] at this
def Je (n r:Int):Prop:=0<=r/\ r*r<=n/\ n<(r+1)*(r+1)
theorem Je.uniq {n r s:Int} (h:Je n r) (g:Je n s):r=s:=by
 have h1:=qF (a:=r) (b:=s+1) (by have:=g.1;omega) (by have:=h.2.1;have:=g.2.2;omega)
 have h2:=qF (a:=s) (b:=r+1) (by have:=h.1;omega) (by have:=g.2.1;have:=h.2.2;omega)
 omega
theorem MD {n:Int} (h0:0<=n) (h1:n<=9223372036854775807):yL (3037000499,n)/\ Je n (J4 (3037000499,n)):=by
 have key:=V9 (step:=kI (3037000499,n)) (pre:=yK (3037000499,n)) (fun s=>0<=s.1/\ s.1<=s.2/\ s.2<=3037000499/\ s.1*s.1<=n/\ n<(s.2+1)*(s.2+1)) (fun s=>(s.2- s.1).toNat) (fun r=>Je n r) (fun s hJ=>by
  obtain ⟨lo,hi⟩:=s
  obtain ⟨j1,j2,j3,j4,j5⟩:=hJ
  dsimp only at j1 j2 j3 j4 j5
  refine ⟨trivial,?_⟩
  unfold kI
  dsimp only
  by_cases hlt:lo<hi
  ·rw [if_pos hlt]
   have e1:au ((au (hi- lo))+1)=hi- lo+1:=by rw [ax (n:=hi- lo) (by omega) (by omega),ax (by omega) (by omega)]
   have e2:au (Int.tdiv (hi- lo+1) 2)=(hi- lo+1) / 2:=by rw [Int.tdiv_eq_ediv_of_nonneg (by omega),ax (by omega) (by omega)]
   have e3:au (lo+(hi- lo+1) / 2)=lo+(hi- lo+1) / 2:=ax (by omega) (by omega)
   rw [e1,e2,e3]
   obtain ⟨m,hm⟩: ∃m,m=lo+(hi- lo+1) / 2:=⟨_,rfl⟩
   rw [<- hm]
   have m1:lo<m/\ m<=hi:=by omega
   have hmm:m*m<=3037000499*3037000499:=by
    have:=Int.mul_nonneg (show 0<=3037000499- m by omega) (show 0<=3037000499+m by omega)
    have e:(3037000499- m)*(3037000499+m)=3037000499*3037000499- m*m:=by grind
    omega
   have hm0:=sF m
   have e4:au (m*m)=m*m:=ax (by omega) (by omega)
   have e5:au (m- 1)=m- 1:=ax (by omega) (by omega)
   have es:adp (m,n)=decide (m*m<=n):=by unfold adp;rw [e4]
   unfold ak
   rw [es,e5]
   by_cases hs:m*m<=n
   ·rw [decide_eq_true hs]
    dsimp only
    rw [if_pos rfl]
    refine ⟨fun s' h=> ?_,fun r h=>(by cases h)⟩
    cases h
    exact ⟨⟨by omega,by omega,j3,hs,j5⟩,by dsimp only;omega⟩
   ·rw [decide_eq_false hs]
    dsimp only
    rw [if_neg (by decide)]
    refine ⟨fun s' h=> ?_,fun r h=>(by cases h)⟩
    cases h
    exact ⟨⟨j1,by dsimp only;omega,by dsimp only;omega,j4,by dsimp only;rw [show m- 1+1=m by omega];omega⟩,by dsimp only;omega⟩
  ·rw [if_neg hlt]
   refine ⟨fun s' h=>(by cases h),fun r h=> ?_⟩
   cases h
   have:lo=hi:=by omega
   subst this
   exact ⟨j1,j4,j5⟩) (0,3037000499) ⟨by decide,by decide,by decide,h0,by dsimp only;omega⟩
 exact key
theorem X9 {n:Int} (h0:0<=n) (h1:n<=9223372036854775807):uP n/\ ∃r,N7 n=(r,0)/\ Je n r:=by
 obtain ⟨s1,s2⟩:=MD h0 h1
 unfold uP N7 ak
 rw [if_neg (by omega)]
 exact ⟨fun _=>s1,_,rfl,s2⟩
theorem u9 {a b:Int} (h1: -9223372036854775808<=a) (h2:a<=9223372036854775807) (hb:0<b) (dR:b<=9223372036854775807):ve (a,b)/\ Lc (a,b)=a / b:=by
 refine ⟨RS _,?_⟩
 unfold Lc ak
 rw [N0 h1 h2 hb dR]
def qw (p q:P3):Int:=p.1*q.1+p.2.1*q.2.1+p.2.2*q.2.2
theorem aiH (x:List P3) (hl:x.length<4611686018427387904):qE x/\ S0 x= !x.any (fun p=> !decide (Nr p)):=by
 have hn: ∀a b c:Int,Ys [a,b,c]=decide (Nr (a,b,c)):=fun a b c=>by
  rw [(AL [a,b,c] (by simp)).2,Bool.eq_iff_iff];simp
 refine iq x hl _ _ _ (fun i hi=> ?_) (fun i v hv=> ?_) ?_
 ·unfold x4
  intro h
  simp only [Int.toNat_natCast]
  exact ⟨⟨by omega,by omega⟩,by omega,by omega,(AL _ (by simp)).1⟩
 ·have hlt:=cz hv
  unfold jR
  rw [if_pos (by omega),Int.toNat_natCast,gW hv]
  unfold ak
  rw [hn]
 ·unfold jR
  rw [if_neg (by omega)]
theorem akK (x:P3×P3) (p q:P3):TR (ie x) (I6 x) (p.1,p.2.1,p.2.2,q.1,q.2.1,q.2.2,0,0) fun r=>r=au (au (au (0+au (p.1*q.1))+au (p.2.1*q.2.1))+au (p.2.2*q.2.2)):=by
 refine TR.go (s':=(p.1,p.2.1,p.2.2,q.1,q.2.1,q.2.2,au (0+au (p.1*q.1)),1)) (fun _=>by dsimp only;refine ⟨?_,?_,?_,?_⟩<;>decide) (by unfold ie;rw [if_pos (by dsimp only;decide)];rfl) ?_
 refine TR.go (s':=(p.1,p.2.1,p.2.2,q.1,q.2.1,q.2.2,au (au (0+au (p.1*q.1))+au (p.2.1*q.2.1)),2)) (fun _=>by dsimp only;refine ⟨?_,?_,?_,?_⟩<;>decide) (by unfold ie;rw [if_pos (by dsimp only;decide)];rfl) ?_
 refine TR.go (s':=(p.1,p.2.1,p.2.2,q.1,q.2.1,q.2.2,au (au (au (0+au (p.1*q.1))+au (p.2.1*q.2.1))+au (p.2.2*q.2.2)),3)) (fun _=>by dsimp only;refine ⟨?_,?_,?_,?_⟩<;>decide) (by unfold ie;rw [if_pos (by dsimp only;decide)];rfl) ?_
 exact TR.stop (fun h=>absurd h (by dsimp only;decide)) (by unfold ie;rw [if_neg (by dsimp only;decide)]) rfl
theorem mb {a b A:Int} (hA:0<=A) (h1: -A<=a/\ a<=A) (h2: -A<=b/\ b<=A): -(A*A)<=a*b/\ a*b<=A*A:=qJ h1.1 h1.2 h2.1 h2.2
theorem NR {p q:P3} (hp:Nr p) (hq:Nr q):uL (p,q)/\ abl (p,q)=(qw p q,0):=by
 obtain ⟨i1,i2⟩:=Gk (x:= [p,q]) (by simp) (fun r hr=>by
  simp only [List.mem_cons,List.not_mem_nil,or_false] at hr
  rcases hr with rfl|rfl
  ·exact hp
  ·exact hq)
 have m1:=mb (A:=1048576) (by decide) hp.1 hq.1
 have m2:=mb (A:=1048576) (by decide) hp.2.1 hq.2.1
 have m3:=mb (A:=1048576) (by decide) hp.2.2 hq.2.2
 have k:=akK (p,q) p q
 have SS: ∀p:P3,ig p=p:=fun _=>rfl
 unfold uL abl az ak
 dsimp only
 rw [i2,SS,SS]
 refine ⟨⟨i1,fun _=>k.1⟩,?_⟩
 rw [if_neg (by decide),k.2]
 congr 1
 unfold qw
 rw [ax (n:=p.1*q.1) (by omega) (by omega),ax (n:=p.2.1*q.2.1) (by omega) (by omega),ax (n:=p.2.2*q.2.2) (by omega) (by omega),ax (n:=0+p.1*q.1) (by omega) (by omega),ax (n:=0+p.1*q.1+p.2.1*q.2.1) (by omega) (by omega),ax (by omega) (by omega)]
 omega
theorem akJ {p:P3} (hp: ¬Nr p) (q:P3):uL (p,q)/\ abl (p,q)=(0,5):=by
 obtain ⟨i1,i2⟩:=aiH [p,q] (by simp)
 have i3:S0 [p,q]=false:=by
  rw [i2]
  simp [hp]
 unfold uL abl az ak
 dsimp only
 rw [i3]
 exact ⟨⟨i1,fun h=>absurd rfl h⟩,rfl⟩
def U3 (u:P3):Prop:=(-1024<=u.1/\ u.1<=1024)/\ (-1024<=u.2.1/\ u.2.1<=1024)/\ (-1024<=u.2.2/\ u.2.2<=1024)
def I4 (v:P3) (r:Int):P3:=(1048576*v.1 / r,1048576*v.2.1 / r,1048576*v.2.2 / r)
theorem G0 {v r:Int} (hv: -1048576<=v/\ v<=1048576) (hr:0<r) (hr2:r<=9223372036854775807):qp (v,r)/\ I1 (v,r)=1048576*v / r:=by
 have e:au (1048576*v)=1048576*v:=ax (by omega) (by omega)
 obtain ⟨f1,f2⟩:=u9 (a:=1048576*v) (b:=r) (by omega) (by omega) hr hr2
 unfold qp I1 ak
 dsimp only
 rw [e]
 exact ⟨f1,f2⟩
theorem GN {v n r:Int} (hn:v*v<=n) (hr:Je (1048576*n) r):1024*v<=r/\ -(1024*v)<=r:=by
 have h1:(1024*v)*(1024*v)<(r+1)*(r+1):=by
  have e:(1024*v)*(1024*v)=1048576*(v*v):=by grind
  have:=hr.2.2
  omega
 have h2:=qF (a:=1024*v) (b:=r+1) (by have:=hr.1;omega) h1
 have h3:=qF (a:= -(1024*v)) (b:=r+1) (by have:=hr.1;omega) (by rw [Int.neg_mul_neg];exact h1)
 omega
theorem aaf {a r:Int} (hr:0<r) (h1:1024*a<=r) (h2: -(1024*a)<=r): -1024<=1048576*a / r/\ 1048576*a / r<=1024:=by
 constructor
 ·rw [Int.le_ediv_iff_mul_le hr];omega
 ·have:1048576*a / r<1025:=by rw [Int.ediv_lt_iff_lt_mul hr];omega
  omega
theorem Yk {v:P3} (hv:Nr v) (h0:v≠(0,0,0)):gb v/\ ∃r,0<r/\ Je (1048576*qw v v) r/\ tR v=(I4 v r,0)/\ U3 (I4 v r)/\ I4 v r≠(0,0,0):=by
 obtain ⟨a,b,c⟩:=v
 obtain ⟨d1,d2⟩:=NR hv hv
 have s1:=sF a
 have s2:=sF b
 have s3:=sF c
 have m1:=mb (A:=1048576) (by decide) hv.1 hv.1
 have m2:=mb (A:=1048576) (by decide) hv.2.1 hv.2.1
 have m3:=mb (A:=1048576) (by decide) hv.2.2 hv.2.2
 dsimp only at m1 m2 m3
 obtain ⟨n,hn⟩: ∃n,n=qw (a,b,c) (a,b,c):=⟨_,rfl⟩
 have hn':n=a*a+b*b+c*c:=hn
 have hpos:0<n:=by
  refine Int.lt_of_not_ge fun hle=>h0 ?_
  have z1:a*a=0:=by omega
  have z2:b*b=0:=by omega
  have z3:c*c=0:=by omega
  rw [Int.mul_eq_zero.1 z1|>.elim id id,Int.mul_eq_zero.1 z2|>.elim id id,Int.mul_eq_zero.1 z3|>.elim id id]
 obtain ⟨q1,r,q2,hr⟩:=X9 (n:=1048576*n) (by omega) (by omega)
 obtain ⟨pa,pb,pc⟩:(1024*a<=r/\ -(1024*a)<=r)/\ (1024*b<=r/\ -(1024*b)<=r)/\ (1024*c<=r/\ -(1024*c)<=r):=⟨GN (by omega) hr,GN (by omega) hr,GN (by omega) hr⟩
 have hrp:0<r:=by
  refine Int.lt_of_not_ge fun hle=> ?_
  have e:r=0:=by have:=hr.1;omega
  have:=hr.2.2
  rw [e] at this
  omega
 have hr2:r<=9223372036854775807:=by
  have:=qF (a:=r) (b:=9223372036854775807) (by decide) (by have:=hr.2.1;omega)
  omega
 obtain ⟨ua,va⟩:=G0 hv.1 hrp hr2
 obtain ⟨ub,vb⟩:=G0 hv.2.1 hrp hr2
 obtain ⟨uc,vc⟩:=G0 hv.2.2 hrp hr2
 dsimp only at ua ub uc va vb vc
 have ew:au (1048576*n)=1048576*n:=ax (by omega) (by omega)
 have eE:abV ((a,b,c),r)=I4 (a,b,c) r:=by
  unfold abV ak I4
  dsimp only
  rw [va,vb,vc]
 have eP:F5 ((a,b,c),r):=⟨ua,ub,uc⟩
 have ba:=aaf hrp pa.1 pa.2
 have bb:=aaf hrp pb.1 pb.2
 have bc:=aaf hrp pc.1 pc.2
 have hfo: ∀p:P3,fof p=p:=fun _=>rfl
 have hfw: ∀p:P3,SD p=p:=fun _=>rfl
 refine ⟨?_,r,hrp,by rw [<- hn];exact hr,?_,⟨ba,bb,bc⟩,fun hz=> ?_⟩
 ·unfold gb az
  refine ⟨d1,?_⟩
  rw [d2,<- hn]
  dsimp only
  rw [ew]
  refine fun _ _=>⟨q1,?_⟩
  rw [q2,hfo]
  exact eP
 ·unfold tR ak
  rw [d2,<- hn]
  dsimp only
  rw [if_neg (by decide),if_neg (by simp;omega),ew,q2,hfo,eE,hfw]
 ·have z1:1048576*a / r=0:=congrArg Prod.fst hz
  have z2:1048576*b / r=0:=congrArg (fun p=>p.2.1) hz
  have z3:1048576*c / r=0:=congrArg (fun p=>p.2.2) hz
  have nn: ∀x:Int,1048576*x / r=0->0<=x/\ 1048576*x<r:=fun x hx=>by
   have h1:=Int.mul_ediv_add_emod (1048576*x) r
   have h2:=Int.emod_nonneg (1048576*x) (show r≠0 by omega)
   have h3:=Int.emod_lt_of_pos (1048576*x) hrp
   rw [hx,Int.mul_zero] at h1
   omega
  obtain ⟨a0,a1⟩:=nn a z1
  obtain ⟨b0,b1⟩:=nn b z2
  obtain ⟨c0,c1⟩:=nn c z3
  have hS:r*r<=(1024*(a+b+c))*(1024*(a+b+c)):=by
   have e:(1024*(a+b+c))*(1024*(a+b+c))=1048576*(a*a+b*b+c*c)+2097152*(a*b+b*c+a*c):=by grind
   have p1:=Int.mul_nonneg a0 b0
   have p2:=Int.mul_nonneg b0 c0
   have p3:=Int.mul_nonneg a0 c0
   have:=hr.2.1
   omega
  have:=V4 (by omega) hS
  omega
theorem akB {v:P3} (hv: ¬Nr v):gb v/\ tR v=((0,0,0),5):=by
 obtain ⟨d1,d2⟩:=akJ hv v
 unfold gb tR az ak
 rw [d2]
 exact ⟨⟨d1,fun h=>absurd (by decide) h⟩,rfl⟩
theorem RJ:gb (0,0,0)/\ tR (0,0,0)=((0,0,0),3):=by
 obtain ⟨d1,d2⟩:=NR (p:=(0,0,0)) (q:=(0,0,0)) (by decide) (by decide)
 unfold gb tR az ak
 rw [d2]
 exact ⟨⟨d1,fun _ h=>absurd (by decide) h⟩,rfl⟩
end Go.Proofs.YtngdehlpoomaiaaGreat
