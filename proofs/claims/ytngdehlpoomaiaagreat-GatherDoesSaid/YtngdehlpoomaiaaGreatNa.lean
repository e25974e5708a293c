/- Models of the references: layers 2, 4, 9, 12. -/
import Derived.Test.YtngdehlpoomaiaaGreatLr
noncomputable section
set_option linter.unusedSectionVars false
set_option linter.unusedVariables false
set_option linter.unusedSimpArgs false
namespace Go.Proofs.YtngdehlpoomaiaaGreat
open Go Go.Ev Go.Proofs
def qm (x:I2):Tr I3 true:=
 (.gG (x.2==0)
 (.ret (0,0,3))
 (.b11 (x.1==(-9223372036854775808))
 (.gG (x.2==(-1))
 (.ret (0,0,4))
 (.od (x.2≠0)
 (.od (x.2≠0)
 (.iY ((Int.tmod x.1 x.2) !=0)
 (.iY (!((decide ((Int.tmod x.1 x.2)<0))==(decide (x.2<0))))
 (.ret ((au ((au (Int.tdiv x.1 x.2))- 1)),(au ((Int.tmod x.1 x.2)+x.2)),0))
 (.ret ((au (Int.tdiv x.1 x.2)),(Int.tmod x.1 x.2),0)))
 (.ret ((au (Int.tdiv x.1 x.2)),(Int.tmod x.1 x.2),0))))))
 (.od (x.2≠0)
 (.od (x.2≠0)
 (.iY ((Int.tmod x.1 x.2) !=0)
 (.iY (!((decide ((Int.tmod x.1 x.2)<0))==(decide (x.2<0))))
 (.ret ((au ((au (Int.tdiv x.1 x.2))- 1)),(au ((Int.tmod x.1 x.2)+x.2)),0))
 (.ret ((au (Int.tdiv x.1 x.2)),(Int.tmod x.1 x.2),0)))
 (.ret ((au (Int.tdiv x.1 x.2)),(Int.tmod x.1 x.2),0)))))))
def pL (x:I2):I3:=(qm x).val
def jF (x:I2):Prop:=(qm x).pre
abbrev m7:bF:=⟨(.pair (.one yi) (.one yi)),(.pair (.one yi) (.pair (.one yi) (.one yi))),jF,pL⟩
theorem aaF:aq Tryz.prog 84 (ah m7):=aM m7 qm (fn:=Tryz.f84) Fe
def Nj:List (Nat×Ev.Spec):=(84,ah m7)::Rv
theorem tn:aj Tryz.prog Nj:=aA (fn:=Tryz.f84) aaF Fe
def Qr (x:Int):aI:=⟨[],⟨cj 27 0 [(0,.v (.one (.i .i64))),(4,.v (.one (.i .i64))),(5,.v (.one (.i .i64)))],[],0,none,[],[0],[1,2],[.i,.i],[.i x]⟩,[⟨(.exit 0),.normal,⟨cj 27 0 [(4,.v (.one (.i .i64)))],[],0,none,[],[],[0],[.i],[]⟩⟩]⟩
def gq (x:Int) (s:I2):I2⊕Int:=
 (if (s.2>0) then
 (if ((au (s.1+s.2))<=3037000499) then
 (if ((au ((au (s.1+s.2))*(au (s.1+s.2))))<=x) then
 (Sum.inl ((au (s.1+s.2)),(au (Int.tdiv s.2 2)))) else
 (Sum.inl (s.1,(au (Int.tdiv s.2 2))))) else
 (Sum.inl (s.1,(au (Int.tdiv s.2 2))))) else
 (Sum.inr (s.1)))
def Bg (x:Int) (s:I2):Prop:=
 True
def HZ (x:Int) (s:I2):Tr (I2⊕Int) false:=
 (.iz (s.2>z0)
 (.iz ((au (s.1+s.2))<=3037000499)
 (.iz ((au ((au (s.1+s.2))*(au (s.1+s.2))))<=x)
 (.ret (.inl ((au (s.1+s.2)),(au (Int.tdiv s.2 2)))))
 (.ret (.inl (s.1,(au (Int.tdiv s.2 2))))))
 (.ret (.inl (s.1,(au (Int.tdiv s.2 2))))))
 (.ret (.inr (s.1))))
def aaG (x:Int):I2:=
 (if (x<0) then
 (0,1) else
 (ak (run (gq x) (0,2147483648)) fun r=>
 (r,0)))
def Co (x:Int):Prop:=
 (¬(x<0)->
 (Term (gq x) (Bg x) (0,2147483648)))
def ajG (x:Int):Tr I2 true:=
 (.wY (x<z0)
 (.ret (z0,z1))
 (aI.lp (Qr x) (HZ x) (z0,2147483648) fun r=>
 (.ret (r,z0))))
abbrev yB:bF:=⟨(.one yi),(.pair (.one yi) (.one yi)),Co,aaG⟩
theorem afz:aq Tryz.prog 79 (ah yB):=bS yB ajG (fn:=Tryz.f79) tn (aH.nil _ _) (fun x=>(bX tn 0 (Qr x) (HZ x) aK.nil))
def Rq:List (Nat×Ev.Spec):=(79,ah yB)::Nj
theorem E8:aj Tryz.prog Rq:=aA (fn:=Tryz.f79) afz tn
def GH (x:Int):Bool:=
 (if (x>=(-1048576)) then
 (decide (x<=1048576)) else
 false)
def aaK (_:Int):Prop:=True
def ajK (x:Int):Tr Bool false:=
 (.iz (x>=(-1048576))
 (.ret (decide (x<=1048576)))
 (.ret false))
abbrev ux:bF:=⟨(.one yi),(.one Ty.bool),aaK,GH⟩
theorem afD:aq Tryz.prog 133 (ah ux):=aM ux ajK (fn:=Tryz.f133) E8
def Rs:List (Nat×Ev.Spec):=(133,ah ux)::Rq
theorem Fa:aj Tryz.prog Rs:=aA (fn:=Tryz.f133) afD E8
def H6 (x:I3):Bool:=
 (ak (GH x.1) fun y=>
 (if (y=true) then
 (ak (GH x.2.1) fun aB=>
 (if (aB=true) then
 (ak (GH x.2.2) fun y_2=>
 y_2) else
 false)) else
 false))
def afC (_:I3):Prop:=True
def anm (x:I3):Tr Bool false:=
 (.fn0 ux x.1 trivial fun y=>
 (.iY y
 (.fn0 ux x.2.1 trivial fun aB=>
 (.iY aB
 (.fn0 ux x.2.2 trivial fun y_2=>
 (.ret y_2))
 (.ret false)))
 (.ret false)))
abbrev pM:bF:=⟨(.agg aG),(.one Ty.bool),afC,H6⟩
theorem ajJ:aq Tryz.prog 106 (ah pM):=aM pM anm (fn:=Tryz.f106) Fa
def XV:List (Nat×Ev.Spec):=(106,ah pM)::Rs
theorem IP:aj Tryz.prog XV:=aA (fn:=Tryz.f106) ajJ Fa
def aaL (x:(I3×I3)):I3:=
 (ak (H6 x.1) fun y=>
 (if ((!y)=true) then
 (0,0,0) else
 (ak (H6 x.2) fun aB=>
 (if ((!aB)=true) then
 (0,0,0) else
 ((au (x.1.1- x.2.1)),(au (x.1.2.1- x.2.2.1)),(au (x.1.2.2- x.2.2.2)))))))
def aaM (_:(I3×I3)):Prop:=True
def ajL (x:(I3×I3)):Tr I3 false:=
 (.fn0 pM x.1 trivial fun y=>
 (.iY (!y)
 (.ret bn)
 (.fn0 pM x.2 trivial fun aB=>
 (.iY (!aB)
 (.ret bn)
 (.ret ((au (x.1.1- x.2.1)),(au (x.1.2.1- x.2.2.1)),(au (x.1.2.2- x.2.2.2))))))))
abbrev yC:bF:=⟨(.pair (.agg aG) (.agg aG)),(.agg aG),aaM,aaL⟩
theorem afE:aq Tryz.prog 113 (ah yC):=aM yC ajL (fn:=Tryz.f113) IP
def Rt:List (Nat×Ev.Spec):=(113,ah yC)::XV
theorem Fb:aj Tryz.prog Rt:=aA (fn:=Tryz.f113) afE IP
def Qs (x:(I3×I3)):I2:=
 (ak (H6 x.1) fun y=>
 (if ((!y)=true) then
 (0,5) else
 (ak (H6 x.2) fun aB=>
 (if ((!aB)=true) then
 (0,5) else
 ((au ((au ((au (x.1.1*x.2.1))+(au (x.1.2.1*x.2.2.1))))+(au (x.1.2.2*x.2.2.2)))),0)))))
def afB (_:(I3×I3)):Prop:=True
def anl (x:(I3×I3)):Tr I2 false:=
 (.fn0 pM x.1 trivial fun y=>
 (.iY (!y)
 (.ret (z0,5))
 (.fn0 pM x.2 trivial fun aB=>
 (.iY (!aB)
 (.ret (z0,5))
 (.ret ((au ((au ((au (x.1.1*x.2.1))+(au (x.1.2.1*x.2.2.1))))+(au (x.1.2.2*x.2.2.2)))),z0))))))
abbrev Eb:bF:=⟨(.pair (.agg aG) (.agg aG)),(.pair (.one yi) (.one yi)),afB,Qs⟩
theorem ajI:aq Tryz.prog 78 (ah Eb):=aM Eb anl (fn:=Tryz.f78) Fb
def XU:List (Nat×Ev.Spec):=(78,ah Eb)::Rt
theorem IN:aj Tryz.prog XU:=aA (fn:=Tryz.f78) ajI Fb
def TV (_:(I3×I3)):Prop:=True
def Cp (x:(I3×I3)):Tr (I3×Int) false:=
 (.fn0 pM x.1 trivial fun y=>
 (.iY (!y)
 (.ret (bn,5))
 (.fn0 pM x.2 trivial fun aB=>
 (.iY (!aB)
 (.ret (bn,5))
 (.ret (((au ((au (x.1.2.1*x.2.2.2))- (au (x.1.2.2*x.2.2.1)))),(au ((au (x.1.2.2*x.2.1))- (au (x.1.1*x.2.2.2)))),(au ((au (x.1.1*x.2.2.1))- (au (x.1.2.1*x.2.1))))),0))))))
def Mr (x:(I3×I3)):(I3×Int):=(Cp x).val
abbrev m8:bF:=⟨(.pair (.agg aG) (.agg aG)),(.pair (.agg aG) (.one yi)),TV,Mr⟩
theorem W3:aq Tryz.prog 110 (ah m8):=aM m8 Cp (fn:=Tryz.f110) IN
def IL:List (Nat×Ev.Spec):=(110,ah m8)::XU
theorem zg:aj Tryz.prog IL:=aA (fn:=Tryz.f110) W3 IN
def Aw (x:Int):Int:=
 (if (x>0) then
 (au (0- x)) else
 x)
def W4 (_:Int):Prop:=True
def afF (x:Int):Tr Int false:=
 (.iz (x>z0)
 (.ret (au (z0- x)))
 (.ret x))
abbrev qn:bF:=⟨(.one yi),(.one yi),W4,Aw⟩
theorem aaN:aq Tryz.prog 134 (ah qn):=aM qn afF (fn:=Tryz.f134) zg
def Nk:List (Nat×Ev.Spec):=(134,ah qn)::IL
theorem BE:aj Tryz.prog Nk:=aA (fn:=Tryz.f134) aaN zg
def aaH (x:I3):Int:=
 (ak (Aw x.1) fun y=>
 (ak (Aw x.2.1) fun aB=>
 (ak (Aw x.2.2) fun y_2=>
 (if (y<=aB) then
 (if (y<=y_2) then
 0 else
 (if (aB<=y_2) then
 1 else
 2)) else
 (if (aB<=y_2) then
 1 else
 2)))))
def aaJ (_:I3):Prop:=True
def ajH (x:I3):Tr Int false:=
 (.fn0 qn x.1 trivial fun y=>
 (.fn0 qn x.2.1 trivial fun aB=>
 (.fn0 qn x.2.2 trivial fun y_2=>
 (.iz (y<=aB)
 (.iz (y<=y_2)
 (.ret z0)
 (.iz (aB<=y_2)
 (.ret z1)
 (.ret 2)))
 (.iz (aB<=y_2)
 (.ret z1)
 (.ret 2))))))
abbrev Ea:bF:=⟨(.agg aG),(.one yi),aaJ,aaH⟩
theorem afA:aq Tryz.prog 109 (ah Ea):=aM Ea ajH (fn:=Tryz.f109) BE
def Rr:List (Nat×Ev.Spec):=(109,ah Ea)::Nk
theorem E9:aj Tryz.prog Rr:=aA (fn:=Tryz.f109) afA BE
def uC (x:I3):Bool:=
 (if (x.1>=(-16384)) then
 (if (x.1<=16384) then
 (if (x.2.1>=(-16384)) then
 (if (x.2.1<=16384) then
 (if (x.2.2>=(-16384)) then
 (decide (x.2.2<=16384)) else
 false) else
 false) else
 false) else
 false) else
 false)
def TX (_:I3):Prop:=True
def aaO (x:I3):Tr Bool false:=
 (.iz (x.1>=(-16384))
 (.iz (x.1<=16384)
 (.iz (x.2.1>=(-16384))
 (.iz (x.2.1<=16384)
 (.iz (x.2.2>=(-16384))
 (.ret (decide (x.2.2<=16384)))
 (.ret false))
 (.ret false))
 (.ret false))
 (.ret false))
 (.ret false))
abbrev fN:bF:=⟨(.agg aG),(.one Ty.bool),TX,uC⟩
theorem W7:aq Tryz.prog 112 (ah fN):=aM fN aaO (fn:=Tryz.f112) E9
def IS:List (Nat×Ev.Spec):=(112,ah fN)::Rr
theorem rh:aj Tryz.prog IS:=aA (fn:=Tryz.f112) W7 E9
def Qu (x:(List I3)):aI:=⟨[],⟨cj 16 0 [(0,.v (.one (.full 0))),(3,.v (.one (.i .i64)))],[.row aG 0],0,none,[],[1],[0],[.i],[.l aG x]⟩,[⟨.ret,.ret,⟨cj 16 0 [(2,.v (.one (.b)))],[],0,none,[],[0],[],[],[.b false]⟩⟩,⟨(.exit 0),.normal,⟨cj 16 0 [],[],0,none,[],[],[],[],[]⟩⟩]⟩
def l7 (x:(List I3)) (s:Int):Int⊕(Unit⊕Unit):=
 (if (s<(x.length:Int)) then
 (ak (uC (x.getD s.toNat (0,0,0))) fun y=>
 (if ((!y)=true) then
 (Sum.inr (Sum.inl ())) else
 (Sum.inl (au (s+1))))) else
 (Sum.inr (Sum.inr (()))))
def Bh (x:(List I3)) (s:Int):Prop:=
 ((s<(x.length:Int))->
 (((0<=s)/\ (s<(x.length:Int)))/\
 ((s.toNat<x.length)/\
 (s.toNat<x.length))))
def H7 (x:(List I3)) (s:Int):Tr (Int⊕(Unit⊕Unit)) true:=
 (.i10 (s<(nL x))
 (.A7 s x
 (.fn0 fN (gT x s bn) trivial fun y=>
 (.iY (!y)
 (.ret (.inr (Sum.inl ())))
 (.ret (.inl (w1 s))))))
 (.ret (.inr (Sum.inr (())))))
def yE (x:(List I3)):Bool:=
 (ak (run (l7 x) 0) fun r=>
 (Sum.elim (fun a=>
 false) (fun b=>
 true) r))
def kP (x:(List I3)):Prop:=
 (Term (l7 x) (Bh x) 0)
def ajM (x:(List I3)):Tr Bool true:=
 (aI.lp (Qu x) (H7 x) z0 fun r=>
 (.Jr r (fun a=>
 (.ret false)) (fun b=>
 (.ret true))))
abbrev uy:bF:=⟨(.one (Ty.sl aG)),(.one Ty.bool),kP,yE⟩
theorem afG:aq Tryz.prog 87 (ah uy):=bS uy ajM (fn:=Tryz.f87) rh (aH.nil _ _) (fun x=>(bX rh 0 (Qu x) (H7 x) aK.nil))
def Ru:List (Nat×Ev.Spec):=(87,ah uy)::IS
theorem Fc:aj Tryz.prog Ru:=aA (fn:=Tryz.f87) afG rh
def TW (_:I9):Prop:=True
def Cs (x:I9):Tr (I3×Int) false:=
 (.fn0 fN x.1 trivial fun y=>
 (.iY (!y)
 (.ret (bn,5))
 (.fn0 fN x.2.1 trivial fun aB=>
 (.iY (!aB)
 (.ret (bn,5))
 (.fn0 fN x.2.2 trivial fun y_2=>
 (.iY (!y_2)
 (.ret (bn,5))
 (.fn0 yC (x.2.1,x.1) trivial fun bI=>
 (.fn0 yC (x.2.2,x.1) trivial fun dG=>
 (.fn0 m8 (bI,dG) trivial fun tw=>
 (.ret tw))))))))))
def uz (x:I9):(I3×Int):=(Cs x).val
abbrev qV:bF:=⟨(.pair (.agg aG) (.pair (.agg aG) (.agg aG))),(.pair (.agg aG) (.one yi)),TW,uz⟩
theorem W6:aq Tryz.prog 88 (ah qV):=aM qV Cs (fn:=Tryz.f88) Fc
def IQ:List (Nat×Ev.Spec):=(88,ah qV)::Ru
theorem zh:aj Tryz.prog IQ:=aA (fn:=Tryz.f88) W6 Fc
def H8 (x:(I3×I9)):I2:=
 (ak (uz (x.1,x.2.1,x.2.2.1)) fun y=>
 (if ((y.2 !=0)=true) then
 (0,5) else
 (ak (uC x.2.2.2) fun aB=>
 (if ((!aB)=true) then
 (0,5) else
 ((au ((au ((au (y.1.1*(au (x.2.2.2.1- x.1.1))))+(au (y.1.2.1*(au (x.2.2.2.2.1- x.1.2.1))))))+(au (y.1.2.2*(au (x.2.2.2.2.2- x.1.2.2)))))),0)))))
def afH (_:(I3×I9)):Prop:=True
def ann (x:(I3×I9)):Tr I2 false:=
 (.fn0 qV (x.1,x.2.1,x.2.2.1) trivial fun y=>
 (.iY (y.2 !=z0)
 (.ret (z0,5))
 (.fn0 fN x.2.2.2 trivial fun aB=>
 (.iY (!aB)
 (.ret (z0,5))
 (.ret ((au ((au ((au (y.1.1*(au (x.2.2.2.1- x.1.1))))+(au (y.1.2.1*(au (x.2.2.2.2.1- x.1.2.1))))))+(au (y.1.2.2*(au (x.2.2.2.2.2- x.1.2.2)))))),z0))))))
abbrev Ed:bF:=⟨(.pair (.agg aG) (.pair (.agg aG) (.pair (.agg aG) (.agg aG)))),(.pair (.one yi) (.one yi)),afH,H8⟩
theorem ajN:aq Tryz.prog 116 (ah Ed):=aM Ed ann (fn:=Tryz.f116) zh
def XW:List (Nat×Ev.Spec):=(116,ah Ed)::IQ
theorem IT:aj Tryz.prog XW:=aA (fn:=Tryz.f116) ajN zh
def uo (x:(List I3×I9)):Bool:=
 (ak (yE x.1) fun y=>
 (if (y=true) then
 (ak (yE [x.2.1,x.2.2.1,x.2.2.2]) fun aB=>
 aB) else
 false))
def lV (x:(List I3×I9)):Prop:=
 ((kP x.1)/\
 az (yE x.1) fun y=>
 ((y=true)->
 (kP [x.2.1,x.2.2.1,x.2.2.2])))
def aal (x:(List I3×I9)):Tr Bool true:=
 (.fn uy x.1 fun y=>
 (.BQ y
 (.fn uy [x.2.1,x.2.2.1,x.2.2.2] fun aB=>
 (.ret aB))
 (.ret false)))
abbrev qN:bF:=⟨(.pair (.one (Ty.sl aG)) (.agg cO)),(.one Ty.bool),lV,uo⟩
theorem Wx:aq Tryz.prog 114 (ah qN):=aM qN aal (fn:=Tryz.f114) IT
def Iw:List (Nat×Ev.Spec):=(114,ah qN)::XW
theorem za:aj Tryz.prog Iw:=aA (fn:=Tryz.f114) Wx IT
def kO (x:Int):Int:=
 (if (x<0) then
 (-1) else
 (if (x>0) then
 1 else
 0))
def aaj (_:Int):Prop:=True
def ajA (x:Int):Tr Int false:=
 (.iz (x<z0)
 (.ret (-1))
 (.iz (x>z0)
 (.ret z1)
 (.ret z0)))
abbrev DW:bF:=⟨(.one yi),(.one yi),aaj,kO⟩
theorem afi:aq Tryz.prog 135 (ah DW):=aM DW ajA (fn:=Tryz.f135) za
def Rk:List (Nat×Ev.Spec):=(135,ah DW)::Iw
theorem EV:aj Tryz.prog Rk:=aA (fn:=Tryz.f135) afi za
def vH (x:(I3×I9)):I2:=
 (ak (uo ([x.1],x.2)) fun y=>
 (if ((!y)=true) then
 (0,5) else
 (ak (H8 (x.2.1,x.2.2.1,x.2.2.2,x.1)) fun aB=>
 (ak (kO aB.1) fun y_2=>
 (y_2,0)))))
def r8 (x:(I3×I9)):Prop:=
 (lV ([x.1],x.2))
def afj (x:(I3×I9)):Tr I2 true:=
 (.fn qN ([x.1],x.2) fun y=>
 (.iY (!y)
 (.ret (z0,5))
 (.fn0 Ed (x.2.1,x.2.2.1,x.2.2.2,x.1) trivial fun aB=>
 (.fn0 DW aB.1 trivial fun y_2=>
 (.ret (y_2,z0))))))
abbrev um:bF:=⟨(.pair (.agg aG) (.agg cO)),(.pair (.one yi) (.one yi)),r8,vH⟩
theorem aak:aq Tryz.prog 115 (ah um):=aM um afj (fn:=Tryz.f115) EV
def M7:List (Nat×Ev.Spec):=(115,ah um)::Rk
theorem th:aj Tryz.prog M7:=aA (fn:=Tryz.f115) aak EV
def Qn (x:(I3×I3×I9)):aI:=⟨[],⟨cj 71 0 [(3,.v (.one (.ptr 0 0))),(4,.v (.one (.ptr 1 0))),(5,.v (.one (.ptr 2 0))),(12,.v (.one (.i .i64))),(13,.v (.one (.i .i64))),(14,.v (.one (.i .i64)))],[.cells [.i .i64,.i .i64,.i .i64] 27,.cells [.i .i64,.i .i64,.i .i64] 27,.cells [.i .i64,.i .i64,.i .i64,.i .i64,.i .i64,.i .i64,.i .i64,.i .i64,.i .i64] 44],0,none,[],[3,4,5,6,7,8,9,10,11,12,13,14,15,16,17],[0,1,2],[.i,.i,.i],[.i x.1.1,.i x.1.2.1,.i x.1.2.2,.i x.2.1.1,.i x.2.1.2.1,.i x.2.1.2.2,.i x.2.2.1.1,.i x.2.2.1.2.1,.i x.2.2.1.2.2,.i x.2.2.2.1.1,.i x.2.2.2.1.2.1,.i x.2.2.2.1.2.2,.i x.2.2.2.2.1,.i x.2.2.2.2.2.1,.i x.2.2.2.2.2.2]⟩,[⟨(.exit 0),.normal,⟨cj 71 0 [(12,.v (.one (.i .i64))),(13,.v (.one (.i .i64)))],[],0,none,[],[],[0,1],[.i,.i],[]⟩⟩]⟩
def cC (x:(I3×I3×I9)) (s:I3):I3⊕I2:=
 (if (s.2.2<3) then
 (ak (H8 (x.1,x.2.1,((List.getD [x.2.2.1.1,x.2.2.1.2.1,x.2.2.1.2.2,x.2.2.2.1.1,x.2.2.2.1.2.1,x.2.2.2.1.2.2,x.2.2.2.2.1,x.2.2.2.2.2.1,x.2.2.2.2.2.2] (0+(s.2.2.toNat*3)) 0),(List.getD [x.2.2.1.1,x.2.2.1.2.1,x.2.2.1.2.2,x.2.2.2.1.1,x.2.2.2.1.2.1,x.2.2.2.1.2.2,x.2.2.2.2.1,x.2.2.2.2.2.1,x.2.2.2.2.2.2] ((0+(s.2.2.toNat*3))+1) 0),(List.getD [x.2.2.1.1,x.2.2.1.2.1,x.2.2.1.2.2,x.2.2.2.1.1,x.2.2.2.1.2.1,x.2.2.2.1.2.2,x.2.2.2.2.1,x.2.2.2.2.2.1,x.2.2.2.2.2.2] (((0+(s.2.2.toNat*3))+1)+1) 0)),(List.getD [x.2.2.1.1,x.2.2.1.2.1,x.2.2.1.2.2,x.2.2.2.1.1,x.2.2.2.1.2.1,x.2.2.2.1.2.2,x.2.2.2.2.1,x.2.2.2.2.2.1,x.2.2.2.2.2.2] (0+((Int.toNat (Int.tmod (au (s.2.2+1)) 3))*3)) 0),(List.getD [x.2.2.1.1,x.2.2.1.2.1,x.2.2.1.2.2,x.2.2.2.1.1,x.2.2.2.1.2.1,x.2.2.2.1.2.2,x.2.2.2.2.1,x.2.2.2.2.2.1,x.2.2.2.2.2.2] ((0+((Int.toNat (Int.tmod (au (s.2.2+1)) 3))*3))+1) 0),(List.getD [x.2.2.1.1,x.2.2.1.2.1,x.2.2.1.2.2,x.2.2.2.1.1,x.2.2.2.1.2.1,x.2.2.2.1.2.2,x.2.2.2.2.1,x.2.2.2.2.2.1,x.2.2.2.2.2.2] (((0+((Int.toNat (Int.tmod (au (s.2.2+1)) 3))*3))+1)+1) 0))) fun y=>
 (if (y.1<0) then
 (if (y.1>0) then
 (Sum.inl ((au (s.1+1)),(au (s.2.1+1)),(au (s.2.2+1)))) else
 (Sum.inl ((au (s.1+1)),s.2.1,(au (s.2.2+1))))) else
 (if (y.1>0) then
 (Sum.inl (s.1,(au (s.2.1+1)),(au (s.2.2+1)))) else
 (Sum.inl (s.1,s.2.1,(au (s.2.2+1))))))) else
 (Sum.inr ((s.1,s.2.1))))
def Ba (x:(I3×I3×I9)) (s:I3):Prop:=
 ((s.2.2<3)->
 (((0<=s.2.2)/\ (s.2.2<3))/\
 ((((0+(s.2.2.toNat*3))+3)<=9)/\
 (((0<=(Int.tmod (au (s.2.2+1)) 3))/\ ((Int.tmod (au (s.2.2+1)) 3)<3))/\
 (((0+((Int.toNat (Int.tmod (au (s.2.2+1)) 3))*3))+3)<=9)))))
abbrev Qm (x:(I3×I3×I9)):= [x.2.2.1.1,x.2.2.1.2.1,x.2.2.1.2.2,x.2.2.2.1.1,x.2.2.2.1.2.1,x.2.2.2.1.2.2,x.2.2.2.2.1,x.2.2.2.2.2.1,x.2.2.2.2.2.2]
def HQ (x:(I3×I3×I9)) (s:I3):Tr (I3⊕I2) true:=
 (.i10 (s.2.2<3)
 (.oR s.2.2 3
 (.od (((0+((tN s.2.2)*3))+3)<=9)
 (.oR (Int.tmod (w1 s.2.2) 3) 3
 (.od (((0+((tN (Int.tmod (w1 s.2.2) 3))*3))+3)<=9)
 (.fn0 Ed (x.1,x.2.1,((List.getD (Qm x) (0+((tN s.2.2)*3)) z0),(List.getD (Qm x) ((0+((tN s.2.2)*3))+1) z0),(List.getD (Qm x) (((0+((tN s.2.2)*3))+1)+1) z0)),(List.getD (Qm x) (0+((tN (Int.tmod (w1 s.2.2) 3))*3)) z0),(List.getD (Qm x) ((0+((tN (Int.tmod (w1 s.2.2) 3))*3))+1) z0),(List.getD (Qm x) (((0+((tN (Int.tmod (w1 s.2.2) 3))*3))+1)+1) z0)) trivial fun y=>
 (.iz (y.1<z0)
 (.iz (y.1>z0)
 (.ret (.inl ((w1 s.1),(w1 s.2.1),(w1 s.2.2))))
 (.ret (.inl ((w1 s.1),s.2.1,(w1 s.2.2)))))
 (.iz (y.1>z0)
 (.ret (.inl (s.1,(w1 s.2.1),(w1 s.2.2))))
 (.ret (.inl (s.1,s.2.1,(w1 s.2.2)))))))))))
 (.ret (.inr ((s.1,s.2.1)))))
def aag (x:(I3×I3×I9)):(Bool×Int):=
 (ak (uo ([x.1,x.2.1],x.2.2)) fun y=>
 (if ((!y)=true) then
 (false,5) else
 (ak (vH (x.1,x.2.2)) fun aB=>
 (ak (vH x.2) fun y_2=>
 (if (((au (aB.1*y_2.1)) !=(-1))=true) then
 (false,0) else
 (ak (run (cC x) (0,0,0)) fun r=>
 (if ((r.1==0)=true) then
 (true,0) else
 ((r.2==0),0))))))))
def Ck (x:(I3×I3×I9)):Prop:=
 ((lV ([x.1,x.2.1],x.2.2))/\
 az (uo ([x.1,x.2.1],x.2.2)) fun y=>
 (¬((!y)=true)->
 ((r8 (x.1,x.2.2))/\
 az (vH (x.1,x.2.2)) fun aB=>
 ((r8 x.2)/\
 az (vH x.2) fun y_2=>
 (¬(((au (aB.1*y_2.1)) !=(-1))=true)->
 (Term (cC x) (Ba x) (0,0,0)))))))
def ajz (x:(I3×I3×I9)):Tr (Bool×Int) true:=
 (.fn qN ([x.1,x.2.1],x.2.2) fun y=>
 (.gG (!y)
 (.ret (false,5))
 (.fn um (x.1,x.2.2) fun aB=>
 (.fn um x.2 fun y_2=>
 (.gG ((au (aB.1*y_2.1)) !=(-1))
 (.ret (false,z0))
 (aI.lp (Qn x) (HQ x) bn fun r=>
 (.iY (r.1==z0)
 (.ret (true,z0))
 (.ret ((r.2==z0),z0)))))))))
abbrev DU:bF:=⟨(.pair (.agg aG) (.pair (.agg aG) (.agg cO))),(.pair (.one Ty.bool) (.one yi)),Ck,aag⟩
theorem afh:aq Tryz.prog 90 (ah DU):=bS DU ajz (fn:=Tryz.f90) th (aH.nil _ _) (fun x=>(bX th 0 (Qn x) (HQ x) aK.nil))
def Rj:List (Nat×Ev.Spec):=(90,ah DU)::M7
theorem wo:aj Tryz.prog Rj:=aA (fn:=Tryz.f90) afh th
end Go.Proofs.YtngdehlpoomaiaaGreat
