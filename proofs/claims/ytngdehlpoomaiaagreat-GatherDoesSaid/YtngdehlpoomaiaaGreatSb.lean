/- Models of functions of layers 1, 3, 9, 12, 13: fractions, hits, boxes that are met. -/
import Derived.Test.YtngdehlpoomaiaaGreatUc
noncomputable section
set_option linter.unusedSectionVars false
set_option linter.unusedVariables false
set_option linter.unusedSimpArgs false
namespace Go.Proofs.YtngdehlpoomaiaaGreat
open Go Go.Ev Go.Proofs
abbrev Fy:Type:=(Int×Int×Int×Int×Int×Int×Int×Int×Int×Int×Int×Int×Int×Int×I3)
def akW (x:I2):Bool:=
 (if (x.2>=0) then
 (if (x.2<1000000000000000000) then
 (if (x.1>=(-4000000000000000000)) then
 (decide (x.1<=4000000000000000000)) else
 false) else
 false) else
 false)
def akX (_:I2):Prop:=True
def aqE (x:I2):Tr Bool false:=
 (.iz (x.2>=z0)
 (.iz (x.2<1000000000000000000)
 (.iz (x.1>=(-4000000000000000000))
 (.ret (decide (x.1<=4000000000000000000)))
 (.ret false))
 (.ret false))
 (.ret false))
abbrev N3:bF:=⟨(.agg dh),(.one Ty.bool),akX,akW⟩
theorem anU:aq Tryz.prog 240 (ah N3):=aM N3 aqE (fn:=Tryz.f240) Rb
def adl:List (Nat×Ev.Spec):=(240,ah N3)::aki
theorem Nv:aj Tryz.prog adl:=aA (fn:=Tryz.f240) anU Rb
def abu (x:I2):(I2×Int):=
 (ak (akW x) fun y=>
 (if ((!y)=true) then
 ((0,0),4) else
 (x,0)))
def abw (_:I2):Prop:=True
def ak3 (x:I2):Tr (I2×Int) false:=
 (.fn0 N3 x trivial fun y=>
 (.iY (!y)
 (.ret (uQ,4))
 (.ret (x,z0))))
abbrev FK:bF:=⟨(.agg dh),(.pair (.agg dh) (.one yi)),abw,abu⟩
theorem agp:aq Tryz.prog 241 (ah FK):=aM FK ak3 (fn:=Tryz.f241) Nv
def RG:List (Nat×Ev.Spec):=(241,ah FK)::adl
theorem Fj:aj Tryz.prog RG:=aA (fn:=Tryz.f241) agp Nv
def aqF (x:I2):(I2×Int):=
 (ak (akW x) fun y=>
 (if ((!y)=true) then
 ((0,0),1) else
 (if ((x.2==0)=true) then
 (((au (0- x.1)),0),0) else
 (ak (abu ((au ((au (0- x.1))- 1)),(au (1000000000000000000- x.2)))) fun aB=>
 aB))))
def ak1 (_:I2):Prop:=True
def aqG (x:I2):Tr (I2×Int) false:=
 (.fn0 N3 x trivial fun y=>
 (.iY (!y)
 (.ret (uQ,z1))
 (.iY (x.2==z0)
 (.ret (((au (z0- x.1)),z0),z0))
 (.fn0 FK ((wm (au (z0- x.1))),(au (1000000000000000000- x.2))) trivial fun aB=>
 (.ret aB)))))
abbrev Ux:bF:=⟨(.agg dh),(.pair (.agg dh) (.one yi)),ak1,aqF⟩
theorem anW:aq Tryz.prog 234 (ah Ux):=aM Ux aqG (fn:=Tryz.f234) Fj
def ado:List (Nat×Ev.Spec):=(234,ah Ux)::RG
theorem Nx:aj Tryz.prog ado:=aA (fn:=Tryz.f234) anW Fj
def ady (x:Int):I2:=
 ((au (Int.tdiv x 1000000000)),(Int.tmod x 1000000000))
def Yx (_:Int):Prop:=True
def agm (x:Int):Tr I2 false:=
 (.ret ((au (Int.tdiv x 1000000000)),(Int.tmod x 1000000000)))
abbrev uO:bF:=⟨(.one yi),(.agg dh),Yx,ady⟩
theorem abo:aq Tryz.prog 233 (ah uO):=aM uO agm (fn:=Tryz.f233) Nx
def Nu:List (Nat×Ev.Spec):=(233,ah uO)::ado
theorem BH:aj Tryz.prog Nu:=aA (fn:=Tryz.f233) abo Nx
def akZ (_:I2):Prop:=True
def abr (x:I2):Tr (I2×Int) false:=
 (.iz ((bw x.1 x.2)>1000000000000000000)
 (.ret (uQ,2))
 (.iz ((bB x.1 x.2)<(-1000000000000000000))
 (.ret (uQ,2))
 (.fn0 uO (bw x.1 (au (0- x.1))) trivial fun y=>
 (.fn0 uO (bw x.2 (au (0- x.2))) trivial fun aB=>
 (.iY (!((decide (x.1<0))==(decide (x.2<0))))
 (.fn0 Ux ((au ((au ((au (y.1*aB.1))+(au (Int.tdiv (au ((au (y.1*aB.2))+(au (y.2*aB.1)))) 1000000000))))+(au (Int.tdiv (au ((au (y.2*aB.2))+(au ((Int.tmod (au ((au (y.1*aB.2))+(au (y.2*aB.1)))) 1000000000)*1000000000)))) 1000000000000000000)))),(Int.tmod (au ((au (y.2*aB.2))+(au ((Int.tmod (au ((au (y.1*aB.2))+(au (y.2*aB.1)))) 1000000000)*1000000000)))) 1000000000000000000)) trivial fun y_2=>
 (.ret y_2))
 (.ret (((au ((au ((au (y.1*aB.1))+(au (Int.tdiv (au ((au (y.1*aB.2))+(au (y.2*aB.1)))) 1000000000))))+(au (Int.tdiv (au ((au (y.2*aB.2))+(au ((Int.tmod (au ((au (y.1*aB.2))+(au (y.2*aB.1)))) 1000000000)*1000000000)))) 1000000000000000000)))),(Int.tmod (au ((au (y.2*aB.2))+(au ((Int.tmod (au ((au (y.1*aB.2))+(au (y.2*aB.1)))) 1000000000)*1000000000)))) 1000000000000000000)),0)))))))
def abq (x:I2):(I2×Int):=(abr x).val
abbrev N5:bF:=⟨(.pair (.one yi) (.one yi)),(.pair (.agg dh) (.one yi)),akZ,abq⟩
theorem anV:aq Tryz.prog 213 (ah N5):=aM N5 abr (fn:=Tryz.f213) BH
def adn:List (Nat×Ev.Spec):=(213,ah N5)::Nu
theorem Nw:aj Tryz.prog adn:=aA (fn:=Tryz.f213) anV BH
def anS (x:(I2×I2)):Int:=
 (if (((x.1.1==x.2.1)&&((x.1.2==x.2.2)&&true))=true) then
 0 else
 (ak (compare (x.1.1,x.2.1)) fun y=>
 (ak (compare (x.1.2,x.2.2)) fun aB=>
 (ak (KT [y,aB]) fun y_2=>
 y_2))))
def NZ (x:(I2×I2)):Prop:=
 (¬(((x.1.1==x.2.1)&&((x.1.2==x.2.2)&&true))=true)->
 (az (compare (x.1.1,x.2.1)) fun y=>
 (az (compare (x.1.2,x.2.2)) fun aB=>
 (pZ [y,aB]))))
def aqD (x:(I2×I2)):Tr Int true:=
 (.gG ((x.1.1==x.2.1)&&((x.1.2==x.2.2)&&true))
 (.ret z0)
 (.fn0 eZ (x.1.1,x.2.1) trivial fun y=>
 (.fn0 eZ (x.1.2,x.2.2) trivial fun aB=>
 (.fn uY [y,aB] fun y_2=>
 (.ret y_2)))))
abbrev Uw:bF:=⟨(.pair (.agg dh) (.agg dh)),(.one yi),NZ,anS⟩
theorem anT:aq Tryz.prog 214 (ah Uw):=aM Uw aqD (fn:=Tryz.f214) Nw
def adk:List (Nat×Ev.Spec):=(214,ah Uw)::adn
theorem Nt:aj Tryz.prog adk:=aA (fn:=Tryz.f214) anT Nw
def B1 (x:I2):Bool:=
 (if (x.2>=1) then
 (if (x.2<=1000000000000000000) then
 (if (x.1>=(-1000000000000000000)) then
 (decide (x.1<=1000000000000000000)) else
 false) else
 false) else
 false)
def Za (_:I2):Prop:=True
def ahL (x:I2):Tr Bool false:=
 (.iz (x.2>=z1)
 (.iz (x.2<=1000000000000000000)
 (.iz (x.1>=(-1000000000000000000))
 (.ret (decide (x.1<=1000000000000000000)))
 (.ret false))
 (.ret false))
 (.ret false))
abbrev xI:bF:=⟨(.agg dh),(.one Ty.bool),Za,B1⟩
theorem aej:aq Tryz.prog 212 (ah xI):=aM xI ahL (fn:=Tryz.f212) Nt
def QV:List (Nat×Ev.Spec):=(212,ah xI)::adk
theorem EG:aj Tryz.prog QV:=aA (fn:=Tryz.f212) aej Nt
def fto (x:(I2×I2)):Int:=
 (ak (B1 x.1) fun y=>
 (ak (B1 x.2) fun aB=>
 (if (y=true) then
 (if (aB=true) then
 (ak (abq (x.1.1,x.2.2)) fun y_2=>
 (ak (abq (x.2.1,x.1.2)) fun bI=>
 (ak (anS (y_2.1,bI.1)) fun dG=>
 dG))) else
 (if (aB=true) then
 (-1) else
 (if (y=true) then
 1 else
 (ak (compare (x.1.1,x.2.1)) fun y_2=>
 (ak (compare (x.1.2,x.2.2)) fun bI=>
 (ak (KT [y_2,bI]) fun dG=>
 dG)))))) else
 (if (aB=true) then
 (-1) else
 (if (y=true) then
 1 else
 (ak (compare (x.1.1,x.2.1)) fun y_2=>
 (ak (compare (x.1.2,x.2.2)) fun bI=>
 (ak (KT [y_2,bI]) fun dG=>
 dG))))))))
def SC (x:(I2×I2)):Prop:=
 (az (B1 x.1) fun y=>
 (az (B1 x.2) fun aB=>
 (((y=true)->
 (((aB=true)->
 (az (abq (x.1.1,x.2.2)) fun y_2=>
 (az (abq (x.2.1,x.1.2)) fun bI=>
 (NZ (y_2.1,bI.1)))))/\
 (¬(aB=true)->
 (¬(aB=true)->
 (¬(y=true)->
 (az (compare (x.1.1,x.2.1)) fun y_2=>
 (az (compare (x.1.2,x.2.2)) fun bI=>
 (pZ [y_2,bI]))))))))/\
 (¬(y=true)->
 (¬(aB=true)->
 (¬(y=true)->
 (az (compare (x.1.1,x.2.1)) fun y_2=>
 (az (compare (x.1.2,x.2.2)) fun bI=>
 (pZ [y_2,bI])))))))))
def arE (x:(I2×I2)):Tr Int true:=
 (.fn0 xI x.1 trivial fun y=>
 (.fn0 xI x.2 trivial fun aB=>
 (.b11 y
 (.b11 aB
 (.fn0 N5 (x.1.1,x.2.2) trivial fun y_2=>
 (.fn0 N5 (x.2.1,x.1.2) trivial fun bI=>
 (.fn Uw (y_2.1,bI.1) fun dG=>
 (.ret dG))))
 (.gG aB
 (.ret (-1))
 (.gG y
 (.ret z1)
 (.fn0 eZ (x.1.1,x.2.1) trivial fun y_2=>
 (.fn0 eZ (x.1.2,x.2.2) trivial fun bI=>
 (.fn uY [y_2,bI] fun dG=>
 (.ret dG)))))))
 (.gG aB
 (.ret (-1))
 (.gG y
 (.ret z1)
 (.fn0 eZ (x.1.1,x.2.1) trivial fun y_2=>
 (.fn0 eZ (x.1.2,x.2.2) trivial fun bI=>
 (.fn uY [y_2,bI] fun dG=>
 (.ret dG)))))))))
abbrev ab4:bF:=⟨(.pair (.agg dh) (.agg dh)),(.one yi),SC,fto⟩
theorem aph:aq Tryz.prog 189 (ah ab4):=aM ab4 arE (fn:=Tryz.f189) EG
def ake:List (Nat×Ev.Spec):=(189,ah ab4)::QV
theorem QW:aj Tryz.prog ake:=aA (fn:=Tryz.f189) aph EG
def aeb (x:(I2×I2)):Int:=
 (ak (fto x) fun y=>
 y)
def C9 (x:(I2×I2)):Prop:=
 (SC x)
def apf (x:(I2×I2)):Tr Int true:=
 (.fn ab4 x fun y=>
 (.ret y))
abbrev BY:bF:=⟨(.pair (.agg dh) (.agg dh)),(.one yi),C9,aeb⟩
theorem al6:aq Tryz.prog 171 (ah BY):=aM BY apf (fn:=Tryz.f171) QW
def ac1:List (Nat×Ev.Spec):=(171,ah BY)::ake
theorem MM:aj Tryz.prog ac1:=aA (fn:=Tryz.f171) al6 QW
def Tf (x:(Int×Int×Int×I2×I2)):Tr (Bool×Bool×Bool×Bool×I2×I2) true:=
 (.fn BY ((x.1,x.2.2.1),x.2.2.2.1) fun y=>
 (.i11 (y>0)
 (.fn BY ((x.2.1,x.2.2.1),x.2.2.2.2) fun aB=>
 (.iz (aB<0)
 (.pn 0 2
 (.ret (false,false,false,false,(x.1,x.2.2.1),x.2.1,x.2.2.1)))
 (.pn 0 2
 (.ret (false,false,false,false,(x.1,x.2.2.1),x.2.2.2.2)))))
 (.fn BY ((x.2.1,x.2.2.1),x.2.2.2.2) fun aB=>
 (.iz (aB<0)
 (.pn 0 2
 (.ret (false,false,false,false,x.2.2.2.1,x.2.1,x.2.2.1)))
 (.pn 0 2
 (.ret (false,false,false,false,x.2.2.2)))))))
def aqh (x:(Int×Int×Int×I2×I2)):(Bool×Bool×Bool×Bool×I2×I2):=(Tf x).val
def L0 (x:(Int×Int×Int×I2×I2)):Prop:=(Tf x).pre
abbrev LZ:FnW:=⟨(.pair (.val (.one yi)) (.pair (.val (.one yi)) (.pair (.val (.one yi)) (.pair (.ptr (.prod (.int .i64) (.int .i64)) 159) (.ptr (.prod (.int .i64) (.int .i64)) 159))))),.none,L0,aqh⟩
theorem am3:aq Tryz.prog 170 (lN LZ):=aq.trW LZ Tf (fn:=Tryz.f170) bt MM mixed (by kernel_rfl) (aH.nil _ _) (fun x=>aK.nil) (fun x=>(by kernel_rfl)) fun x r0 Q=>(by kernel_rfl)
def adf:List (Nat×Ev.Spec):=(170,lN LZ)::ac1
theorem CH:aj Tryz.prog adf:=aA (fn:=Tryz.f170) am3 MM
def Qa (x:(I3×I9)):aI:=⟨[],⟨cj 113 0 [(8,.v (.one (.ptr 0 0))),(9,.v (.one (.ptr 1 0))),(10,.v (.one (.jO 170 0 [.loc 0 0,.loc 1 0]))),(11,.v (.one (.ptr 2 0))),(12,.v (.one (.ptr 3 0))),(13,.v (.one (.ptr 4 0))),(14,.v (.one (.ptr 5 0))),(40,.v (.one (.i .i64)))],[.cells [.i .i64,.i .i64] 159,.cells [.i .i64,.i .i64] 159,.cells [.i .i64,.i .i64,.i .i64] 124,.cells [.i .i64,.i .i64,.i .i64] 124,.cells [.i .i64,.i .i64,.i .i64] 124,.cells [.i .i64,.i .i64,.i .i64] 124],0,none,[],[],[1,2,3,4,5,6,7,8,9,10,11,12,13,14,15,16,0],[.i,.i,.i,.i,.i,.i,.i,.i,.i,.i,.i,.i,.i,.i,.i,.i,.i],[]⟩,[⟨.ret,.ret,⟨cj 113 0 [(6,.v (.one (.b))),(7,.v (.one (.i .i64)))],[],0,none,[],[0,1],[],[],[.b false,.i 0]⟩⟩,⟨(.exit 1),.normal,⟨cj 113 0 [(8,.v (.one (.ptr 0 0))),(9,.v (.one (.ptr 1 0)))],[.cells [.i .i64,.i .i64] 159,.cells [.i .i64,.i .i64] 159],0,none,[],[],[0,1,2,3],[.i,.i,.i,.i],[]⟩⟩]⟩
def jy (x:(I3×I9)) (s:Fy):Tr (Fy⊕(Unit⊕(Int×I3))) true:=
 (.i10 (s.2.2.2.2.2.2.2.2.2.2.2.2.2.2.2.2<3)
 (.oR s.2.2.2.2.2.2.2.2.2.2.2.2.2.2.2.2 3
 (.od (((0+(s.2.2.2.2.2.2.2.2.2.2.2.2.2.2.2.2.toNat*1))+1)<=3)
 (.oR s.2.2.2.2.2.2.2.2.2.2.2.2.2.2.2.2 3
 (.od (((0+(s.2.2.2.2.2.2.2.2.2.2.2.2.2.2.2.2.toNat*1))+1)<=3)
 (.i11 ((au ((List.getD [s.2.2.2.2.2.2.2.1,s.2.2.2.2.2.2.2.2.1,s.2.2.2.2.2.2.2.2.2.1] (0+(s.2.2.2.2.2.2.2.2.2.2.2.2.2.2.2.2.toNat*1)) 0)- (List.getD [s.2.2.2.2.1,s.2.2.2.2.2.1,s.2.2.2.2.2.2.1] (0+(s.2.2.2.2.2.2.2.2.2.2.2.2.2.2.2.2.toNat*1)) 0)))>0)
 (.oR s.2.2.2.2.2.2.2.2.2.2.2.2.2.2.2.2 3
 (.od (((0+(s.2.2.2.2.2.2.2.2.2.2.2.2.2.2.2.2.toNat*1))+1)<=3)
 (.oR s.2.2.2.2.2.2.2.2.2.2.2.2.2.2.2.2 3
 (.od (((0+(s.2.2.2.2.2.2.2.2.2.2.2.2.2.2.2.2.toNat*1))+1)<=3)
 (.oR s.2.2.2.2.2.2.2.2.2.2.2.2.2.2.2.2 3
 (.od (((0+(s.2.2.2.2.2.2.2.2.2.2.2.2.2.2.2.2.toNat*1))+1)<=3)
 (.oR s.2.2.2.2.2.2.2.2.2.2.2.2.2.2.2.2 3
 (.od (((0+(s.2.2.2.2.2.2.2.2.2.2.2.2.2.2.2.2.toNat*1))+1)<=3)
 (.fnW LZ ((au ((List.getD [s.2.2.2.2.2.2.2.2.2.2.1,s.2.2.2.2.2.2.2.2.2.2.2.1,s.2.2.2.2.2.2.2.2.2.2.2.2.1] (0+(s.2.2.2.2.2.2.2.2.2.2.2.2.2.2.2.2.toNat*1)) 0)- (List.getD [s.2.2.2.2.1,s.2.2.2.2.2.1,s.2.2.2.2.2.2.1] (0+(s.2.2.2.2.2.2.2.2.2.2.2.2.2.2.2.2.toNat*1)) 0))),(au ((List.getD [s.2.2.2.2.2.2.2.2.2.2.2.2.2.1,s.2.2.2.2.2.2.2.2.2.2.2.2.2.2.1,s.2.2.2.2.2.2.2.2.2.2.2.2.2.2.2.1] (0+(s.2.2.2.2.2.2.2.2.2.2.2.2.2.2.2.2.toNat*1)) 0)- (List.getD [s.2.2.2.2.1,s.2.2.2.2.2.1,s.2.2.2.2.2.2.1] (0+(s.2.2.2.2.2.2.2.2.2.2.2.2.2.2.2.2.toNat*1)) 0))),(au ((List.getD [s.2.2.2.2.2.2.2.1,s.2.2.2.2.2.2.2.2.1,s.2.2.2.2.2.2.2.2.2.1] (0+(s.2.2.2.2.2.2.2.2.2.2.2.2.2.2.2.2.toNat*1)) 0)- (List.getD [s.2.2.2.2.1,s.2.2.2.2.2.1,s.2.2.2.2.2.2.1] (0+(s.2.2.2.2.2.2.2.2.2.2.2.2.2.2.2.2.toNat*1)) 0))),(s.1,s.2.1),s.2.2.1,s.2.2.2.1) fun y=>
 (.ret (.inl (y.2.2.2.2.1.1,y.2.2.2.2.1.2,y.2.2.2.2.2.1,y.2.2.2.2.2.2,s.2.2.2.2.1,s.2.2.2.2.2.1,s.2.2.2.2.2.2.1,s.2.2.2.2.2.2.2.1,s.2.2.2.2.2.2.2.2.1,s.2.2.2.2.2.2.2.2.2.1,s.2.2.2.2.2.2.2.2.2.2.1,s.2.2.2.2.2.2.2.2.2.2.2.1,s.2.2.2.2.2.2.2.2.2.2.2.2.1,s.2.2.2.2.2.2.2.2.2.2.2.2.2.1,s.2.2.2.2.2.2.2.2.2.2.2.2.2.2.1,s.2.2.2.2.2.2.2.2.2.2.2.2.2.2.2.1,(au (s.2.2.2.2.2.2.2.2.2.2.2.2.2.2.2.2+1))))))))))))))
 (.i11 ((au ((List.getD [s.2.2.2.2.2.2.2.1,s.2.2.2.2.2.2.2.2.1,s.2.2.2.2.2.2.2.2.2.1] (0+(s.2.2.2.2.2.2.2.2.2.2.2.2.2.2.2.2.toNat*1)) 0)- (List.getD [s.2.2.2.2.1,s.2.2.2.2.2.1,s.2.2.2.2.2.2.1] (0+(s.2.2.2.2.2.2.2.2.2.2.2.2.2.2.2.2.toNat*1)) 0)))<0)
 (.oR s.2.2.2.2.2.2.2.2.2.2.2.2.2.2.2.2 3
 (.od (((0+(s.2.2.2.2.2.2.2.2.2.2.2.2.2.2.2.2.toNat*1))+1)<=3)
 (.oR s.2.2.2.2.2.2.2.2.2.2.2.2.2.2.2.2 3
 (.od (((0+(s.2.2.2.2.2.2.2.2.2.2.2.2.2.2.2.2.toNat*1))+1)<=3)
 (.oR s.2.2.2.2.2.2.2.2.2.2.2.2.2.2.2.2 3
 (.od (((0+(s.2.2.2.2.2.2.2.2.2.2.2.2.2.2.2.2.toNat*1))+1)<=3)
 (.oR s.2.2.2.2.2.2.2.2.2.2.2.2.2.2.2.2 3
 (.od (((0+(s.2.2.2.2.2.2.2.2.2.2.2.2.2.2.2.2.toNat*1))+1)<=3)
 (.fnW LZ ((au ((List.getD [s.2.2.2.2.1,s.2.2.2.2.2.1,s.2.2.2.2.2.2.1] (0+(s.2.2.2.2.2.2.2.2.2.2.2.2.2.2.2.2.toNat*1)) 0)- (List.getD [s.2.2.2.2.2.2.2.2.2.2.2.2.2.1,s.2.2.2.2.2.2.2.2.2.2.2.2.2.2.1,s.2.2.2.2.2.2.2.2.2.2.2.2.2.2.2.1] (0+(s.2.2.2.2.2.2.2.2.2.2.2.2.2.2.2.2.toNat*1)) 0))),(au ((List.getD [s.2.2.2.2.1,s.2.2.2.2.2.1,s.2.2.2.2.2.2.1] (0+(s.2.2.2.2.2.2.2.2.2.2.2.2.2.2.2.2.toNat*1)) 0)- (List.getD [s.2.2.2.2.2.2.2.2.2.2.1,s.2.2.2.2.2.2.2.2.2.2.2.1,s.2.2.2.2.2.2.2.2.2.2.2.2.1] (0+(s.2.2.2.2.2.2.2.2.2.2.2.2.2.2.2.2.toNat*1)) 0))),(au (0- (au ((List.getD [s.2.2.2.2.2.2.2.1,s.2.2.2.2.2.2.2.2.1,s.2.2.2.2.2.2.2.2.2.1] (0+(s.2.2.2.2.2.2.2.2.2.2.2.2.2.2.2.2.toNat*1)) 0)- (List.getD [s.2.2.2.2.1,s.2.2.2.2.2.1,s.2.2.2.2.2.2.1] (0+(s.2.2.2.2.2.2.2.2.2.2.2.2.2.2.2.2.toNat*1)) 0))))),(s.1,s.2.1),s.2.2.1,s.2.2.2.1) fun y=>
 (.ret (.inl (y.2.2.2.2.1.1,y.2.2.2.2.1.2,y.2.2.2.2.2.1,y.2.2.2.2.2.2,s.2.2.2.2.1,s.2.2.2.2.2.1,s.2.2.2.2.2.2.1,s.2.2.2.2.2.2.2.1,s.2.2.2.2.2.2.2.2.1,s.2.2.2.2.2.2.2.2.2.1,s.2.2.2.2.2.2.2.2.2.2.1,s.2.2.2.2.2.2.2.2.2.2.2.1,s.2.2.2.2.2.2.2.2.2.2.2.2.1,s.2.2.2.2.2.2.2.2.2.2.2.2.2.1,s.2.2.2.2.2.2.2.2.2.2.2.2.2.2.1,s.2.2.2.2.2.2.2.2.2.2.2.2.2.2.2.1,(au (s.2.2.2.2.2.2.2.2.2.2.2.2.2.2.2.2+1))))))))))))))
 (.oR s.2.2.2.2.2.2.2.2.2.2.2.2.2.2.2.2 3
 (.od (((0+(s.2.2.2.2.2.2.2.2.2.2.2.2.2.2.2.2.toNat*1))+1)<=3)
 (.oR s.2.2.2.2.2.2.2.2.2.2.2.2.2.2.2.2 3
 (.od (((0+(s.2.2.2.2.2.2.2.2.2.2.2.2.2.2.2.2.toNat*1))+1)<=3)
 (.wY ((List.getD [s.2.2.2.2.1,s.2.2.2.2.2.1,s.2.2.2.2.2.2.1] (0+(s.2.2.2.2.2.2.2.2.2.2.2.2.2.2.2.2.toNat*1)) 0)<(List.getD [s.2.2.2.2.2.2.2.2.2.2.1,s.2.2.2.2.2.2.2.2.2.2.2.1,s.2.2.2.2.2.2.2.2.2.2.2.2.1] (0+(s.2.2.2.2.2.2.2.2.2.2.2.2.2.2.2.2.toNat*1)) 0))
 (.ret (.inr (Sum.inl ())))
 (.oR s.2.2.2.2.2.2.2.2.2.2.2.2.2.2.2.2 3
 (.od (((0+(s.2.2.2.2.2.2.2.2.2.2.2.2.2.2.2.2.toNat*1))+1)<=3)
 (.oR s.2.2.2.2.2.2.2.2.2.2.2.2.2.2.2.2 3
 (.od (((0+(s.2.2.2.2.2.2.2.2.2.2.2.2.2.2.2.2.toNat*1))+1)<=3)
 (.iz ((List.getD [s.2.2.2.2.1,s.2.2.2.2.2.1,s.2.2.2.2.2.2.1] (0+(s.2.2.2.2.2.2.2.2.2.2.2.2.2.2.2.2.toNat*1)) 0)>(List.getD [s.2.2.2.2.2.2.2.2.2.2.2.2.2.1,s.2.2.2.2.2.2.2.2.2.2.2.2.2.2.1,s.2.2.2.2.2.2.2.2.2.2.2.2.2.2.2.1] (0+(s.2.2.2.2.2.2.2.2.2.2.2.2.2.2.2.2.toNat*1)) 0))
 (.ret (.inr (Sum.inl ())))
 (.ret (.inl (s.1,s.2.1,s.2.2.1,s.2.2.2.1,s.2.2.2.2.1,s.2.2.2.2.2.1,s.2.2.2.2.2.2.1,s.2.2.2.2.2.2.2.1,s.2.2.2.2.2.2.2.2.1,s.2.2.2.2.2.2.2.2.2.1,s.2.2.2.2.2.2.2.2.2.2.1,s.2.2.2.2.2.2.2.2.2.2.2.1,s.2.2.2.2.2.2.2.2.2.2.2.2.1,s.2.2.2.2.2.2.2.2.2.2.2.2.2.1,s.2.2.2.2.2.2.2.2.2.2.2.2.2.2.1,s.2.2.2.2.2.2.2.2.2.2.2.2.2.2.2.1,(au (s.2.2.2.2.2.2.2.2.2.2.2.2.2.2.2.2+1)))))))))))))))))))))
 (.ret (.inr (Sum.inr ((s.1,s.2.1,s.2.2.1,s.2.2.2.1))))))
abbrev eI (x:(I3×I9)) (s:Fy):Fy⊕(Unit⊕(Int×I3)):=(jy x s).val
abbrev nE (x:(I3×I9)) (s:Fy):Prop:=(jy x s).pre
def ye (x:(I3×I9)):(Bool×Int):=
 (ak (oP [x.1,x.2.1]) fun y=>
 (if ((!y)=true) then
 (false,5) else
 (ak (ta x.2.2) fun aB=>
 (if ((!aB)=true) then
 (false,1) else
 (ak (parts x.1) fun y_2=>
 (ak (parts x.2.1) fun bI=>
 (ak (parts x.2.2.1) fun dG=>
 (ak (parts x.2.2.2) fun tw=>
 (ak (run (eI x) (0,1,1,1,y_2.1,y_2.2.1,y_2.2.2,bI.1,bI.2.1,bI.2.2,dG.1,dG.2.1,dG.2.2,tw.1,tw.2.1,tw.2.2,0)) fun r=>
 (Sum.elim (fun a=>
 (false,0)) (fun b=>
 (ak (aeb ((b.1,b.2.1),b.2.2)) fun Kh=>
 ((decide (Kh<=0)),0))) r))))))))))
def qH (x:(I3×I9)):Prop:=
 ((hO [x.1,x.2.1])/\
 az (oP [x.1,x.2.1]) fun y=>
 (¬((!y)=true)->
 ((qY x.2.2)/\
 az (ta x.2.2) fun aB=>
 (¬((!aB)=true)->
 (az (parts x.1) fun y_2=>
 (az (parts x.2.1) fun bI=>
 (az (parts x.2.2.1) fun dG=>
 (az (parts x.2.2.2) fun tw=>
 (Term (eI x) (nE x) (0,1,1,1,y_2.1,y_2.2.1,y_2.2.2,bI.1,bI.2.1,bI.2.2,dG.1,dG.2.1,dG.2.2,tw.1,tw.2.1,tw.2.2,0)/\
 az (run (eI x) (0,1,1,1,y_2.1,y_2.2.1,y_2.2.2,bI.1,bI.2.1,bI.2.2,dG.1,dG.2.1,dG.2.2,tw.1,tw.2.1,tw.2.2,0)) fun r=>
 (cS r (fun a=>
 True) (fun b=>
 (C9 ((b.1,b.2.1),b.2.2)))))))))))))
def aja (x:(I3×I9)):Tr (Bool×Int) true:=
 (.fn eN [x.1,x.2.1] fun y=>
 (.gG (!y)
 (.ret (false,5))
 (.fn uE x.2.2 fun aB=>
 (.gG (!aB)
 (.ret (false,z1))
 (.fn0 gX x.1 trivial fun y_2=>
 (.fn0 gX x.2.1 trivial fun bI=>
 (.fn0 gX x.2.2.1 trivial fun dG=>
 (.fn0 gX x.2.2.2 trivial fun tw=>
 (aI.lp (Qa x) (jy x) (z0,z1,z1,z1,y_2.1,y_2.2.1,y_2.2.2,bI.1,bI.2.1,bI.2.2,dG.1,dG.2.1,dG.2.2,tw.1,tw.2.1,tw.2.2,z0) fun r=>
 (.s01 r (fun a=>
 (.ret (false,z0))) (fun b=>
 (.fn BY ((b.1,b.2.1),b.2.2) fun Kh=>
 (.ret ((decide (Kh<=z0)),z0))))))))))))))
abbrev DJ:bF:=⟨(.pair (.agg aG) (.pair (.agg aG) (.agg (Ty.prod aG aG)))),(.pair (.one Ty.bool) (.one yi)),qH,ye⟩
theorem ae0:aq Tryz.prog 151 (ah DJ):=bS DJ aja (fn:=Tryz.f151) CH (aH.nil _ _) (fun x=>(bX CH 1 (Qa x) (jy x) aK.nil))
def Rf:List (Nat×Ev.Spec):=(151,ah DJ)::adf
theorem wk:aj Tryz.prog Rf:=aA (fn:=Tryz.f151) ae0 CH
end Go.Proofs.YtngdehlpoomaiaaGreat
namespace Go.Proofs.YtngdehlpoomaiaaGreat
open Go Go.Ev Go.Proofs
def Yt (x:(List Int)):aI:=⟨[],⟨cj 18 0 [(5,.v (.one (.full 0))),(6,.v (.one (.i .i64))),(7,.v (.one (.i .i64)))],[.row yi 0],0,none,[],[0,2],[1],[.i],[.i (x.length:Int),.l yi x]⟩,[⟨.ret,.ret,⟨cj 18 0 [(2,.v (.one (.b)))],[],0,none,[],[0],[],[],[.b false]⟩⟩,⟨(.exit 0),.normal,⟨cj 18 0 [],[],0,none,[],[],[],[],[]⟩⟩]⟩
def kU (x:(List Int)) (s:Int):Tr (Int⊕(Unit⊕Unit)) true:=
 (.i10 (s<(x.length:Int))
 (.oR s (x.length:Int)
 (.od (s.toNat<x.length)
 (.od (s.toNat<x.length)
 (.iz ((x.getD s.toNat 0)<(-1048576))
 (.ret (.inr (Sum.inl ())))
 (.iz ((x.getD s.toNat 0)>1048576)
 (.ret (.inr (Sum.inl ())))
 (.ret (.inl (au (s+1)))))))))
 (.ret (.inr (Sum.inr (())))))
abbrev nS (x:(List Int)) (s:Int):Int⊕(Unit⊕Unit):=(kU x s).val
abbrev FF (x:(List Int)) (s:Int):Prop:=(kU x s).pre
def Ys (x:(List Int)):Bool:=
 (ak (run (nS x) 0) fun r=>
 (Sum.elim (fun a=>
 false) (fun b=>
 true) r))
def G5 (x:(List Int)):Prop:=
 (Term (nS x) (FF x) 0)
def anN (x:(List Int)):Tr Bool true:=
 (aI.lp (Yt x) (kU x) z0 fun r=>
 (.Jr r (fun a=>
 (.ret false)) (fun b=>
 (.ret true))))
abbrev Kc:bF:=⟨(.one (Ty.sl yi)),(.one Ty.bool),G5,Ys⟩
theorem akM:aq Tryz.prog 123 (ah Kc):=bS Kc anN (fn:=Tryz.f123) wk (aH.nil _ _) (fun x=>(bX wk 0 (Yt x) (kU x) aK.nil))
def X4:List (Nat×Ev.Spec):=(123,ah Kc)::Rf
theorem zm:aj Tryz.prog X4:=aA (fn:=Tryz.f123) akM wk
def ack (x:(List I3)):aI:=⟨[],⟨cj 21 0 [(5,.v (.one (.full 0))),(6,.v (.one (.i .i64))),(7,.v (.one (.i .i64)))],[.row aG 0],0,none,[],[0,2],[1],[.i],[.i (x.length:Int),.l aG x]⟩,[⟨.ret,.ret,⟨cj 21 0 [(2,.v (.one (.b)))],[],0,none,[],[0],[],[],[.b false]⟩⟩,⟨(.exit 0),.normal,⟨cj 21 0 [],[],0,none,[],[],[],[],[]⟩⟩]⟩
def jR (x:(List I3)) (s:Int):Int⊕(Unit⊕Unit):=
 (if (s<(x.length:Int)) then
 (ak (Ys [(x.getD s.toNat (0,0,0)).1,(x.getD s.toNat (0,0,0)).2.1,(x.getD s.toNat (0,0,0)).2.2]) fun y=>
 (if ((!y)=true) then
 (Sum.inr (Sum.inl ())) else
 (Sum.inl (au (s+1))))) else
 (Sum.inr (Sum.inr (()))))
def x4 (x:(List I3)) (s:Int):Prop:=
 ((s<(x.length:Int))->
 (((0<=s)/\ (s<(x.length:Int)))/\
 ((s.toNat<x.length)/\
 ((s.toNat<x.length)/\
 (G5 [(x.getD s.toNat (0,0,0)).1,(x.getD s.toNat (0,0,0)).2.1,(x.getD s.toNat (0,0,0)).2.2])))))
def PS (x:(List I3)) (s:Int):Tr (Int⊕(Unit⊕Unit)) true:=
 (.i10 (s<(nL x))
 (.A7 s x
 (.fn Kc [(gT x s bn).1,(gT x s bn).2.1,(gT x s bn).2.2] fun y=>
 (.iY (!y)
 (.ret (.inr (Sum.inl ())))
 (.ret (.inl (w1 s))))))
 (.ret (.inr (Sum.inr (())))))
def S0 (x:(List I3)):Bool:=
 (ak (run (jR x) 0) fun r=>
 (Sum.elim (fun a=>
 false) (fun b=>
 true) r))
def qE (x:(List I3)):Prop:=
 (Term (jR x) (x4 x) 0)
def ap3 (x:(List I3)):Tr Bool true:=
 (aI.lp (ack x) (PS x) z0 fun r=>
 (.Jr r (fun a=>
 (.ret false)) (fun b=>
 (.ret true))))
abbrev Gj:bF:=⟨(.one (Ty.sl aG)),(.one Ty.bool),qE,S0⟩
theorem amO:aq Tryz.prog 98 (ah Gj):=bS Gj ap3 (fn:=Tryz.f98) zm (aH.nil _ _) (fun x=>(bX zm 0 (ack x) (PS x) aK.nil))
def ac9:List (Nat×Ev.Spec):=(98,ah Gj)::X4
theorem MZ:aj Tryz.prog ac9:=aA (fn:=Tryz.f98) amO zm
def ig (x:I3):I3:=
 x
def Yu (_:I3):Prop:=True
def agi (x:I3):Tr I3 false:=
 (.ret x)
abbrev iX:bF:=⟨(.agg aG),(.agg aG),Yu,ig⟩
theorem abm:aq Tryz.prog 99 (ah iX):=aM iX agi (fn:=Tryz.f99) MZ
def Nq:List (Nat×Ev.Spec):=(99,ah iX)::ac9
theorem BG:aj Tryz.prog Nq:=aA (fn:=Tryz.f99) abm MZ
def FH (x:I3):I3:=
 x
def Yv (_:I3):Prop:=True
def agj (x:I3):Tr I3 false:=
 (.ret x)
abbrev uM:bF:=⟨(.agg aG),(.agg aG),Yv,FH⟩
theorem abn:aq Tryz.prog 146 (ah uM):=aM uM agj (fn:=Tryz.f146) BG
def Ns:List (Nat×Ev.Spec):=(146,ah uM)::Nq
theorem tu:aj Tryz.prog Ns:=aA (fn:=Tryz.f146) abn BG
def aks (x:(I3×I3)):I3:=
 (ak (S0 [x.1,x.2]) fun y=>
 (if ((!y)=true) then
 (0,0,0) else
 (ak (ig x.1) fun aB=>
 (ak (ig x.2) fun y_2=>
 (ak (FH ((au (aB.1- y_2.1)),(au (aB.2.1- y_2.2.1)),(au (aB.2.2- y_2.2.2)))) fun bI=>
 bI)))))
def RH (x:(I3×I3)):Prop:=
 (qE [x.1,x.2])
def anB (x:(I3×I3)):Tr I3 true:=
 (.fn Gj [x.1,x.2] fun y=>
 (.iY (!y)
 (.ret bn)
 (.fn0 iX x.1 trivial fun aB=>
 (.fn0 iX x.2 trivial fun y_2=>
 (.fn0 uM ((au (aB.1- y_2.1)),(au (aB.2.1- y_2.2.1)),(au (aB.2.2- y_2.2.2))) trivial fun bI=>
 (.ret bI))))))
abbrev AH:bF:=⟨(.pair (.agg aG) (.agg aG)),(.agg aG),RH,aks⟩
theorem akt:aq Tryz.prog 132 (ah AH):=bS AH anB (fn:=Tryz.f132) tu (aH.nil _ _) (fun x=>(aK.pW bt (aj.F0 tu (aH.nil _ _)) mixed 0 4 aK.nil (by kernel_rfl)))
def X1:List (Nat×Ev.Spec):=(132,ah AH)::Ns
theorem zk:aj Tryz.prog X1:=aA (fn:=Tryz.f132) akt tu
def Sm (x:(I3×I3)):(I3×Int):=
 (ak (S0 [x.1,x.2]) fun y=>
 (if ((!y)=true) then
 ((0,0,0),5) else
 (ak (ig x.1) fun aB=>
 (ak (ig x.2) fun y_2=>
 (ak (FH ((au ((au (aB.2.1*y_2.2.2))- (au (aB.2.2*y_2.2.1)))),(au ((au (aB.2.2*y_2.1))- (au (aB.1*y_2.2.2)))),(au ((au (aB.1*y_2.2.1))- (au (aB.2.1*y_2.1)))))) fun bI=>
 (bI,0))))))
def Hj (x:(I3×I3)):Prop:=
 (qE [x.1,x.2])
def adU (x:(I3×I3)):Tr (I3×Int) true:=
 (.fn Gj [x.1,x.2] fun y=>
 (.iY (!y)
 (.ret (bn,5))
 (.fn0 iX x.1 trivial fun aB=>
 (.fn0 iX x.2 trivial fun y_2=>
 (.fn0 uM ((au ((au (aB.2.1*y_2.2.2))- (au (aB.2.2*y_2.2.1)))),(au ((au (aB.2.2*y_2.1))- (au (aB.1*y_2.2.2)))),(au ((au (aB.1*y_2.2.1))- (au (aB.2.1*y_2.1))))) trivial fun bI=>
 (.ret (bI,z0)))))))
abbrev p9:bF:=⟨(.pair (.agg aG) (.agg aG)),(.pair (.agg aG) (.one yi)),Hj,Sm⟩
theorem YZ:aq Tryz.prog 130 (ah p9):=bS p9 adU (fn:=Tryz.f130) zk (aH.nil _ _) (fun x=>(aK.pW bt (aj.F0 zk (aH.nil _ _)) mixed 0 4 aK.nil (by kernel_rfl)))
def ML:List (Nat×Ev.Spec):=(130,ah p9)::X1
theorem Bj:aj Tryz.prog ML:=aA (fn:=Tryz.f130) YZ zk
def vv (x:I9):Tr (I3×Int) true:=
 (.fn eN [x.1,x.2.1,x.2.2] fun y=>
 (.gG (!y)
 (.ret (bn,5))
 (.fn AH (x.2.1,x.1) fun aB=>
 (.fn AH (x.2.2,x.1) fun y_2=>
 (.fn p9 (aB,y_2) fun bI=>
 (.ret bI))))))
def acE (x:I9):(I3×Int):=(vv x).val
def Ah (x:I9):Prop:=(vv x).pre
abbrev JX:bF:=⟨(.agg cO),(.pair (.agg aG) (.one yi)),Ah,acE⟩
theorem ajg:aq Tryz.prog 105 (ah JX):=aM JX vv (fn:=Tryz.f105) Bj
def XO:List (Nat×Ev.Spec):=(105,ah JX)::ML
theorem Ir:aj Tryz.prog XO:=aA (fn:=Tryz.f105) ajg Bj
def DM (x:I9):(I3×Int):=
 (ak (acE x) fun y=>
 y)
def ou (x:I9):Prop:=
 (Ah x)
def ae5 (x:I9):Tr (I3×Int) true:=
 (.fn JX x fun y=>
 (.ret y))
abbrev ug:bF:=⟨(.pair (.agg aG) (.pair (.agg aG) (.agg aG))),(.pair (.agg aG) (.one yi)),ou,DM⟩
theorem Z0:aq Tryz.prog 77 (ah ug):=aM ug ae5 (fn:=Tryz.f77) Ir
def M5:List (Nat×Ev.Spec):=(77,ah ug)::XO
theorem Br:aj Tryz.prog M5:=aA (fn:=Tryz.f77) Z0 Ir
def Uu (x:(I3×I9)):Tr I2 true:=
 (.fn ug (x.1,x.2.1,x.2.2.1) fun y=>
 (.gG (y.2 !=0)
 (.ret (0,5))
 (.fn eN [x.2.2.2] fun aB=>
 (.gG (!aB)
 (.ret (0,5))
 (.fn AH (x.2.2.2,x.1) fun y_2=>
 (.ret ((au ((au ((au (y.1.1*y_2.1))+(au (y.1.2.1*y_2.2.1))))+(au (y.1.2.2*y_2.2.2)))),0)))))))
def anO (x:(I3×I9)):I2:=(Uu x).val
def FG (x:(I3×I9)):Prop:=(Uu x).pre
abbrev CP:bF:=⟨(.pair (.agg aG) (.pair (.agg aG) (.pair (.agg aG) (.agg aG)))),(.pair (.one yi) (.one yi)),FG,anO⟩
theorem anP:aq Tryz.prog 191 (ah CP):=aM CP Uu (fn:=Tryz.f191) Br
def adj:List (Nat×Ev.Spec):=(191,ah CP)::M5
theorem Np:aj Tryz.prog adj:=aA (fn:=Tryz.f191) anP Br
def aj0 (x:(I3×I9)):I2:=
 (ak (anO (x.2.1,x.2.2.1,x.2.2.2,x.1)) fun y=>
 (ak (compare (y.1,0)) fun aB=>
 (aB,y.2)))
def QH (x:(I3×I9)):Prop:=
 (FG (x.2.1,x.2.2.1,x.2.2.2,x.1))
def anv (x:(I3×I9)):Tr I2 true:=
 (.fn CP (x.2.1,x.2.2.1,x.2.2.2,x.1) fun y=>
 (.fn0 eZ (y.1,z0) trivial fun aB=>
 (.ret (aB,y.2))))
abbrev En:bF:=⟨(.pair (.agg aG) (.agg cO)),(.pair (.one yi) (.one yi)),QH,aj0⟩
theorem aj1:aq Tryz.prog 190 (ah En):=aM En anv (fn:=Tryz.f190) Np
def XX:List (Nat×Ev.Spec):=(190,ah En)::adj
theorem IU:aj Tryz.prog XX:=aA (fn:=Tryz.f190) aj1 Np
def Oo (x:Int):Bool:=
 (decide (x>=0))
def amK (_:Int):Prop:=True
def asr (x:Int):Tr Bool false:=
 (.ret (decide (x>=z0)))
abbrev aci:bF:=⟨(.one yi),(.one Ty.bool),amK,Oo⟩
theorem apQ:aq Tryz.prog 192 (ah aci):=aM aci asr (fn:=Tryz.f192) IU
def akh:List (Nat×Ev.Spec):=(192,ah aci)::XX
theorem Q0:aj Tryz.prog akh:=aA (fn:=Tryz.f192) apQ IU
def aie (x:Int):Bool:=
 (decide (x<=0))
def aer (_:Int):Prop:=True
def amp (x:Int):Tr Bool false:=
 (.ret (decide (x<=z0)))
abbrev JL:bF:=⟨(.one yi),(.one Ty.bool),aer,aie⟩
theorem aif:aq Tryz.prog 193 (ah JL):=aM JL amp (fn:=Tryz.f193) Q0
def XH:List (Nat×Ev.Spec):=(193,ah JL)::akh
theorem y3:aj Tryz.prog XH:=aA (fn:=Tryz.f193) aif Q0
def abG (x:(Bool×List Int)):aI:=⟨[],⟨cj 18 0 [(0,.v (.one (.jO 192 0 []))),(7,.v (.one (.full 0))),(8,.v (.one (.i .i64))),(9,.v (.one (.i .i64)))],[.row yi 0],0,none,[],[0,2],[1],[.i],[.i (x.2.length:Int),.l yi x.2]⟩,[⟨.ret,.ret,⟨cj 18 0 [(4,.v (.one (.b)))],[],0,none,[],[0],[],[],[.b false]⟩⟩,⟨(.exit 0),.normal,⟨cj 18 0 [],[],0,none,[],[],[],[],[]⟩⟩]⟩
def pq (x:(Bool×List Int)) (s:Int):Int⊕(Unit⊕Unit):=
 (if (s<(x.2.length:Int)) then
 (ak (Oo (x.2.getD s.toNat 0)) fun y=>
 (if ((!y)=true) then
 (Sum.inr (Sum.inl ())) else
 (Sum.inl (au (s+1))))) else
 (Sum.inr (Sum.inr (()))))
def He (x:(Bool×List Int)) (s:Int):Prop:=
 ((s<(x.2.length:Int))->
 (((0<=s)/\ (s<(x.2.length:Int)))/\
 ((s.toNat<x.2.length)/\
 (s.toNat<x.2.length))))
def OZ (x:(Bool×List Int)) (s:Int):Tr (Int⊕(Unit⊕Unit)) true:=
 (.i10 (s<(nL x.2))
 (.A7 s x.2
 (.fn0 aci (gI x.2 s) trivial fun y=>
 (.iY (!y)
 (.ret (.inr (Sum.inl ())))
 (.ret (.inl (w1 s))))))
 (.ret (.inr (Sum.inr (())))))
def arp (x:(Bool×List Int)):Bool:=
 (ak (run (pq x) 0) fun r=>
 (Sum.elim (fun a=>
 false) (fun b=>
 true) r))
def UQ (x:(Bool×List Int)):Prop:=
 (Term (pq x) (He x) 0)
def aoQ (x:(Bool×List Int)):Tr Bool true:=
 (aI.lp (abG x) (OZ x) z0 fun r=>
 (.Jr r (fun a=>
 (.ret false)) (fun b=>
 (.ret true))))
abbrev KC:bF:=⟨(.pair (.jO 192 .none) (.one (Ty.sl yi))),(.one Ty.bool),UQ,arp⟩
theorem abH:aq Tryz.prog 194 (ah KC):=bS KC aoQ (fn:=Tryz.f194) y3 (aH.nil _ _) (fun x=>(bX y3 0 (abG x) (OZ x) aK.nil))
def acY:List (Nat×Ev.Spec):=(194,ah KC)::XH
theorem CB:aj Tryz.prog acY:=aA (fn:=Tryz.f194) abH y3
def abF (x:(Bool×List Int)):aI:=⟨[],⟨cj 18 0 [(0,.v (.one (.jO 193 0 []))),(7,.v (.one (.full 0))),(8,.v (.one (.i .i64))),(9,.v (.one (.i .i64)))],[.row yi 0],0,none,[],[0,2],[1],[.i],[.i (x.2.length:Int),.l yi x.2]⟩,[⟨.ret,.ret,⟨cj 18 0 [(4,.v (.one (.b)))],[],0,none,[],[0],[],[],[.b false]⟩⟩,⟨(.exit 0),.normal,⟨cj 18 0 [],[],0,none,[],[],[],[],[]⟩⟩]⟩
def pg (x:(Bool×List Int)) (s:Int):Int⊕(Unit⊕Unit):=
 (if (s<(x.2.length:Int)) then
 (ak (aie (x.2.getD s.toNat 0)) fun y=>
 (if ((!y)=true) then
 (Sum.inr (Sum.inl ())) else
 (Sum.inl (au (s+1))))) else
 (Sum.inr (Sum.inr (()))))
def G9 (x:(Bool×List Int)) (s:Int):Prop:=
 ((s<(x.2.length:Int))->
 (((0<=s)/\ (s<(x.2.length:Int)))/\
 ((s.toNat<x.2.length)/\
 (s.toNat<x.2.length))))
def OY (x:(Bool×List Int)) (s:Int):Tr (Int⊕(Unit⊕Unit)) true:=
 (.i10 (s<(nL x.2))
 (.A7 s x.2
 (.fn0 JL (gI x.2 s) trivial fun y=>
 (.iY (!y)
 (.ret (.inr (Sum.inl ())))
 (.ret (.inl (w1 s))))))
 (.ret (.inr (Sum.inr (())))))
def aro (x:(Bool×List Int)):Bool:=
 (ak (run (pg x) 0) fun r=>
 (Sum.elim (fun a=>
 false) (fun b=>
 true) r))
def UP (x:(Bool×List Int)):Prop:=
 (Term (pg x) (G9 x) 0)
def aoP (x:(Bool×List Int)):Tr Bool true:=
 (aI.lp (abF x) (OY x) z0 fun r=>
 (.Jr r (fun a=>
 (.ret false)) (fun b=>
 (.ret true))))
abbrev Ky:bF:=⟨(.pair (.jO 193 .none) (.one (Ty.sl yi))),(.one Ty.bool),UP,aro⟩
theorem alE:aq Tryz.prog 194 (ah Ky):=bS Ky aoP (fn:=Tryz.f194) CB (aH.nil _ _) (fun x=>(bX CB 0 (abF x) (OY x) aK.nil))
def acX:List (Nat×Ev.Spec):=(194,zD Ky.p (ah Ky) (ah KC))::acY
theorem CA:aj Tryz.prog acX:=aA (fn:=Tryz.f194) (uT alE (abH)) CB
def SP (x:(I3×I3×I9)):Tr (Bool×Int) true:=
 (.fn eN [x.1,x.2.1] fun y=>
 (.gG (!y)
 (.ret (false,5))
 (.fn eN [x.2.2.1,x.2.2.2.1,x.2.2.2.2] fun aB=>
 (.gG (!aB)
 (.ret (false,5))
 (.fn En (x.1,x.2.2) fun y_2=>
 (.fn En x.2 fun bI=>
 (.wY ((au (y_2.1*bI.1))>=0)
 (.ret (false,0))
 (.fn CP (x.1,x.2.1,x.2.2.1,x.2.2.2.1) fun dG=>
 (.fn CP (x.1,x.2.1,x.2.2.2) fun tw=>
 (.fn CP (x.1,x.2.1,x.2.2.2.2,x.2.2.1) fun Kh=>
 (.fn KC (false,[dG.1,tw.1,Kh.1]) fun y_7=>
 (.gG y_7
 (.ret (true,0))
 (.fn Ky (false,[dG.1,tw.1,Kh.1]) fun y_8=>
 (.ret (y_8,0)))))))))))))))
def aim (x:(I3×I3×I9)):(Bool×Int):=(SP x).val
def Dm (x:(I3×I3×I9)):Prop:=(SP x).pre
abbrev SO:bF:=⟨(.pair (.agg aG) (.pair (.agg aG) (.agg cO))),(.pair (.one Ty.bool) (.one yi)),Dm,aim⟩
theorem amu:aq Tryz.prog 174 (ah SO):=bS SO SP (fn:=Tryz.f174) CA (aH.nil _ _) (fun x=>(aK.pW bt (aj.F0 CA (aH.nil _ _)) mixed 0 4 aK.nil (by kernel_rfl)))
def ac7:List (Nat×Ev.Spec):=(174,ah SO)::acX
theorem MW:aj Tryz.prog ac7:=aA (fn:=Tryz.f174) amu CA
end Go.Proofs.YtngdehlpoomaiaaGreat
