/- Models of functions of layers 1, 3, 9, 12, 13: fractions, hits, boxes that are met. -/
import Derived.Test.YtngdehlpoomaiaaGreatUc
noncomputable section
set_option linter.unusedSectionVars false
set_option linter.unusedVariables false
set_option linter.unusedSimpArgs false
namespace Go.Proofs.YtngdehlpoomaiaaGreat
open Go Go.Ev Go.Proofs
abbrev kA:Type:=(Int×Int×Int×Int×Int×Int×Int×Int×Int×Int×Int×Int×Int×Int×I3)
def aco (x:I2):Bool:=
 (if (x.2>=0) then
 (if (x.2<1000000000000000000) then
 (if (x.1>=(-4000000000000000000)) then
 (decide (x.1<=4000000000000000000)) else
 false) else
 false) else
 false)
def acp (_:I2):Prop:=True
def aif (x:I2):Tr Bool false:=
 (.tF (x.2>=z0)
 (.tF (x.2<1000000000000000000)
 (.tF (x.1>=(-4000000000000000000))
 (.ret (decide (x.1<=4000000000000000000)))
 (.ret false))
 (.ret false))
 (.ret false))
abbrev H8:bY:=⟨(.agg fX),(.one Ty.bool),acp,aco⟩
theorem afs:ai Tryz.prog 240 (ak H8):=ai.tr H8 aif (fn:=Tryz.f240) aA KQ mixed (by kernel_rfl) (ax.nil _ _) (fun x=>ay.nil) (fun x=>(by kernel_rfl)) fun x Q=>(by kernel_rfl)
def U8:List (Nat×Ev.Spec):=(240,ak H8)::abJ
theorem Hu:ah Tryz.prog U8:=ah.add (fn:=Tryz.f240) (by kernel_rfl) afs KQ
def Tb (x:I2):(I2×Int):=
 (aq (aco x) fun y=>
 (if ((!y)=true) then
 ((0,0),4) else
 (x,0)))
def Tc (_:I2):Prop:=True
def acw (x:I2):Tr (I2×Int) false:=
 (.fn0 H8 x trivial fun y=>
 (.qH (!y)
 (.ret (Cq,4))
 (.ret (x,z0))))
abbrev Bg:bY:=⟨(.agg fX),(.pair (.agg fX) (.one yi)),Tc,Tb⟩
theorem XY:ai Tryz.prog 241 (ak Bg):=ai.tr Bg acw (fn:=Tryz.f241) aA Hu mixed (by kernel_rfl) (ax.nil _ _) (fun x=>ay.nil) (fun x=>(by kernel_rfl)) fun x Q=>(by kernel_rfl)
def K8:List (Nat×Ev.Spec):=(241,ak Bg)::U8
theorem AZ:ah Tryz.prog K8:=ah.add (fn:=Tryz.f241) (by kernel_rfl) XY Hu
def afu (x:I2):(I2×Int):=
 (aq (aco x) fun y=>
 (if ((!y)=true) then
 ((0,0),1) else
 (if ((x.2==0)=true) then
 (((av (0- x.1)),0),0) else
 (aq (Tb ((av ((av (0- x.1))- 1)),(av (1000000000000000000- x.2)))) fun aB=>
 aB))))
def acu (_:I2):Prop:=True
def aii (x:I2):Tr (I2×Int) false:=
 (.fn0 H8 x trivial fun y=>
 (.qH (!y)
 (.ret (Cq,z1))
 (.qH (x.2==z0)
 (.ret (((av (z0- x.1)),z0),z0))
 (.fn0 Bg ((wm (av (z0- x.1))),(av (1000000000000000000- x.2))) trivial fun aB=>
 (.ret aB)))))
abbrev M8:bY:=⟨(.agg fX),(.pair (.agg fX) (.one yi)),acu,afu⟩
theorem afv:ai Tryz.prog 234 (ak M8):=ai.tr M8 aii (fn:=Tryz.f234) aA AZ mixed (by kernel_rfl) (ax.nil _ _) (fun x=>ay.nil) (fun x=>(by kernel_rfl)) fun x Q=>(by kernel_rfl)
def Va:List (Nat×Ev.Spec):=(234,ak M8)::K8
theorem Hw:ah Tryz.prog Va:=ah.add (fn:=Tryz.f234) (by kernel_rfl) afv AZ
def Es (x:Int):I2:=
 ((av (Int.tdiv x 1000000000)),(Int.tmod x 1000000000))
def QS (_:Int):Prop:=True
def XV (x:Int):Tr I2 false:=
 (.ret ((av (Int.tdiv x 1000000000)),(Int.tmod x 1000000000)))
abbrev rC:bY:=⟨(.one yi),(.agg fX),QS,Es⟩
theorem S7:ai Tryz.prog 233 (ak rC):=ai.tr rC XV (fn:=Tryz.f233) aA Hw mixed (by kernel_rfl) (ax.nil _ _) (fun x=>ay.nil) (fun x=>(by kernel_rfl)) fun x Q=>(by kernel_rfl)
def Ht:List (Nat×Ev.Spec):=(233,ak rC)::Va
theorem xM:ah Tryz.prog Ht:=ah.add (fn:=Tryz.f233) (by kernel_rfl) S7 Hw
def S9 (x:I2):(I2×Int):=
 (if ((bf x.1 x.2)>1000000000000000000) then
 ((0,0),2) else
 (if ((bt x.1 x.2)<(-1000000000000000000)) then
 ((0,0),2) else
 (aq (Es (bf x.1 (av (0- x.1)))) fun y=>
 (aq (Es (bf x.2 (av (0- x.2)))) fun aB=>
 (if ((!((decide (x.1<0))==(decide (x.2<0))))=true) then
 (aq (afu ((av ((av ((av (y.1*aB.1))+(av (Int.tdiv (av ((av (y.1*aB.2))+(av (y.2*aB.1)))) 1000000000))))+(av (Int.tdiv (av ((av (y.2*aB.2))+(av ((Int.tmod (av ((av (y.1*aB.2))+(av (y.2*aB.1)))) 1000000000)*1000000000)))) 1000000000000000000)))),(Int.tmod (av ((av (y.2*aB.2))+(av ((Int.tmod (av ((av (y.1*aB.2))+(av (y.2*aB.1)))) 1000000000)*1000000000)))) 1000000000000000000))) fun y_2=>
 y_2) else
 (((av ((av ((av (y.1*aB.1))+(av (Int.tdiv (av ((av (y.1*aB.2))+(av (y.2*aB.1)))) 1000000000))))+(av (Int.tdiv (av ((av (y.2*aB.2))+(av ((Int.tmod (av ((av (y.1*aB.2))+(av (y.2*aB.1)))) 1000000000)*1000000000)))) 1000000000000000000)))),(Int.tmod (av ((av (y.2*aB.2))+(av ((Int.tmod (av ((av (y.1*aB.2))+(av (y.2*aB.1)))) 1000000000)*1000000000)))) 1000000000000000000)),0))))))
def acr (_:I2):Prop:=True
def aih (x:I2):Tr (I2×Int) false:=
 (.tF ((bf x.1 x.2)>1000000000000000000)
 (.ret (Cq,2))
 (.tF ((bt x.1 x.2)<(-1000000000000000000))
 (.ret (Cq,2))
 (.fn0 rC (bf x.1 (av (z0- x.1))) trivial fun y=>
 (.fn0 rC (bf x.2 (av (z0- x.2))) trivial fun aB=>
 (.qH (!((decide (x.1<z0))==(decide (x.2<z0))))
 (.fn0 M8 ((av ((av ((av (y.1*aB.1))+(av (Int.tdiv (av ((av (y.1*aB.2))+(av (y.2*aB.1)))) 1000000000))))+(av (Int.tdiv (av ((av (y.2*aB.2))+(av ((Int.tmod (av ((av (y.1*aB.2))+(av (y.2*aB.1)))) 1000000000)*1000000000)))) 1000000000000000000)))),(Int.tmod (av ((av (y.2*aB.2))+(av ((Int.tmod (av ((av (y.1*aB.2))+(av (y.2*aB.1)))) 1000000000)*1000000000)))) 1000000000000000000)) trivial fun y_2=>
 (.ret y_2))
 (.ret (((av ((av ((av (y.1*aB.1))+(av (Int.tdiv (av ((av (y.1*aB.2))+(av (y.2*aB.1)))) 1000000000))))+(av (Int.tdiv (av ((av (y.2*aB.2))+(av ((Int.tmod (av ((av (y.1*aB.2))+(av (y.2*aB.1)))) 1000000000)*1000000000)))) 1000000000000000000)))),(Int.tmod (av ((av (y.2*aB.2))+(av ((Int.tmod (av ((av (y.1*aB.2))+(av (y.2*aB.1)))) 1000000000)*1000000000)))) 1000000000000000000)),z0)))))))
abbrev Ia:bY:=⟨(.pair (.one yi) (.one yi)),(.pair (.agg fX) (.one yi)),acr,S9⟩
theorem aft:ai Tryz.prog 213 (ak Ia):=ai.tr Ia aih (fn:=Tryz.f213) aA xM mixed (by kernel_rfl) (ax.nil _ _) (fun x=>ay.nil) (fun x=>(by kernel_rfl)) fun x Q=>(by kernel_rfl)
def U9:List (Nat×Ev.Spec):=(213,ak Ia)::Ht
theorem Hv:ah Tryz.prog U9:=ah.add (fn:=Tryz.f213) (by kernel_rfl) aft xM
def afq (x:(I2×I2)):Int:=
 (if (((x.1.1==x.2.1)&&((x.1.2==x.2.2)&&true))=true) then
 0 else
 (aq (compare (x.1.1,x.2.1)) fun y=>
 (aq (compare (x.1.2,x.2.2)) fun aB=>
 (aq (E3 [y,aB]) fun y_2=>
 y_2))))
def H6 (x:(I2×I2)):Prop:=
 (¬(((x.1.1==x.2.1)&&((x.1.2==x.2.2)&&true))=true)->
 (aC (compare (x.1.1,x.2.1)) fun y=>
 (aC (compare (x.1.2,x.2.2)) fun aB=>
 (nN [y,aB]))))
def aie (x:(I2×I2)):Tr Int true:=
 (.nM ((x.1.1==x.2.1)&&((x.1.2==x.2.2)&&true))
 (.ret z0)
 (.fn0 ek (x.1.1,x.2.1) trivial fun y=>
 (.fn0 ek (x.1.2,x.2.2) trivial fun aB=>
 (.fn rK [y,aB] fun y_2=>
 (.ret y_2)))))
abbrev M7:bY:=⟨(.pair (.agg fX) (.agg fX)),(.one yi),H6,afq⟩
theorem afr:ai Tryz.prog 214 (ak M7):=ai.tr M7 aie (fn:=Tryz.f214) aA Hv mixed (by kernel_rfl) (ax.nil _ _) (fun x=>ay.nil) (fun x=>(by kernel_rfl)) fun x Q=>(by kernel_rfl)
def U7:List (Nat×Ev.Spec):=(214,ak M7)::U9
theorem Hs:ah Tryz.prog U7:=ah.add (fn:=Tryz.f214) (by kernel_rfl) afr Hv
def x5 (x:I2):Bool:=
 (if (x.2>=1) then
 (if (x.2<=1000000000000000000) then
 (if (x.1>=(-1000000000000000000)) then
 (decide (x.1<=1000000000000000000)) else
 false) else
 false) else
 false)
def Rv (_:I2):Prop:=True
def Zk (x:I2):Tr Bool false:=
 (.tF (x.2>=z1)
 (.tF (x.2<=1000000000000000000)
 (.tF (x.1>=(-1000000000000000000))
 (.ret (decide (x.1<=1000000000000000000)))
 (.ret false))
 (.ret false))
 (.ret false))
abbrev uu:bY:=⟨(.agg fX),(.one Ty.bool),Rv,x5⟩
theorem V7:ai Tryz.prog 212 (ak uu):=ai.tr uu Zk (fn:=Tryz.f212) aA Hs mixed (by kernel_rfl) (ax.nil _ _) (fun x=>ay.nil) (fun x=>(by kernel_rfl)) fun x Q=>(by kernel_rfl)
def KD:List (Nat×Ev.Spec):=(212,ak uu)::U7
theorem AE:ah Tryz.prog KD:=ah.add (fn:=Tryz.f212) (by kernel_rfl) V7 Hs
def fto (x:(I2×I2)):Int:=
 (aq (x5 x.1) fun y=>
 (aq (x5 x.2) fun aB=>
 (if (y=true) then
 (if (aB=true) then
 (aq (S9 (x.1.1,x.2.2)) fun y_2=>
 (aq (S9 (x.2.1,x.1.2)) fun bk=>
 (aq (afq (y_2.1,bk.1)) fun bQ=>
 bQ))) else
 (if (aB=true) then
 (-1) else
 (if (y=true) then
 1 else
 (aq (compare (x.1.1,x.2.1)) fun y_2=>
 (aq (compare (x.1.2,x.2.2)) fun bk=>
 (aq (E3 [y_2,bk]) fun bQ=>
 bQ)))))) else
 (if (aB=true) then
 (-1) else
 (if (y=true) then
 1 else
 (aq (compare (x.1.1,x.2.1)) fun y_2=>
 (aq (compare (x.1.2,x.2.2)) fun bk=>
 (aq (E3 [y_2,bk]) fun bQ=>
 bQ))))))))
def L1 (x:(I2×I2)):Prop:=
 (aC (x5 x.1) fun y=>
 (aC (x5 x.2) fun aB=>
 (((y=true)->
 (((aB=true)->
 (aC (S9 (x.1.1,x.2.2)) fun y_2=>
 (aC (S9 (x.2.1,x.1.2)) fun bk=>
 (H6 (y_2.1,bk.1)))))/\
 (¬(aB=true)->
 (¬(aB=true)->
 (¬(y=true)->
 (aC (compare (x.1.1,x.2.1)) fun y_2=>
 (aC (compare (x.1.2,x.2.2)) fun bk=>
 (nN [y_2,bk]))))))))/\
 (¬(y=true)->
 (¬(aB=true)->
 (¬(y=true)->
 (aC (compare (x.1.1,x.2.1)) fun y_2=>
 (aC (compare (x.1.2,x.2.2)) fun bk=>
 (nN [y_2,bk])))))))))
def ajb (x:(I2×I2)):Tr Int true:=
 (.fn0 uu x.1 trivial fun y=>
 (.fn0 uu x.2 trivial fun aB=>
 (.b11 y
 (.b11 aB
 (.fn0 Ia (x.1.1,x.2.2) trivial fun y_2=>
 (.fn0 Ia (x.2.1,x.1.2) trivial fun bk=>
 (.fn M7 (y_2.1,bk.1) fun bQ=>
 (.ret bQ))))
 (.nM aB
 (.ret (-1))
 (.nM y
 (.ret z1)
 (.fn0 ek (x.1.1,x.2.1) trivial fun y_2=>
 (.fn0 ek (x.1.2,x.2.2) trivial fun bk=>
 (.fn rK [y_2,bk] fun bQ=>
 (.ret bQ)))))))
 (.nM aB
 (.ret (-1))
 (.nM y
 (.ret z1)
 (.fn0 ek (x.1.1,x.2.1) trivial fun y_2=>
 (.fn0 ek (x.1.2,x.2.2) trivial fun bk=>
 (.fn rK [y_2,bk] fun bQ=>
 (.ret bQ)))))))))
abbrev TM:bY:=⟨(.pair (.agg fX) (.agg fX)),(.one yi),L1,fto⟩
theorem agV:ai Tryz.prog 189 (ak TM):=ai.tr TM ajb (fn:=Tryz.f189) aA AE mixed (by kernel_rfl) (ax.nil _ _) (fun x=>ay.nil) (fun x=>(by kernel_rfl)) fun x Q=>(by kernel_rfl)
def abF:List (Nat×Ev.Spec):=(189,ak TM)::KD
theorem KE:ah Tryz.prog abF:=ah.add (fn:=Tryz.f189) (by kernel_rfl) agV AE
def Ir (x:(I2×I2)):Int:=
 (aq (fto x) fun y=>
 y)
def oq (x:(I2×I2)):Prop:=
 (L1 x)
def agT (x:(I2×I2)):Tr Int true:=
 (.fn TM x fun y=>
 (.ret y))
abbrev x3:bY:=⟨(.pair (.agg fX) (.agg fX)),(.one yi),oq,Ir⟩
theorem adC:ai Tryz.prog 171 (ak x3):=ai.tr x3 agT (fn:=Tryz.f171) aA KE mixed (by kernel_rfl) (ax.nil _ _) (fun x=>ay.nil) (fun x=>(by kernel_rfl)) fun x Q=>(by kernel_rfl)
def UM:List (Nat×Ev.Spec):=(171,ak x3)::abF
theorem GO:ah Tryz.prog UM:=ah.add (fn:=Tryz.f171) (by kernel_rfl) adC KE
def aaP (x:(Int×Int×Int×I2×I2)):(Bool×Bool×Bool×Bool×I2×I2):=
 (aq (Ir ((x.1,x.2.2.1),x.2.2.2.1)) fun y=>
 (if (y>0) then
 (aq (Ir ((x.2.1,x.2.2.1),x.2.2.2.2)) fun aB=>
 (if (aB<0) then
 (false,false,false,false,(x.1,x.2.2.1),x.2.1,x.2.2.1) else
 (false,false,false,false,(x.1,x.2.2.1),x.2.2.2.2))) else
 (aq (Ir ((x.2.1,x.2.2.1),x.2.2.2.2)) fun aB=>
 (if (aB<0) then
 (false,false,false,false,x.2.2.2.1,x.2.1,x.2.2.1) else
 (false,false,false,false,x.2.2.2)))))
def u6 (x:(Int×Int×Int×I2×I2)):Prop:=
 ((oq ((x.1,x.2.2.1),x.2.2.2.1))/\
 aC (Ir ((x.1,x.2.2.1),x.2.2.2.1)) fun y=>
 (((y>0)->
 (oq ((x.2.1,x.2.2.1),x.2.2.2.2)))/\
 (¬(y>0)->
 (oq ((x.2.1,x.2.2.1),x.2.2.2.2)))))
def ahP (x:(Int×Int×Int×I2×I2)):Tr (Bool×Bool×Bool×Bool×I2×I2) true:=
 (.fn x3 ((x.1,x.2.2.1),x.2.2.2.1) fun y=>
 (.i11 (y>z0)
 (.fn x3 ((x.2.1,x.2.2.1),x.2.2.2.2) fun aB=>
 (.tF (aB<z0)
 (.pn 0 2
 (.ret (false,false,false,false,(x.1,x.2.2.1),x.2.1,x.2.2.1)))
 (.pn 0 2
 (.ret (false,false,false,false,(x.1,x.2.2.1),x.2.2.2.2)))))
 (.fn x3 ((x.2.1,x.2.2.1),x.2.2.2.2) fun aB=>
 (.tF (aB<z0)
 (.pn 0 2
 (.ret (false,false,false,false,x.2.2.2.1,x.2.1,x.2.2.1)))
 (.pn 0 2
 (.ret (false,false,false,false,x.2.2.2)))))))
abbrev Gc:FnW:=⟨(.pair (.val (.one yi)) (.pair (.val (.one yi)) (.pair (.val (.one yi)) (.pair (.ptr (.prod (.int .i64) (.int .i64)) 159) (.ptr (.prod (.int .i64) (.int .i64)) 159))))),.none,u6,aaP⟩
theorem aeJ:ai Tryz.prog 170 (jZ Gc):=ai.trW Gc ahP (fn:=Tryz.f170) aA GO mixed (by kernel_rfl) (ax.nil _ _) (fun x=>ay.nil) (fun x=>(by kernel_rfl)) fun x r0 Q=>(by kernel_rfl)
def UZ:List (Nat×Ev.Spec):=(170,jZ Gc)::UM
theorem yH:ah Tryz.prog UZ:=ah.add (fn:=Tryz.f170) (by kernel_rfl) aeJ GO
def JZ (x:(I3×I9)):aK:=⟨[],⟨di 113 0 [(8,.v (.one (.ptr 0 0))),(9,.v (.one (.ptr 1 0))),(10,.v (.one (.iP 170 0 [.loc 0 0,.loc 1 0]))),(11,.v (.one (.ptr 2 0))),(12,.v (.one (.ptr 3 0))),(13,.v (.one (.ptr 4 0))),(14,.v (.one (.ptr 5 0))),(40,.v (.one (.i .i64)))],[.cells [.i .i64,.i .i64] 159,.cells [.i .i64,.i .i64] 159,.cells [.i .i64,.i .i64,.i .i64] 124,.cells [.i .i64,.i .i64,.i .i64] 124,.cells [.i .i64,.i .i64,.i .i64] 124,.cells [.i .i64,.i .i64,.i .i64] 124],0,none,[],[],[1,2,3,4,5,6,7,8,9,10,11,12,13,14,15,16,0],[.i,.i,.i,.i,.i,.i,.i,.i,.i,.i,.i,.i,.i,.i,.i,.i,.i],[]⟩,[⟨.ret,.ret,⟨di 113 0 [(6,.v (.one (.b))),(7,.v (.one (.i .i64)))],[],0,none,[],[0,1],[],[],[.b false,.i 0]⟩⟩,⟨(.exit 1),.normal,⟨di 113 0 [(8,.v (.one (.ptr 0 0))),(9,.v (.one (.ptr 1 0)))],[.cells [.i .i64,.i .i64] 159,.cells [.i .i64,.i .i64] 159],0,none,[],[],[0,1,2,3],[.i,.i,.i,.i],[]⟩⟩]⟩
def dQ (x:(I3×I9)) (s:kA):kA⊕(Unit⊕(Int×I3)):=
 (if (s.2.2.2.2.2.2.2.2.2.2.2.2.2.2.2.2<3) then
 (if ((av ((List.getD [s.2.2.2.2.2.2.2.1,s.2.2.2.2.2.2.2.2.1,s.2.2.2.2.2.2.2.2.2.1] (0+(s.2.2.2.2.2.2.2.2.2.2.2.2.2.2.2.2.toNat*1)) 0)- (List.getD [s.2.2.2.2.1,s.2.2.2.2.2.1,s.2.2.2.2.2.2.1] (0+(s.2.2.2.2.2.2.2.2.2.2.2.2.2.2.2.2.toNat*1)) 0)))>0) then
 (aq (aaP ((av ((List.getD [s.2.2.2.2.2.2.2.2.2.2.1,s.2.2.2.2.2.2.2.2.2.2.2.1,s.2.2.2.2.2.2.2.2.2.2.2.2.1] (0+(s.2.2.2.2.2.2.2.2.2.2.2.2.2.2.2.2.toNat*1)) 0)- (List.getD [s.2.2.2.2.1,s.2.2.2.2.2.1,s.2.2.2.2.2.2.1] (0+(s.2.2.2.2.2.2.2.2.2.2.2.2.2.2.2.2.toNat*1)) 0))),(av ((List.getD [s.2.2.2.2.2.2.2.2.2.2.2.2.2.1,s.2.2.2.2.2.2.2.2.2.2.2.2.2.2.1,s.2.2.2.2.2.2.2.2.2.2.2.2.2.2.2.1] (0+(s.2.2.2.2.2.2.2.2.2.2.2.2.2.2.2.2.toNat*1)) 0)- (List.getD [s.2.2.2.2.1,s.2.2.2.2.2.1,s.2.2.2.2.2.2.1] (0+(s.2.2.2.2.2.2.2.2.2.2.2.2.2.2.2.2.toNat*1)) 0))),(av ((List.getD [s.2.2.2.2.2.2.2.1,s.2.2.2.2.2.2.2.2.1,s.2.2.2.2.2.2.2.2.2.1] (0+(s.2.2.2.2.2.2.2.2.2.2.2.2.2.2.2.2.toNat*1)) 0)- (List.getD [s.2.2.2.2.1,s.2.2.2.2.2.1,s.2.2.2.2.2.2.1] (0+(s.2.2.2.2.2.2.2.2.2.2.2.2.2.2.2.2.toNat*1)) 0))),(s.1,s.2.1),s.2.2.1,s.2.2.2.1)) fun y=>
 (Sum.inl (y.2.2.2.2.1.1,y.2.2.2.2.1.2,y.2.2.2.2.2.1,y.2.2.2.2.2.2,s.2.2.2.2.1,s.2.2.2.2.2.1,s.2.2.2.2.2.2.1,s.2.2.2.2.2.2.2.1,s.2.2.2.2.2.2.2.2.1,s.2.2.2.2.2.2.2.2.2.1,s.2.2.2.2.2.2.2.2.2.2.1,s.2.2.2.2.2.2.2.2.2.2.2.1,s.2.2.2.2.2.2.2.2.2.2.2.2.1,s.2.2.2.2.2.2.2.2.2.2.2.2.2.1,s.2.2.2.2.2.2.2.2.2.2.2.2.2.2.1,s.2.2.2.2.2.2.2.2.2.2.2.2.2.2.2.1,(av (s.2.2.2.2.2.2.2.2.2.2.2.2.2.2.2.2+1))))) else
 (if ((av ((List.getD [s.2.2.2.2.2.2.2.1,s.2.2.2.2.2.2.2.2.1,s.2.2.2.2.2.2.2.2.2.1] (0+(s.2.2.2.2.2.2.2.2.2.2.2.2.2.2.2.2.toNat*1)) 0)- (List.getD [s.2.2.2.2.1,s.2.2.2.2.2.1,s.2.2.2.2.2.2.1] (0+(s.2.2.2.2.2.2.2.2.2.2.2.2.2.2.2.2.toNat*1)) 0)))<0) then
 (aq (aaP ((av ((List.getD [s.2.2.2.2.1,s.2.2.2.2.2.1,s.2.2.2.2.2.2.1] (0+(s.2.2.2.2.2.2.2.2.2.2.2.2.2.2.2.2.toNat*1)) 0)- (List.getD [s.2.2.2.2.2.2.2.2.2.2.2.2.2.1,s.2.2.2.2.2.2.2.2.2.2.2.2.2.2.1,s.2.2.2.2.2.2.2.2.2.2.2.2.2.2.2.1] (0+(s.2.2.2.2.2.2.2.2.2.2.2.2.2.2.2.2.toNat*1)) 0))),(av ((List.getD [s.2.2.2.2.1,s.2.2.2.2.2.1,s.2.2.2.2.2.2.1] (0+(s.2.2.2.2.2.2.2.2.2.2.2.2.2.2.2.2.toNat*1)) 0)- (List.getD [s.2.2.2.2.2.2.2.2.2.2.1,s.2.2.2.2.2.2.2.2.2.2.2.1,s.2.2.2.2.2.2.2.2.2.2.2.2.1] (0+(s.2.2.2.2.2.2.2.2.2.2.2.2.2.2.2.2.toNat*1)) 0))),(av (0- (av ((List.getD [s.2.2.2.2.2.2.2.1,s.2.2.2.2.2.2.2.2.1,s.2.2.2.2.2.2.2.2.2.1] (0+(s.2.2.2.2.2.2.2.2.2.2.2.2.2.2.2.2.toNat*1)) 0)- (List.getD [s.2.2.2.2.1,s.2.2.2.2.2.1,s.2.2.2.2.2.2.1] (0+(s.2.2.2.2.2.2.2.2.2.2.2.2.2.2.2.2.toNat*1)) 0))))),(s.1,s.2.1),s.2.2.1,s.2.2.2.1)) fun y=>
 (Sum.inl (y.2.2.2.2.1.1,y.2.2.2.2.1.2,y.2.2.2.2.2.1,y.2.2.2.2.2.2,s.2.2.2.2.1,s.2.2.2.2.2.1,s.2.2.2.2.2.2.1,s.2.2.2.2.2.2.2.1,s.2.2.2.2.2.2.2.2.1,s.2.2.2.2.2.2.2.2.2.1,s.2.2.2.2.2.2.2.2.2.2.1,s.2.2.2.2.2.2.2.2.2.2.2.1,s.2.2.2.2.2.2.2.2.2.2.2.2.1,s.2.2.2.2.2.2.2.2.2.2.2.2.2.1,s.2.2.2.2.2.2.2.2.2.2.2.2.2.2.1,s.2.2.2.2.2.2.2.2.2.2.2.2.2.2.2.1,(av (s.2.2.2.2.2.2.2.2.2.2.2.2.2.2.2.2+1))))) else
 (if ((List.getD [s.2.2.2.2.1,s.2.2.2.2.2.1,s.2.2.2.2.2.2.1] (0+(s.2.2.2.2.2.2.2.2.2.2.2.2.2.2.2.2.toNat*1)) 0)<(List.getD [s.2.2.2.2.2.2.2.2.2.2.1,s.2.2.2.2.2.2.2.2.2.2.2.1,s.2.2.2.2.2.2.2.2.2.2.2.2.1] (0+(s.2.2.2.2.2.2.2.2.2.2.2.2.2.2.2.2.toNat*1)) 0)) then
 (Sum.inr (Sum.inl ())) else
 (if ((List.getD [s.2.2.2.2.1,s.2.2.2.2.2.1,s.2.2.2.2.2.2.1] (0+(s.2.2.2.2.2.2.2.2.2.2.2.2.2.2.2.2.toNat*1)) 0)>(List.getD [s.2.2.2.2.2.2.2.2.2.2.2.2.2.1,s.2.2.2.2.2.2.2.2.2.2.2.2.2.2.1,s.2.2.2.2.2.2.2.2.2.2.2.2.2.2.2.1] (0+(s.2.2.2.2.2.2.2.2.2.2.2.2.2.2.2.2.toNat*1)) 0)) then
 (Sum.inr (Sum.inl ())) else
 (Sum.inl (s.1,s.2.1,s.2.2.1,s.2.2.2.1,s.2.2.2.2.1,s.2.2.2.2.2.1,s.2.2.2.2.2.2.1,s.2.2.2.2.2.2.2.1,s.2.2.2.2.2.2.2.2.1,s.2.2.2.2.2.2.2.2.2.1,s.2.2.2.2.2.2.2.2.2.2.1,s.2.2.2.2.2.2.2.2.2.2.2.1,s.2.2.2.2.2.2.2.2.2.2.2.2.1,s.2.2.2.2.2.2.2.2.2.2.2.2.2.1,s.2.2.2.2.2.2.2.2.2.2.2.2.2.2.1,s.2.2.2.2.2.2.2.2.2.2.2.2.2.2.2.1,(av (s.2.2.2.2.2.2.2.2.2.2.2.2.2.2.2.2+1)))))))) else
 (Sum.inr (Sum.inr ((s.1,s.2.1,s.2.2.1,s.2.2.2.1)))))
def lR (x:(I3×I9)) (s:kA):Prop:=
 ((s.2.2.2.2.2.2.2.2.2.2.2.2.2.2.2.2<3)->
 (((0<=s.2.2.2.2.2.2.2.2.2.2.2.2.2.2.2.2)/\ (s.2.2.2.2.2.2.2.2.2.2.2.2.2.2.2.2<3))/\
 ((((0+(s.2.2.2.2.2.2.2.2.2.2.2.2.2.2.2.2.toNat*1))+1)<=3)/\
 (((0<=s.2.2.2.2.2.2.2.2.2.2.2.2.2.2.2.2)/\ (s.2.2.2.2.2.2.2.2.2.2.2.2.2.2.2.2<3))/\
 ((((0+(s.2.2.2.2.2.2.2.2.2.2.2.2.2.2.2.2.toNat*1))+1)<=3)/\
 ((((av ((List.getD [s.2.2.2.2.2.2.2.1,s.2.2.2.2.2.2.2.2.1,s.2.2.2.2.2.2.2.2.2.1] (0+(s.2.2.2.2.2.2.2.2.2.2.2.2.2.2.2.2.toNat*1)) 0)- (List.getD [s.2.2.2.2.1,s.2.2.2.2.2.1,s.2.2.2.2.2.2.1] (0+(s.2.2.2.2.2.2.2.2.2.2.2.2.2.2.2.2.toNat*1)) 0)))>0)->
 (((0<=s.2.2.2.2.2.2.2.2.2.2.2.2.2.2.2.2)/\ (s.2.2.2.2.2.2.2.2.2.2.2.2.2.2.2.2<3))/\
 ((((0+(s.2.2.2.2.2.2.2.2.2.2.2.2.2.2.2.2.toNat*1))+1)<=3)/\
 (((0<=s.2.2.2.2.2.2.2.2.2.2.2.2.2.2.2.2)/\ (s.2.2.2.2.2.2.2.2.2.2.2.2.2.2.2.2<3))/\
 ((((0+(s.2.2.2.2.2.2.2.2.2.2.2.2.2.2.2.2.toNat*1))+1)<=3)/\
 (((0<=s.2.2.2.2.2.2.2.2.2.2.2.2.2.2.2.2)/\ (s.2.2.2.2.2.2.2.2.2.2.2.2.2.2.2.2<3))/\
 ((((0+(s.2.2.2.2.2.2.2.2.2.2.2.2.2.2.2.2.toNat*1))+1)<=3)/\
 (((0<=s.2.2.2.2.2.2.2.2.2.2.2.2.2.2.2.2)/\ (s.2.2.2.2.2.2.2.2.2.2.2.2.2.2.2.2<3))/\
 ((((0+(s.2.2.2.2.2.2.2.2.2.2.2.2.2.2.2.2.toNat*1))+1)<=3)/\
 (u6 ((av ((List.getD [s.2.2.2.2.2.2.2.2.2.2.1,s.2.2.2.2.2.2.2.2.2.2.2.1,s.2.2.2.2.2.2.2.2.2.2.2.2.1] (0+(s.2.2.2.2.2.2.2.2.2.2.2.2.2.2.2.2.toNat*1)) 0)- (List.getD [s.2.2.2.2.1,s.2.2.2.2.2.1,s.2.2.2.2.2.2.1] (0+(s.2.2.2.2.2.2.2.2.2.2.2.2.2.2.2.2.toNat*1)) 0))),(av ((List.getD [s.2.2.2.2.2.2.2.2.2.2.2.2.2.1,s.2.2.2.2.2.2.2.2.2.2.2.2.2.2.1,s.2.2.2.2.2.2.2.2.2.2.2.2.2.2.2.1] (0+(s.2.2.2.2.2.2.2.2.2.2.2.2.2.2.2.2.toNat*1)) 0)- (List.getD [s.2.2.2.2.1,s.2.2.2.2.2.1,s.2.2.2.2.2.2.1] (0+(s.2.2.2.2.2.2.2.2.2.2.2.2.2.2.2.2.toNat*1)) 0))),(av ((List.getD [s.2.2.2.2.2.2.2.1,s.2.2.2.2.2.2.2.2.1,s.2.2.2.2.2.2.2.2.2.1] (0+(s.2.2.2.2.2.2.2.2.2.2.2.2.2.2.2.2.toNat*1)) 0)- (List.getD [s.2.2.2.2.1,s.2.2.2.2.2.1,s.2.2.2.2.2.2.1] (0+(s.2.2.2.2.2.2.2.2.2.2.2.2.2.2.2.2.toNat*1)) 0))),(s.1,s.2.1),s.2.2.1,s.2.2.2.1)))))))))))/\
 (¬((av ((List.getD [s.2.2.2.2.2.2.2.1,s.2.2.2.2.2.2.2.2.1,s.2.2.2.2.2.2.2.2.2.1] (0+(s.2.2.2.2.2.2.2.2.2.2.2.2.2.2.2.2.toNat*1)) 0)- (List.getD [s.2.2.2.2.1,s.2.2.2.2.2.1,s.2.2.2.2.2.2.1] (0+(s.2.2.2.2.2.2.2.2.2.2.2.2.2.2.2.2.toNat*1)) 0)))>0)->
 ((((av ((List.getD [s.2.2.2.2.2.2.2.1,s.2.2.2.2.2.2.2.2.1,s.2.2.2.2.2.2.2.2.2.1] (0+(s.2.2.2.2.2.2.2.2.2.2.2.2.2.2.2.2.toNat*1)) 0)- (List.getD [s.2.2.2.2.1,s.2.2.2.2.2.1,s.2.2.2.2.2.2.1] (0+(s.2.2.2.2.2.2.2.2.2.2.2.2.2.2.2.2.toNat*1)) 0)))<0)->
 (((0<=s.2.2.2.2.2.2.2.2.2.2.2.2.2.2.2.2)/\ (s.2.2.2.2.2.2.2.2.2.2.2.2.2.2.2.2<3))/\
 ((((0+(s.2.2.2.2.2.2.2.2.2.2.2.2.2.2.2.2.toNat*1))+1)<=3)/\
 (((0<=s.2.2.2.2.2.2.2.2.2.2.2.2.2.2.2.2)/\ (s.2.2.2.2.2.2.2.2.2.2.2.2.2.2.2.2<3))/\
 ((((0+(s.2.2.2.2.2.2.2.2.2.2.2.2.2.2.2.2.toNat*1))+1)<=3)/\
 (((0<=s.2.2.2.2.2.2.2.2.2.2.2.2.2.2.2.2)/\ (s.2.2.2.2.2.2.2.2.2.2.2.2.2.2.2.2<3))/\
 ((((0+(s.2.2.2.2.2.2.2.2.2.2.2.2.2.2.2.2.toNat*1))+1)<=3)/\
 (((0<=s.2.2.2.2.2.2.2.2.2.2.2.2.2.2.2.2)/\ (s.2.2.2.2.2.2.2.2.2.2.2.2.2.2.2.2<3))/\
 ((((0+(s.2.2.2.2.2.2.2.2.2.2.2.2.2.2.2.2.toNat*1))+1)<=3)/\
 (u6 ((av ((List.getD [s.2.2.2.2.1,s.2.2.2.2.2.1,s.2.2.2.2.2.2.1] (0+(s.2.2.2.2.2.2.2.2.2.2.2.2.2.2.2.2.toNat*1)) 0)- (List.getD [s.2.2.2.2.2.2.2.2.2.2.2.2.2.1,s.2.2.2.2.2.2.2.2.2.2.2.2.2.2.1,s.2.2.2.2.2.2.2.2.2.2.2.2.2.2.2.1] (0+(s.2.2.2.2.2.2.2.2.2.2.2.2.2.2.2.2.toNat*1)) 0))),(av ((List.getD [s.2.2.2.2.1,s.2.2.2.2.2.1,s.2.2.2.2.2.2.1] (0+(s.2.2.2.2.2.2.2.2.2.2.2.2.2.2.2.2.toNat*1)) 0)- (List.getD [s.2.2.2.2.2.2.2.2.2.2.1,s.2.2.2.2.2.2.2.2.2.2.2.1,s.2.2.2.2.2.2.2.2.2.2.2.2.1] (0+(s.2.2.2.2.2.2.2.2.2.2.2.2.2.2.2.2.toNat*1)) 0))),(av (0- (av ((List.getD [s.2.2.2.2.2.2.2.1,s.2.2.2.2.2.2.2.2.1,s.2.2.2.2.2.2.2.2.2.1] (0+(s.2.2.2.2.2.2.2.2.2.2.2.2.2.2.2.2.toNat*1)) 0)- (List.getD [s.2.2.2.2.1,s.2.2.2.2.2.1,s.2.2.2.2.2.2.1] (0+(s.2.2.2.2.2.2.2.2.2.2.2.2.2.2.2.2.toNat*1)) 0))))),(s.1,s.2.1),s.2.2.1,s.2.2.2.1)))))))))))/\
 (¬((av ((List.getD [s.2.2.2.2.2.2.2.1,s.2.2.2.2.2.2.2.2.1,s.2.2.2.2.2.2.2.2.2.1] (0+(s.2.2.2.2.2.2.2.2.2.2.2.2.2.2.2.2.toNat*1)) 0)- (List.getD [s.2.2.2.2.1,s.2.2.2.2.2.1,s.2.2.2.2.2.2.1] (0+(s.2.2.2.2.2.2.2.2.2.2.2.2.2.2.2.2.toNat*1)) 0)))<0)->
 (((0<=s.2.2.2.2.2.2.2.2.2.2.2.2.2.2.2.2)/\ (s.2.2.2.2.2.2.2.2.2.2.2.2.2.2.2.2<3))/\
 ((((0+(s.2.2.2.2.2.2.2.2.2.2.2.2.2.2.2.2.toNat*1))+1)<=3)/\
 (((0<=s.2.2.2.2.2.2.2.2.2.2.2.2.2.2.2.2)/\ (s.2.2.2.2.2.2.2.2.2.2.2.2.2.2.2.2<3))/\
 ((((0+(s.2.2.2.2.2.2.2.2.2.2.2.2.2.2.2.2.toNat*1))+1)<=3)/\
 (¬((List.getD [s.2.2.2.2.1,s.2.2.2.2.2.1,s.2.2.2.2.2.2.1] (0+(s.2.2.2.2.2.2.2.2.2.2.2.2.2.2.2.2.toNat*1)) 0)<(List.getD [s.2.2.2.2.2.2.2.2.2.2.1,s.2.2.2.2.2.2.2.2.2.2.2.1,s.2.2.2.2.2.2.2.2.2.2.2.2.1] (0+(s.2.2.2.2.2.2.2.2.2.2.2.2.2.2.2.2.toNat*1)) 0))->
 (((0<=s.2.2.2.2.2.2.2.2.2.2.2.2.2.2.2.2)/\ (s.2.2.2.2.2.2.2.2.2.2.2.2.2.2.2.2<3))/\
 ((((0+(s.2.2.2.2.2.2.2.2.2.2.2.2.2.2.2.2.toNat*1))+1)<=3)/\
 (((0<=s.2.2.2.2.2.2.2.2.2.2.2.2.2.2.2.2)/\ (s.2.2.2.2.2.2.2.2.2.2.2.2.2.2.2.2<3))/\
 (((0+(s.2.2.2.2.2.2.2.2.2.2.2.2.2.2.2.2.toNat*1))+1)<=3))))))))))))))))))
abbrev kQ (s:kA):=(0+((tN s.2.2.2.2.2.2.2.2.2.2.2.2.2.2.2.2)*1))
abbrev aa9 (s:kA):=(s.2.2.2.2.1,s.2.2.2.2.2.1,s.2.2.2.2.2.2.1,s.2.2.2.2.2.2.2.1,s.2.2.2.2.2.2.2.2.1,s.2.2.2.2.2.2.2.2.2.1,s.2.2.2.2.2.2.2.2.2.2.1,s.2.2.2.2.2.2.2.2.2.2.2.1,s.2.2.2.2.2.2.2.2.2.2.2.2.1,s.2.2.2.2.2.2.2.2.2.2.2.2.2.1,s.2.2.2.2.2.2.2.2.2.2.2.2.2.2.1,s.2.2.2.2.2.2.2.2.2.2.2.2.2.2.2.1,(w1 s.2.2.2.2.2.2.2.2.2.2.2.2.2.2.2.2))
abbrev Gp (s:kA):=(List.getD [s.2.2.2.2.1,s.2.2.2.2.2.1,s.2.2.2.2.2.2.1] (kQ s) z0)
abbrev Uu (s:kA):=(av ((List.getD [s.2.2.2.2.2.2.2.1,s.2.2.2.2.2.2.2.2.1,s.2.2.2.2.2.2.2.2.2.1] (kQ s) z0)- (Gp s)))
abbrev abb (s:kA):=(List.getD [s.2.2.2.2.2.2.2.2.2.2.2.2.2.1,s.2.2.2.2.2.2.2.2.2.2.2.2.2.2.1,s.2.2.2.2.2.2.2.2.2.2.2.2.2.2.2.1] (kQ s) z0)
abbrev abd (s:kA):=(List.getD [s.2.2.2.2.2.2.2.2.2.2.1,s.2.2.2.2.2.2.2.2.2.2.2.1,s.2.2.2.2.2.2.2.2.2.2.2.2.1] (kQ s) z0)
def CS (x:(I3×I9)) (s:kA):Tr (kA⊕(Unit⊕(Int×I3))) true:=
 (.i10 (s.2.2.2.2.2.2.2.2.2.2.2.2.2.2.2.2<3)
 (.oR s.2.2.2.2.2.2.2.2.2.2.2.2.2.2.2.2 3
 (.od (((kQ s)+1)<=3)
 (.oR s.2.2.2.2.2.2.2.2.2.2.2.2.2.2.2.2 3
 (.od (((kQ s)+1)<=3)
 (.i11 ((Uu s)>z0)
 (.oR s.2.2.2.2.2.2.2.2.2.2.2.2.2.2.2.2 3
 (.od (((kQ s)+1)<=3)
 (.oR s.2.2.2.2.2.2.2.2.2.2.2.2.2.2.2.2 3
 (.od (((kQ s)+1)<=3)
 (.oR s.2.2.2.2.2.2.2.2.2.2.2.2.2.2.2.2 3
 (.od (((kQ s)+1)<=3)
 (.oR s.2.2.2.2.2.2.2.2.2.2.2.2.2.2.2.2 3
 (.od (((kQ s)+1)<=3)
 (.fnW Gc ((av ((abd s)- (Gp s))),(av ((abb s)- (Gp s))),(Uu s),(s.1,s.2.1),s.2.2.1,s.2.2.2.1) fun y=>
 (.ret (.inl (y.2.2.2.2.1.1,y.2.2.2.2.1.2,y.2.2.2.2.2.1,y.2.2.2.2.2.2,(aa9 s)))))))))))))
 (.i11 ((Uu s)<z0)
 (.oR s.2.2.2.2.2.2.2.2.2.2.2.2.2.2.2.2 3
 (.od (((kQ s)+1)<=3)
 (.oR s.2.2.2.2.2.2.2.2.2.2.2.2.2.2.2.2 3
 (.od (((kQ s)+1)<=3)
 (.oR s.2.2.2.2.2.2.2.2.2.2.2.2.2.2.2.2 3
 (.od (((kQ s)+1)<=3)
 (.oR s.2.2.2.2.2.2.2.2.2.2.2.2.2.2.2.2 3
 (.od (((kQ s)+1)<=3)
 (.fnW Gc ((av ((Gp s)- (abb s))),(av ((Gp s)- (abd s))),(av (z0- (Uu s))),(s.1,s.2.1),s.2.2.1,s.2.2.2.1) fun y=>
 (.ret (.inl (y.2.2.2.2.1.1,y.2.2.2.2.1.2,y.2.2.2.2.2.1,y.2.2.2.2.2.2,(aa9 s)))))))))))))
 (.oR s.2.2.2.2.2.2.2.2.2.2.2.2.2.2.2.2 3
 (.od (((kQ s)+1)<=3)
 (.oR s.2.2.2.2.2.2.2.2.2.2.2.2.2.2.2.2 3
 (.od (((kQ s)+1)<=3)
 (.FN ((Gp s)<(abd s))
 (.ret (.inr (Sum.inl ())))
 (.oR s.2.2.2.2.2.2.2.2.2.2.2.2.2.2.2.2 3
 (.od (((kQ s)+1)<=3)
 (.oR s.2.2.2.2.2.2.2.2.2.2.2.2.2.2.2.2 3
 (.od (((kQ s)+1)<=3)
 (.tF ((Gp s)>(abb s))
 (.ret (.inr (Sum.inl ())))
 (.ret (.inl (s.1,s.2.1,s.2.2.1,s.2.2.2.1,(aa9 s))))))))))))))))))))
 (.ret (.inr (Sum.inr ((s.1,s.2.1,s.2.2.1,s.2.2.2.1))))))
def qu (x:(I3×I9)):(Bool×Int):=
 (aq (dR [x.1,x.2.1]) fun y=>
 (if ((!y)=true) then
 (false,5) else
 (aq (qy x.2.2) fun aB=>
 (if ((!aB)=true) then
 (false,1) else
 (aq (parts x.1) fun y_2=>
 (aq (parts x.2.1) fun bk=>
 (aq (parts x.2.2.1) fun bQ=>
 (aq (parts x.2.2.2) fun jt=>
 (aq (run (dQ x) (0,1,1,1,y_2.1,y_2.2.1,y_2.2.2,bk.1,bk.2.1,bk.2.2,bQ.1,bQ.2.1,bQ.2.2,jt.1,jt.2.1,jt.2.2,0)) fun r=>
 (Sum.elim (fun a=>
 (false,0)) (fun b=>
 (aq (Ir ((b.1,b.2.1),b.2.2)) fun nI=>
 ((decide (nI<=0)),0))) r))))))))))
def lz (x:(I3×I9)):Prop:=
 ((ct [x.1,x.2.1])/\
 aC (dR [x.1,x.2.1]) fun y=>
 (¬((!y)=true)->
 ((oL x.2.2)/\
 aC (qy x.2.2) fun aB=>
 (¬((!aB)=true)->
 (aC (parts x.1) fun y_2=>
 (aC (parts x.2.1) fun bk=>
 (aC (parts x.2.2.1) fun bQ=>
 (aC (parts x.2.2.2) fun jt=>
 (Term (dQ x) (lR x) (0,1,1,1,y_2.1,y_2.2.1,y_2.2.2,bk.1,bk.2.1,bk.2.2,bQ.1,bQ.2.1,bQ.2.2,jt.1,jt.2.1,jt.2.2,0)/\
 aC (run (dQ x) (0,1,1,1,y_2.1,y_2.2.1,y_2.2.2,bk.1,bk.2.1,bk.2.2,bQ.1,bQ.2.1,bQ.2.2,jt.1,jt.2.1,jt.2.2,0)) fun r=>
 (cS r (fun a=>
 True) (fun b=>
 (oq ((b.1,b.2.1),b.2.2)))))))))))))
def aaK (x:(I3×I9)):Tr (Bool×Int) true:=
 (.fn dS [x.1,x.2.1] fun y=>
 (.nM (!y)
 (.ret (false,5))
 (.fn rf x.2.2 fun aB=>
 (.nM (!aB)
 (.ret (false,z1))
 (.fn0 fQ x.1 trivial fun y_2=>
 (.fn0 fQ x.2.1 trivial fun bk=>
 (.fn0 fQ x.2.2.1 trivial fun bQ=>
 (.fn0 fQ x.2.2.2 trivial fun jt=>
 (aK.lp (JZ x) (CS x) (z0,z1,z1,z1,y_2.1,y_2.2.1,y_2.2.2,bk.1,bk.2.1,bk.2.2,bQ.1,bQ.2.1,bQ.2.2,jt.1,jt.2.1,jt.2.2,z0) fun r=>
 (.s01 r (fun a=>
 (.ret (false,z0))) (fun b=>
 (.fn x3 ((b.1,b.2.1),b.2.2) fun nI=>
 (.ret ((decide (nI<=z0)),z0))))))))))))))
abbrev zV:bY:=⟨(.pair (.agg aM) (.pair (.agg aM) (.agg (Ty.prod aM aM)))),(.pair (.one Ty.bool) (.one yi)),lz,qu⟩
theorem WW:ai Tryz.prog 151 (ak zV):=ai.tr zV aaK (fn:=Tryz.f151) aA yH mixed (by kernel_rfl) (ax.nil _ _) (fun x=>(ay.tr aA (ah.dX yH (ax.nil _ _)) mixed 1 (JZ x) (CS x) ay.nil (by kernel_rfl) fun g s Q=>(by kernel_rfl))) (fun x=>(by kernel_rfl)) fun x Q=>(by kernel_rfl)
def KU:List (Nat×Ev.Spec):=(151,ak zV)::UZ
theorem sQ:ah Tryz.prog KU:=ah.add (fn:=Tryz.f151) (by kernel_rfl) WW yH
end Go.Proofs.YtngdehlpoomaiaaGreat
