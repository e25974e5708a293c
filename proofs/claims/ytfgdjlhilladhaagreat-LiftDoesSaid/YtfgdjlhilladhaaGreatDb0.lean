/- Models of functions of near, and that the code does what they say. -/
import Derived.Test.YtfgdjlhilladhaaGreatDa
noncomputable section
set_option linter.unusedSectionVars false
set_option linter.unusedVariables false
set_option linter.unusedSimpArgs false
namespace Go.Proofs.YtfgdjlhilladhaaGreat
open Go Go.Ev Go.Proofs
def abf (x:(I2×I2×Int)):(I2×I3):=
 (aq (IZ (x.1,x.2.1)) fun y=>
 (aq (dot (y,y)) fun aB=>
 (x.2.1,x.2.2,aB,1)))
def Dv (x:(I2×I2×Int)):Prop:=
 (q7 (x.1,x.2.1))
def ajR (x:(I2×I2×Int)):Tr (I2×I3) true:=
 (.fn yW (x.1,x.2.1) fun y=>
 (.fn0 Oc (y,y) trivial fun aB=>
 (.ret (x.2.1,x.2.2,aB,z1))))
abbrev Gb:bB:=⟨(.pair (.agg aQ) (.pair (.agg aQ) (.one yi))),(.agg (Ty.prod aQ aU)),Dv,abf⟩
theorem aht:ah Tryz.prog 101 (ak Gb):=ah.tr Gb ajR (fn:=Tryz.f101) ax EG mixed (by kernel_rfl) (av.nil _ _) (fun x=>au.nil) (fun x=>(by kernel_rfl)) fun x Q=>(by kernel_rfl)
def ZK:List (Nat×Ev.Spec):=(101,ak Gb)::PJ
theorem Mc:ae Tryz.prog ZK:=ae.add (fn:=Tryz.f101) (by kernel_rfl) aht EG
def find (x:I6):(I2×I3):=
 (aq (IZ (x.1,x.2.1)) fun y=>
 (aq (IZ (x.2.2,x.2.1)) fun aB=>
 (aq (dot (y,aB)) fun y_2=>
 (aq (dot (aB,aB)) fun bh=>
 (if (y_2<=0) then
 (aq (abf (x.1,x.2.1,0)) fun bj=>
 bj) else
 (if ((bh==0)=true) then
 (aq (abf (x.1,x.2.1,0)) fun bj=>
 bj) else
 (if (y_2>=bh) then
 (aq (abf (x.1,x.2.2,1)) fun bj=>
 bj) else
 (aq (sC (x.2.1,x.2.2,x.1)) fun bj=>
 (aq (floor ((aj (aB.1*y_2)),bh)) fun gw=>
 (aq (floor ((aj (aB.2*y_2)),bh)) fun tF=>
 (((aj (x.2.1.1+gw)),(aj (x.2.1.2+tF))),2,(aj (bj.1*bj.1)),bh)))))))))))
def tM (x:I6):Prop:=
 ((q7 (x.1,x.2.1))/\
 az (IZ (x.1,x.2.1)) fun y=>
 ((q7 (x.2.2,x.2.1))/\
 az (IZ (x.2.2,x.2.1)) fun aB=>
 (az (dot (y,aB)) fun y_2=>
 (az (dot (aB,aB)) fun bh=>
 (((y_2<=0)->
 (Dv (x.1,x.2.1,0)))/\
 (¬(y_2<=0)->
 ((((bh==0)=true)->
 (Dv (x.1,x.2.1,0)))/\
 (¬((bh==0)=true)->
 (((y_2>=bh)->
 (Dv (x.1,x.2.2,1)))/\
 (¬(y_2>=bh)->
 ((j0 (x.2.1,x.2.2,x.1))/\
 az (sC (x.2.1,x.2.2,x.1)) fun bj=>
 ((qk ((aj (aB.1*y_2)),bh))/\
 az (floor ((aj (aB.1*y_2)),bh)) fun gw=>
 (qk ((aj (aB.2*y_2)),bh))))))))))))))
def ajf (x:I6):Tr (I2×I3) true:=
 (.fn yW (x.1,x.2.1) fun y=>
 (.fn yW (x.2.2,x.2.1) fun aB=>
 (.fn0 Oc (y,aB) trivial fun y_2=>
 (.fn0 Oc (aB,aB) trivial fun bh=>
 (.i11 (y_2<=z0)
 (.fn Gb (x.1,x.2.1,z0) fun bj=>
 (.ret bj))
 (.b11 (bh==z0)
 (.fn Gb (x.1,x.2.1,z0) fun bj=>
 (.ret bj))
 (.i11 (y_2>=bh)
 (.fn Gb (x.1,x.2.2,z1) fun bj=>
 (.ret bj))
 (.fn oe (x.2.1,x.2.2,x.1) fun bj=>
 (.fn rK ((aj (aB.1*y_2)),bh) fun gw=>
 (.fn rK ((aj (aB.2*y_2)),bh) fun tF=>
 (.ret (((aj (x.2.1.1+gw)),(aj (x.2.1.2+tF))),2,(aj (bj.1*bj.1)),bh))))))))))))
abbrev BV:bB:=⟨(.pair (.agg aQ) (.pair (.agg aQ) (.agg aQ))),(.agg (Ty.prod aQ aU)),tM,find⟩
theorem ag3:ah Tryz.prog 60 (ak BV):=ah.tr BV ajf (fn:=Tryz.f60) ax Mc mixed (by kernel_rfl) (av.nil _ _) (fun x=>au.nil) (fun x=>(by kernel_rfl)) fun x Q=>(by kernel_rfl)
def ZG:List (Nat×Ev.Spec):=(60,ak BV)::ZK
theorem L5:ae Tryz.prog ZG:=ae.add (fn:=Tryz.f60) (by kernel_rfl) ag3 Mc
def BW (x:I2):Bool:=
 (if (x.2>=1) then
 (if (x.2<=1000000000000000000) then
 (if (x.1>=(-1000000000000000000)) then
 (decide (x.1<=1000000000000000000)) else
 false) else
 false) else
 false)
def Wh (_:I2):Prop:=True
def ady (x:I2):Tr Bool false:=
 (.fm (x.2>=z1)
 (.fm (x.2<=1000000000000000000)
 (.fm (x.1>=(-1000000000000000000))
 (.ret (decide (x.1<=1000000000000000000)))
 (.ret false))
 (.ret false))
 (.ret false))
abbrev xH:bB:=⟨(.agg aQ),(.one Ty.bool),Wh,BW⟩
theorem aaE:ah Tryz.prog 144 (ak xH):=ah.tr xH ady (fn:=Tryz.f144) ax L5 mixed (by kernel_rfl) (av.nil _ _) (fun x=>au.nil) (fun x=>(by kernel_rfl)) fun x Q=>(by kernel_rfl)
def PI:List (Nat×Ev.Spec):=(144,ak xH)::ZG
theorem EF:ae Tryz.prog PI:=ae.add (fn:=Tryz.f144) (by kernel_rfl) aaE L5
def fto (x:(I2×I2)):Int:=
 (aq (BW x.1) fun y=>
 (aq (BW x.2) fun aB=>
 (if (y=true) then
 (if (aB=true) then
 (aq (Yw (x.1.1,x.2.2)) fun y_2=>
 (aq (Yw (x.2.1,x.1.2)) fun bh=>
 (aq (aij (y_2.1,bh.1)) fun bj=>
 bj))) else
 (if (aB=true) then
 (-1) else
 (if (y=true) then
 1 else
 (aq (compare (x.1.1,x.2.1)) fun y_2=>
 (aq (compare (x.1.2,x.2.2)) fun bh=>
 (aq (cor [y_2,bh]) fun bj=>
 bj)))))) else
 (if (aB=true) then
 (-1) else
 (if (y=true) then
 1 else
 (aq (compare (x.1.1,x.2.1)) fun y_2=>
 (aq (compare (x.1.2,x.2.2)) fun bh=>
 (aq (cor [y_2,bh]) fun bj=>
 bj))))))))
def Re (x:(I2×I2)):Prop:=
 (az (BW x.1) fun y=>
 (az (BW x.2) fun aB=>
 (((y=true)->
 (((aB=true)->
 (az (Yw (x.1.1,x.2.2)) fun y_2=>
 (az (Yw (x.2.1,x.1.2)) fun bh=>
 (MS (y_2.1,bh.1)))))/\
 (¬(aB=true)->
 (¬(aB=true)->
 (¬(y=true)->
 (az (compare (x.1.1,x.2.1)) fun y_2=>
 (az (compare (x.1.2,x.2.2)) fun bh=>
 (CL [y_2,bh]))))))))/\
 (¬(y=true)->
 (¬(aB=true)->
 (¬(y=true)->
 (az (compare (x.1.1,x.2.1)) fun y_2=>
 (az (compare (x.1.2,x.2.2)) fun bh=>
 (CL [y_2,bh])))))))))
def akX (x:(I2×I2)):Tr Int true:=
 (.fn0 xH x.1 trivial fun y=>
 (.fn0 xH x.2 trivial fun aB=>
 (.b11 y
 (.b11 aB
 (.fn0 MU (x.1.1,x.2.2) trivial fun y_2=>
 (.fn0 MU (x.2.1,x.1.2) trivial fun bh=>
 (.fn SN (y_2.1,bh.1) fun bj=>
 (.ret bj))))
 (.dy aB
 (.ret (-1))
 (.dy y
 (.ret z1)
 (.fn0 iU (x.1.1,x.2.1) trivial fun y_2=>
 (.fn0 iU (x.1.2,x.2.2) trivial fun bh=>
 (.fn N6 [y_2,bh] fun bj=>
 (.ret bj)))))))
 (.dy aB
 (.ret (-1))
 (.dy y
 (.ret z1)
 (.fn0 iU (x.1.1,x.2.1) trivial fun y_2=>
 (.fn0 iU (x.1.2,x.2.2) trivial fun bh=>
 (.fn N6 [y_2,bh] fun bj=>
 (.ret bj)))))))))
abbrev YQ:bB:=⟨(.pair (.agg aQ) (.agg aQ)),(.one yi),Re,fto⟩
theorem ajh:ah Tryz.prog 102 (ak YQ):=ah.tr YQ akX (fn:=Tryz.f102) ax EF mixed (by kernel_rfl) (av.nil _ _) (fun x=>au.nil) (fun x=>(by kernel_rfl)) fun x Q=>(by kernel_rfl)
def afT:List (Nat×Ev.Spec):=(102,ak YQ)::PI
theorem PK:ae Tryz.prog afT:=ae.add (fn:=Tryz.f102) (by kernel_rfl) ajh EF
def Wd (x:(I2×I2)):Int:=
 (aq (fto x) fun y=>
 y)
def CS (x:(I2×I2)):Prop:=
 (Re x)
def aje (x:(I2×I2)):Tr Int true:=
 (.fn YQ x fun y=>
 (.ret y))
abbrev FX:bB:=⟨(.pair (.agg aQ) (.agg aQ)),(.one yi),CS,Wd⟩
theorem agY:ah Tryz.prog 62 (ak FX):=ah.tr FX aje (fn:=Tryz.f62) ax PK mixed (by kernel_rfl) (av.nil _ _) (fun x=>au.nil) (fun x=>(by kernel_rfl)) fun x Q=>(by kernel_rfl)
def ZF:List (Nat×Ev.Spec):=(62,ak FX)::afT
theorem L4:ae Tryz.prog ZF:=ae.add (fn:=Tryz.f62) (by kernel_rfl) agY PK
def xT (x:(I2×I2×I2×Int)):Int:=
 (aq (Bz (x.2.1,x.2.2.1,x.1)) fun y=>
 (aj (x.2.2.2*y.1)))
def lA (x:(I2×I2×I2×Int)):Prop:=
 (uC (x.2.1,x.2.2.1,x.1))
def ahr (x:(I2×I2×I2×Int)):Tr Int true:=
 (.fn wk (x.2.1,x.2.2.1,x.1) fun y=>
 (.ret (aj (x.2.2.2*y.1))))
abbrev pS:bB:=⟨(.pair (.agg aQ) (.pair (.ptr (.prod (.int .i64) (.int .i64))) (.pair (.ptr (.prod (.int .i64) (.int .i64))) (.ptr (.int .i64))))),(.one yi),lA,xT⟩
theorem aeC:ah Tryz.prog 143 (ak pS):=ah.tr pS ahr (fn:=Tryz.f143) ax L4 mixed (by kernel_rfl) (av.nil _ _) (fun x=>au.nil) (fun x=>(by kernel_rfl)) fun x Q=>(by kernel_rfl)
def Vm:List (Nat×Ev.Spec):=(143,ak pS)::ZF
theorem o8:ae Tryz.prog Vm:=ae.add (fn:=Tryz.f143) (by kernel_rfl) aeC L4
def aep:acU Tryz.prog:=⟨_,(av.walk ax o8 mixed 98 (fn:=Tryz.f98) (by kernel_rfl) (av.nil _ _) fun ys hy=>au.nil)⟩
def ajK:acU Tryz.prog:=⟨_,(av.walk ax o8 mixed 142 (fn:=Tryz.f142) (by kernel_rfl) aep.ok fun ys hy=>(au.j7 ax ⟨o8,hy,aep.ok⟩ mixed 0 4 au.nil (by kernel_rfl)))⟩
def mIn (x:(I2×I6)):I2:=
 (aq (fA [x.1]) fun y=>
 (if ((!y)=true) then
 (0,5) else
 (aq (mright x.2) fun aB=>
 (if ((!aB)=true) then
 (0,1) else
 (aq (Bz x.2) fun y_2=>
 (aq (xT (x.1,x.2.1,x.2.2.1,y_2.1)) fun bh=>
 (aq (xT (x.1,x.2.2.1,x.2.2.2,y_2.1)) fun bj=>
 (aq (xT (x.1,x.2.2.2,x.2.1,y_2.1)) fun gw=>
 ((aj ((aG (aG (aG 1 bh) bj) gw)+1)),0)))))))))
def Jj (x:(I2×I6)):Prop:=
 ((dD [x.1])/\
 az (fA [x.1]) fun y=>
 (¬((!y)=true)->
 ((fY x.2)/\
 az (mright x.2) fun aB=>
 (¬((!aB)=true)->
 ((uC x.2)/\
 az (Bz x.2) fun y_2=>
 ((lA (x.1,x.2.1,x.2.2.1,y_2.1))/\
 az (xT (x.1,x.2.1,x.2.2.1,y_2.1)) fun bh=>
 ((lA (x.1,x.2.2.1,x.2.2.2,y_2.1))/\
 az (xT (x.1,x.2.2.1,x.2.2.2,y_2.1)) fun bj=>
 (lA (x.1,x.2.2.2,x.2.1,y_2.1)))))))))
def alV (x:(I2×I6)):Tr I2 true:=
 (.fn oZ [x.1] fun y=>
 (.dy (!y)
 (.ret (z0,5))
 (.fn l8 x.2 fun aB=>
 (.dy (!aB)
 (.ret (z0,z1))
 (.CA
 (.pn 0 4
 (.aiY
 (.CA
 (.fn wk x.2 fun y_2=>
 (.fx
 (.pn 2 7
 (.fL 1
 (.CA
 (.pn 3 11
 (.fL 1
 (.fn pS (x.1,x.2.1,x.2.2.1,y_2.1) fun bh=>
 (.fL 1
 (.pn 3 11
 (.fx
 (.pn 2 7
 (.fL 1
 (.CA
 (.pn 4 14
 (.fL 1
 (.fn pS (x.1,x.2.2.1,x.2.2.2,y_2.1) fun bj=>
 (.fL 1
 (.pn 4 14
 (.fx
 (.pn 2 7
 (.fL 1
 (.CA
 (.pn 5 17
 (.fL 1
 (.fn pS (x.1,x.2.2.2,x.2.1,y_2.1) fun gw=>
 (.fL 1
 (.pn 5 17
 (.pn 2 7
 (.ret ((w1 (aG (aG (aG z1 bh) bj) gw)),z0)))))))))))))))))))))))))))))))))))))))
abbrev TQ:bB:=⟨(.pair (.agg aQ) (.agg aZ)),(.pair (.one yi) (.one yi)),Jj,mIn⟩
theorem ajL:ah Tryz.prog 59 (ak TQ):=ah.tr TQ alV (fn:=Tryz.f59) ax o8 mixed (by kernel_rfl) ajK.ok (fun x=>au.nil) (fun x=>(by kernel_rfl)) fun x Q=>(by kernel_rfl)
def afY:List (Nat×Ev.Spec):=(59,ak TQ)::Vm
theorem GJ:ae Tryz.prog afY:=ae.add (fn:=Tryz.f59) (by kernel_rfl) ajL o8
def V4:acU Tryz.prog:=⟨_,(av.walk ax GJ mixed 61 (fn:=Tryz.f61) (by kernel_rfl) (av.nil _ _) fun ys hy=>au.nil)⟩
def zl (x:(I2×I6)):(I2×I2×Int):=
 (aq (mIn x) fun y=>
 (if ((y.2 !=0)=true) then
 ((0,0),(0,0),y.2) else
 (if (y.1>0) then
 (x.1,(0,1),0) else
 (aq (find (x.1,x.2.1,x.2.2.1)) fun aB=>
 (aq (find (x.1,x.2.2)) fun y_2=>
 (aq (Wd (y_2.2.2,aB.2.2)) fun bh=>
 (if (bh<0) then
 (aq (find (x.1,x.2.2.2,x.2.1)) fun bj=>
 (aq (Wd (bj.2.2,y_2.2.2)) fun gw=>
 (if (gw<0) then
 (bj.1,bj.2.2,0) else
 (y_2.1,y_2.2.2,0)))) else
 (aq (find (x.1,x.2.2.2,x.2.1)) fun bj=>
 (aq (Wd (bj.2.2,aB.2.2)) fun gw=>
 (if (gw<0) then
 (bj.1,bj.2.2,0) else
 (aB.1,aB.2.2,0)))))))))))
def xn (x:(I2×I6)):Prop:=
 ((Jj x)/\
 az (mIn x) fun y=>
 (¬((y.2 !=0)=true)->
 (¬(y.1>0)->
 ((tM (x.1,x.2.1,x.2.2.1))/\
 az (find (x.1,x.2.1,x.2.2.1)) fun aB=>
 ((tM (x.1,x.2.2))/\
 az (find (x.1,x.2.2)) fun y_2=>
 ((CS (y_2.2.2,aB.2.2))/\
 az (Wd (y_2.2.2,aB.2.2)) fun bh=>
 (((bh<0)->
 ((tM (x.1,x.2.2.2,x.2.1))/\
 az (find (x.1,x.2.2.2,x.2.1)) fun bj=>
 (CS (bj.2.2,y_2.2.2))))/\
 (¬(bh<0)->
 ((tM (x.1,x.2.2.2,x.2.1))/\
 az (find (x.1,x.2.2.2,x.2.1)) fun bj=>
 (CS (bj.2.2,aB.2.2)))))))))))
def aah (x:(I2×I6)):Tr (I2×I2×Int) true:=
 (.fn TQ x fun y=>
 (.dy (y.2 !=z0)
 (.ret (jg,jg,y.2))
 (.nK (y.1>z0)
 (.ret (x.1,(z0,z1),z0))
 (.fn BV (x.1,x.2.1,x.2.2.1) fun aB=>
 (.fn BV (x.1,x.2.2) fun y_2=>
 (.CA
 (.fn FX (y_2.2.2,aB.2.2) fun bh=>
 (.i11 (bh<z0)
 (.pn 0 5
 (.fn BV (x.1,x.2.2.2,x.2.1) fun bj=>
 (.CA
 (.fn FX (bj.2.2,y_2.2.2) fun gw=>
 (.fm (gw<z0)
 (.pn 1 7
 (.ret (bj.1,bj.2.2,z0)))
 (.pn 1 7
 (.ret (y_2.1,y_2.2.2,z0))))))))
 (.pn 0 5
 (.fn BV (x.1,x.2.2.2,x.2.1) fun bj=>
 (.CA
 (.fn FX (bj.2.2,aB.2.2) fun gw=>
 (.fm (gw<z0)
 (.pn 1 7
 (.ret (bj.1,bj.2.2,z0)))
 (.pn 1 7
 (.ret (aB.1,aB.2.2,z0))))))))))))))))
abbrev zm:bB:=⟨(.pair (.agg aQ) (.agg aZ)),(.pair (.agg aQ) (.pair (.agg aQ) (.one yi))),xn,zl⟩
theorem V5:ah Tryz.prog 30 (ak zm):=ah.tr zm aah (fn:=Tryz.f30) ax GJ mixed (by kernel_rfl) V4.ok (fun x=>au.nil) (fun x=>(by kernel_rfl)) fun x Q=>(by kernel_rfl)
def L1:List (Nat×Ev.Spec):=(30,ak zm)::afY
theorem tn:ae Tryz.prog L1:=ae.add (fn:=Tryz.f30) (by kernel_rfl) V5 GJ
def weights (x:(I2×I6)):(I3×I2):=
 (aq (mIn x) fun y=>
 (if ((y.2 !=0)=true) then
 ((0,0,0),0,y.2) else
 (aq (sC x.2) fun aB=>
 (aq (Bz x.2) fun y_2=>
 (aq (sC (x.1,x.2.2)) fun bh=>
 (aq (sC (x.1,x.2.2.2,x.2.1)) fun bj=>
 (aq (sC (x.1,x.2.1,x.2.2.1)) fun gw=>
 (((aj (bh.1*y_2.1)),(aj (bj.1*y_2.1)),(aj (gw.1*y_2.1))),(aj (aB.1*y_2.1)),0))))))))
def ze (x:(I2×I6)):Prop:=
 ((Jj x)/\
 az (mIn x) fun y=>
 (¬((y.2 !=0)=true)->
 ((j0 x.2)/\
 az (sC x.2) fun aB=>
 ((uC x.2)/\
 az (Bz x.2) fun y_2=>
 ((j0 (x.1,x.2.2))/\
 az (sC (x.1,x.2.2)) fun bh=>
 ((j0 (x.1,x.2.2.2,x.2.1))/\
 az (sC (x.1,x.2.2.2,x.2.1)) fun bj=>
 (j0 (x.1,x.2.1,x.2.2.1))))))))
def acF (x:(I2×I6)):Tr (I3×I2) true:=
 (.fn TQ x fun y=>
 (.dy (y.2 !=z0)
 (.ret (ef,z0,y.2))
 (.fn oe x.2 fun aB=>
 (.fn wk x.2 fun y_2=>
 (.fn oe (x.1,x.2.2) fun bh=>
 (.fn oe (x.1,x.2.2.2,x.2.1) fun bj=>
 (.fn oe (x.1,x.2.1,x.2.2.1) fun gw=>
 (.ret (((aj (bh.1*y_2.1)),(aj (bj.1*y_2.1)),(aj (gw.1*y_2.1))),(aj (aB.1*y_2.1)),z0)))))))))
abbrev Ay:bB:=⟨(.pair (.agg aQ) (.agg aZ)),(.pair (.agg aU) (.pair (.one yi) (.one yi))),ze,weights⟩
theorem Ys:ah Tryz.prog 65 (ak Ay):=ah.tr Ay acF (fn:=Tryz.f65) ax tn mixed (by kernel_rfl) (av.nil _ _) (fun x=>(au.j7 ax (ae.bD tn (av.nil _ _)) mixed 0 4 au.nil (by kernel_rfl))) (fun x=>(by kernel_rfl)) fun x Q=>(by kernel_rfl)
def MD:List (Nat×Ev.Spec):=(65,ak Ay)::L1
theorem tC:ae Tryz.prog MD:=ae.add (fn:=Tryz.f65) (by kernel_rfl) Ys tn
def OO (x:(I2×I6×I9)):(I3×Int):=
 (aq (fA [x.1]) fun y=>
 (if ((!y)=true) then
 ((0,0,0),5) else
 (aq (LY [x.2.2.1,x.2.2.2.1,x.2.2.2.2]) fun aB=>
 (if ((!aB)=true) then
 ((0,0,0),5) else
 (aq (weights (x.1,x.2.1)) fun y_2=>
 (if ((y_2.2.2 !=0)=true) then
 ((0,0,0),y_2.2.2) else
 (aq (floor ((aj ((aj ((aj (0+(aj (y_2.1.1*x.2.2.1.1))))+(aj (y_2.1.2.1*x.2.2.2.1.1))))+(aj (y_2.1.2.2*x.2.2.2.2.1)))),y_2.2.1)) fun bh=>
 (aq (floor ((aj ((aj ((aj (0+(aj (y_2.1.1*x.2.2.1.2.1))))+(aj (y_2.1.2.1*x.2.2.2.1.2.1))))+(aj (y_2.1.2.2*x.2.2.2.2.2.1)))),y_2.2.1)) fun bj=>
 (aq (floor ((aj ((aj ((aj (0+(aj (y_2.1.1*x.2.2.1.2.2))))+(aj (y_2.1.2.1*x.2.2.2.1.2.2))))+(aj (y_2.1.2.2*x.2.2.2.2.2.2)))),y_2.2.1)) fun gw=>
 ((bh,bj,gw),0))))))))))
def Gc (x:(I2×I6×I9)):Prop:=
 ((dD [x.1])/\
 az (fA [x.1]) fun y=>
 (¬((!y)=true)->
 ((Cl [x.2.2.1,x.2.2.2.1,x.2.2.2.2])/\
 az (LY [x.2.2.1,x.2.2.2.1,x.2.2.2.2]) fun aB=>
 (¬((!aB)=true)->
 ((ze (x.1,x.2.1))/\
 az (weights (x.1,x.2.1)) fun y_2=>
 (¬((y_2.2.2 !=0)=true)->
 ((qk ((aj ((aj ((aj (0+(aj (y_2.1.1*x.2.2.1.1))))+(aj (y_2.1.2.1*x.2.2.2.1.1))))+(aj (y_2.1.2.2*x.2.2.2.2.1)))),y_2.2.1))/\
 az (floor ((aj ((aj ((aj (0+(aj (y_2.1.1*x.2.2.1.1))))+(aj (y_2.1.2.1*x.2.2.2.1.1))))+(aj (y_2.1.2.2*x.2.2.2.2.1)))),y_2.2.1)) fun bh=>
 ((qk ((aj ((aj ((aj (0+(aj (y_2.1.1*x.2.2.1.2.1))))+(aj (y_2.1.2.1*x.2.2.2.1.2.1))))+(aj (y_2.1.2.2*x.2.2.2.2.2.1)))),y_2.2.1))/\
 az (floor ((aj ((aj ((aj (0+(aj (y_2.1.1*x.2.2.1.2.1))))+(aj (y_2.1.2.1*x.2.2.2.1.2.1))))+(aj (y_2.1.2.2*x.2.2.2.2.2.1)))),y_2.2.1)) fun bj=>
 (qk ((aj ((aj ((aj (0+(aj (y_2.1.1*x.2.2.1.2.2))))+(aj (y_2.1.2.1*x.2.2.2.1.2.2))))+(aj (y_2.1.2.2*x.2.2.2.2.2.2)))),y_2.2.1))))))))))
def ahu (x:(I2×I6×I9)):Tr (I3×Int) true:=
 (.fn oZ [x.1] fun y=>
 (.dy (!y)
 (.ret (ef,5))
 (.fn Ex [x.2.2.1,x.2.2.2.1,x.2.2.2.2] fun aB=>
 (.dy (!aB)
 (.ret (ef,5))
 (.fn Ay (x.1,x.2.1) fun y_2=>
 (.dy (y_2.2.2 !=z0)
 (.ret (ef,y_2.2.2))
 (.fn rK ((aj ((aj ((aj (z0+(aj (y_2.1.1*x.2.2.1.1))))+(aj (y_2.1.2.1*x.2.2.2.1.1))))+(aj (y_2.1.2.2*x.2.2.2.2.1)))),y_2.2.1) fun bh=>
 (.fn rK ((aj ((aj ((aj (z0+(aj (y_2.1.1*x.2.2.1.2.1))))+(aj (y_2.1.2.1*x.2.2.2.1.2.1))))+(aj (y_2.1.2.2*x.2.2.2.2.2.1)))),y_2.2.1) fun bj=>
 (.fn rK ((aj ((aj ((aj (z0+(aj (y_2.1.1*x.2.2.1.2.2))))+(aj (y_2.1.2.1*x.2.2.2.1.2.2))))+(aj (y_2.1.2.2*x.2.2.2.2.2.2)))),y_2.2.1) fun gw=>
 (.ret ((bh,bj,gw),z0)))))))))))
abbrev Jm:bB:=⟨(.pair (.agg aQ) (.pair (.agg aZ) (.agg fk))),(.pair (.agg aU) (.one yi)),Gc,OO⟩
theorem aeF:ah Tryz.prog 31 (ak Jm):=ah.tr Jm ahu (fn:=Tryz.f31) ax tC mixed (by kernel_rfl) (av.nil _ _) (fun x=>(au.j7 ax (ae.bD tC (av.nil _ _)) mixed 0 4 au.nil (by kernel_rfl))) (fun x=>(by kernel_rfl)) fun x Q=>(by kernel_rfl)
def Vn:List (Nat×Ev.Spec):=(31,ak Jm)::MD
theorem yI:ae Tryz.prog Vn:=ae.add (fn:=Tryz.f31) (by kernel_rfl) aeF tC
end Go.Proofs.YtfgdjlhilladhaaGreat
