/- Models of the references of layers 10, 11, 8, 15. -/
import Derived.Test.YtfgdjlhilladhaaGreatHa
noncomputable section
set_option linter.unusedSectionVars false
set_option linter.unusedVariables false
set_option linter.unusedSimpArgs false
namespace Go.Proofs.YtfgdjlhilladhaaGreat
open Go Go.Ev Go.Proofs
abbrev iD:Type:=((List I3×List I2×List I3×List I9)×List I3×List I2×List I3×List I9)
abbrev SK:Type:=((List I3×List I2×List I3×List I9)×Int)
abbrev eu:Type:=(List I3×List I2×List I3×List I9)
def cW (x:I6):Bool:=
 (aq (kf x) fun y=>
 (if ((y.2==0)=true) then
 (y.1 !=0) else
 false))
def RM (_:I6):Prop:=True
def Xc (x:I6):Tr Bool false:=
 (.fn0 ic x trivial fun y=>
 (.cQ (y.2==z0)
 (.ret (y.1 !=z0))
 (.ret false)))
abbrev fZ:bB:=⟨(.agg aZ),(.one Ty.bool),RM,cW⟩
theorem Uf:ah Tryz.prog 106 (ak fZ):=ah.tr fZ Xc (fn:=Tryz.f106) ax Fg mixed (by kernel_rfl) (av.nil _ _) (fun x=>au.nil) (fun x=>(by kernel_rfl)) fun x Q=>(by kernel_rfl)
def Ig:List (Nat×Ev.Spec):=(106,ak fZ)::Qo
theorem yL:ae Tryz.prog Ig:=ae.add (fn:=Tryz.f106) (by kernel_rfl) Uf Fg
def dL (x:(I6×I3)):Int:=
 (aq (fu (((List.getD [x.1.1.1,x.1.1.2,x.1.2.1.1,x.1.2.1.2,x.1.2.2.1,x.1.2.2.2] (0+(x.2.1.toNat*2)) 0),(List.getD [x.1.1.1,x.1.1.2,x.1.2.1.1,x.1.2.1.2,x.1.2.2.1,x.1.2.2.2] ((0+(x.2.1.toNat*2))+1) 0)),((List.getD [x.1.1.1,x.1.1.2,x.1.2.1.1,x.1.2.1.2,x.1.2.2.1,x.1.2.2.2] (0+((Int.toNat (Int.tmod (aj (x.2.1+1)) 3))*2)) 0),(List.getD [x.1.1.1,x.1.1.2,x.1.2.1.1,x.1.2.1.2,x.1.2.2.1,x.1.2.2.2] ((0+((Int.toNat (Int.tmod (aj (x.2.1+1)) 3))*2))+1) 0)),(List.getD [x.1.1.1,x.1.1.2,x.1.2.1.1,x.1.2.1.2,x.1.2.2.1,x.1.2.2.2] (0+((Int.toNat (Int.tmod (aj (x.2.1+2)) 3))*2)) 0),(List.getD [x.1.1.1,x.1.1.2,x.1.2.1.1,x.1.2.1.2,x.1.2.2.1,x.1.2.2.2] ((0+((Int.toNat (Int.tmod (aj (x.2.1+2)) 3))*2))+1) 0))) fun y=>
 (aq (fu (((List.getD [x.1.1.1,x.1.1.2,x.1.2.1.1,x.1.2.1.2,x.1.2.2.1,x.1.2.2.2] (0+(x.2.1.toNat*2)) 0),(List.getD [x.1.1.1,x.1.1.2,x.1.2.1.1,x.1.2.1.2,x.1.2.2.1,x.1.2.2.2] ((0+(x.2.1.toNat*2))+1) 0)),((List.getD [x.1.1.1,x.1.1.2,x.1.2.1.1,x.1.2.1.2,x.1.2.2.1,x.1.2.2.2] (0+((Int.toNat (Int.tmod (aj (x.2.1+1)) 3))*2)) 0),(List.getD [x.1.1.1,x.1.1.2,x.1.2.1.1,x.1.2.1.2,x.1.2.2.1,x.1.2.2.2] ((0+((Int.toNat (Int.tmod (aj (x.2.1+1)) 3))*2))+1) 0)),x.2.2)) fun aB=>
 (aj (y.1*aB.1))))
def bK (x:(I6×I3)):Prop:=
 (((0<=x.2.1)/\ (x.2.1<3))/\
 ((((0+(x.2.1.toNat*2))+2)<=6)/\
 (((0<=(Int.tmod (aj (x.2.1+1)) 3))/\ ((Int.tmod (aj (x.2.1+1)) 3)<3))/\
 ((((0+((Int.toNat (Int.tmod (aj (x.2.1+1)) 3))*2))+2)<=6)/\
 (((0<=(Int.tmod (aj (x.2.1+2)) 3))/\ ((Int.tmod (aj (x.2.1+2)) 3)<3))/\
 ((((0+((Int.toNat (Int.tmod (aj (x.2.1+2)) 3))*2))+2)<=6)/\
 (az (fu (((List.getD [x.1.1.1,x.1.1.2,x.1.2.1.1,x.1.2.1.2,x.1.2.2.1,x.1.2.2.2] (0+(x.2.1.toNat*2)) 0),(List.getD [x.1.1.1,x.1.1.2,x.1.2.1.1,x.1.2.1.2,x.1.2.2.1,x.1.2.2.2] ((0+(x.2.1.toNat*2))+1) 0)),((List.getD [x.1.1.1,x.1.1.2,x.1.2.1.1,x.1.2.1.2,x.1.2.2.1,x.1.2.2.2] (0+((Int.toNat (Int.tmod (aj (x.2.1+1)) 3))*2)) 0),(List.getD [x.1.1.1,x.1.1.2,x.1.2.1.1,x.1.2.1.2,x.1.2.2.1,x.1.2.2.2] ((0+((Int.toNat (Int.tmod (aj (x.2.1+1)) 3))*2))+1) 0)),(List.getD [x.1.1.1,x.1.1.2,x.1.2.1.1,x.1.2.1.2,x.1.2.2.1,x.1.2.2.2] (0+((Int.toNat (Int.tmod (aj (x.2.1+2)) 3))*2)) 0),(List.getD [x.1.1.1,x.1.1.2,x.1.2.1.1,x.1.2.1.2,x.1.2.2.1,x.1.2.2.2] ((0+((Int.toNat (Int.tmod (aj (x.2.1+2)) 3))*2))+1) 0))) fun y=>
 (((0<=x.2.1)/\ (x.2.1<3))/\
 ((((0+(x.2.1.toNat*2))+2)<=6)/\
 (((0<=(Int.tmod (aj (x.2.1+1)) 3))/\ ((Int.tmod (aj (x.2.1+1)) 3)<3))/\
 (((0+((Int.toNat (Int.tmod (aj (x.2.1+1)) 3))*2))+2)<=6)))))))))))
abbrev AX (x:(I6×I3)):= [x.1.1.1,x.1.1.2,x.1.2.1.1,x.1.2.1.2,x.1.2.2.1,x.1.2.2.2]
abbrev O0 (x:(I6×I3)):=(0+((tN (Int.tmod (w1 x.2.1) (3:Int)))*2))
def Xd (x:(I6×I3)):Tr Int true:=
 (.oR x.2.1 3
 (.od (((0+((tN x.2.1)*2))+2)<=6)
 (.oR (Int.tmod (w1 x.2.1) 3) 3
 (.od (((O0 x)+2)<=6)
 (.oR (Int.tmod (aj (x.2.1+2)) 3) 3
 (.od (((0+((tN (Int.tmod (aj (x.2.1+2)) 3))*2))+2)<=6)
 (.fn0 yB (((List.getD (AX x) (0+((tN x.2.1)*2)) z0),(List.getD (AX x) ((0+((tN x.2.1)*2))+1) z0)),((List.getD (AX x) (O0 x) z0),(List.getD (AX x) ((O0 x)+1) z0)),(List.getD (AX x) (0+((tN (Int.tmod (aj (x.2.1+2)) 3))*2)) z0),(List.getD (AX x) ((0+((tN (Int.tmod (aj (x.2.1+2)) 3))*2))+1) z0)) trivial fun y=>
 (.oR x.2.1 3
 (.od (((0+((tN x.2.1)*2))+2)<=6)
 (.oR (Int.tmod (w1 x.2.1) 3) 3
 (.od (((O0 x)+2)<=6)
 (.fn0 yB (((List.getD (AX x) (0+((tN x.2.1)*2)) z0),(List.getD (AX x) ((0+((tN x.2.1)*2))+1) z0)),((List.getD (AX x) (O0 x) z0),(List.getD (AX x) ((O0 x)+1) z0)),x.2.2) trivial fun aB=>
 (.ret (aj (y.1*aB.1)))))))))))))))
abbrev kZ:bB:=⟨(.pair (.agg aZ) (.pair (.one yi) (.agg aQ))),(.one yi),bK,dL⟩
theorem Ug:ah Tryz.prog 107 (ak kZ):=ah.tr kZ Xd (fn:=Tryz.f107) ax yL mixed (by kernel_rfl) (av.nil _ _) (fun x=>au.nil) (fun x=>(by kernel_rfl)) fun x Q=>(by kernel_rfl)
def Ih:List (Nat×Ev.Spec):=(107,ak kZ)::Ig
theorem qZ:ae Tryz.prog Ih:=ae.add (fn:=Tryz.f107) (by kernel_rfl) Ug yL
def O1 (x:(I2×I6)):I2:=
 (aq (bV x.1) fun y=>
 (if ((!y)=true) then
 (0,5) else
 (aq (cW x.2) fun aB=>
 (if ((!aB)=true) then
 (0,1) else
 (aq (dL (x.2,0,x.1)) fun y_2=>
 (aq (dL (x.2,1,x.1)) fun bh=>
 (aq (dL (x.2,2,x.1)) fun bj=>
 ((aj ((aG (aG (aG 1 y_2) bh) bj)+1)),0))))))))
def tZ (x:(I2×I6)):Prop:=
 (az (bV x.1) fun y=>
 (¬((!y)=true)->
 (az (cW x.2) fun aB=>
 (¬((!aB)=true)->
 ((bK (x.2,0,x.1))/\
 az (dL (x.2,0,x.1)) fun y_2=>
 ((bK (x.2,1,x.1))/\
 az (dL (x.2,1,x.1)) fun bh=>
 (bK (x.2,2,x.1))))))))
def ahI (x:(I2×I6)):Tr I2 true:=
 (.fn0 cE x.1 trivial fun y=>
 (.dy (!y)
 (.ret (z0,5))
 (.fn0 fZ x.2 trivial fun aB=>
 (.dy (!aB)
 (.ret (z0,z1))
 (.fn kZ (x.2,z0,x.1) fun y_2=>
 (.fn kZ (x.2,z1,x.1) fun bh=>
 (.fn kZ (x.2,2,x.1) fun bj=>
 (.ret ((w1 (aG (aG (aG z1 y_2) bh) bj)),z0)))))))))
abbrev DF:bB:=⟨(.pair (.agg aQ) (.agg aZ)),(.pair (.one yi) (.one yi)),tZ,O1⟩
theorem aeQ:ah Tryz.prog 67 (ak DF):=ah.tr DF ahI (fn:=Tryz.f67) ax qZ mixed (by kernel_rfl) (av.nil _ _) (fun x=>(au.j7 ax (ae.bD qZ (av.nil _ _)) mixed 0 4 au.nil (by kernel_rfl))) (fun x=>(by kernel_rfl)) fun x Q=>(by kernel_rfl)
def Vp:List (Nat×Ev.Spec):=(67,ak DF)::Ih
theorem yK:ae Tryz.prog Vp:=ae.add (fn:=Tryz.f67) (by kernel_rfl) aeQ qZ
def yd (x:(I6×Int×List I2)):aF:=⟨[],⟨bq 25 0 [(1,.v (.one (.i .i64))),(2,.v (.one (.full 0))),(3,.v (.one (.ptr 1 0))),(7,.v (.one (.i .i64))),(8,.v (.one (.i .i64)))],[.row aQ 0,.cells [.i .i64,.i .i64,.i .i64,.i .i64,.i .i64,.i .i64] 24],0,none,[],[0,3,4,5,6,7,8,9],[1,2],[.i,.i],[.i x.2.1,.l aQ x.2.2,.i x.1.1.1,.i x.1.1.2,.i x.1.2.1.1,.i x.1.2.1.2,.i x.1.2.2.1,.i x.1.2.2.2]⟩,[⟨(.exit 0),.normal,⟨bq 25 0 [(7,.v (.one (.i .i64)))],[],0,none,[],[],[0],[.i],[]⟩⟩]⟩
def gB (x:(I6×Int×List I2)) (s:I2):I2⊕Int:=
 (if (s.2<(x.2.2.length:Int)) then
 (aq (dL (x.1,x.2.1,(x.2.2.getD s.2.toNat (0,0)))) fun y=>
 (Sum.inl ((aI s.1 y),(aj (s.2+1))))) else
 (Sum.inr (s.1)))
def kY (x:(I6×Int×List I2)) (s:I2):Prop:=
 ((s.2<(x.2.2.length:Int))->
 (((0<=s.2)/\ (s.2<(x.2.2.length:Int)))/\
 ((s.2.toNat<x.2.2.length)/\
 ((s.2.toNat<x.2.2.length)/\
 (bK (x.1,x.2.1,(x.2.2.getD s.2.toNat (0,0))))))))
def tY (x:(I6×Int×List I2)) (s:I2):Tr (I2⊕Int) true:=
 (.i10 (s.2<(nL x.2.2))
 (.gu s.2 x.2.2
 (.fn kZ (x.1,x.2.1,(gT x.2.2 s.2 jg)) fun y=>
 (.ret (.inl ((aI s.1 y),(w1 s.2))))))
 (.ret (.inr (s.1))))
def ct (x:(I6×Int×List I2)):Int:=
 (aq (run (gB x) ((-1),0)) fun r=>
 r)
def cR (x:(I6×Int×List I2)):Prop:=
 (Term (gB x) (kY x) ((-1),0))
def Np (x:(I6×Int×List I2)):Tr Int true:=
 (aF.lp (yd x) (tY x) ((-1),z0) fun r=>
 (.ret r))
abbrev c9:bB:=⟨(.pair (.agg aZ) (.pair (.one yi) (.one (Ty.sl aQ)))),(.one yi),cR,ct⟩
theorem K0:ah Tryz.prog 185 (ak c9):=ah.tr c9 Np (fn:=Tryz.f185) ax yK mixed (by kernel_rfl) (av.nil _ _) (fun x=>(au.tr ax (ae.bD yK (av.nil _ _)) mixed 0 (yd x) (tY x) au.nil (by kernel_rfl) fun g s Q=>(by kernel_rfl))) (fun x=>(by kernel_rfl)) fun x Q=>(by kernel_rfl)
def yJ:List (Nat×Ev.Spec):=(185,ak c9)::Vp
theorem mO:ae Tryz.prog yJ:=ae.add (fn:=Tryz.f185) (by kernel_rfl) K0 yK
def fF (x:(I6×List I2×Bool)):Bool:=
 (aq (ct (x.1,0,x.2.1)) fun y=>
 (if (y<0) then
 true else
 (if (x.2.2=true) then
 (if ((y==0)=true) then
 true else
 (aq (ct (x.1,1,x.2.1)) fun aB=>
 (if (aB<0) then
 true else
 (if (x.2.2=true) then
 (if ((aB==0)=true) then
 true else
 (aq (ct (x.1,2,x.2.1)) fun y_2=>
 (if (y_2<0) then
 true else
 (if (x.2.2=true) then
 (if ((y_2==0)=true) then
 true else
 false) else
 false)))) else
 (aq (ct (x.1,2,x.2.1)) fun y_2=>
 (if (y_2<0) then
 true else
 (if (x.2.2=true) then
 (if ((y_2==0)=true) then
 true else
 false) else
 false))))))) else
 (aq (ct (x.1,1,x.2.1)) fun aB=>
 (if (aB<0) then
 true else
 (if (x.2.2=true) then
 (if ((aB==0)=true) then
 true else
 (aq (ct (x.1,2,x.2.1)) fun y_2=>
 (if (y_2<0) then
 true else
 (if (x.2.2=true) then
 (if ((y_2==0)=true) then
 true else
 false) else
 false)))) else
 (aq (ct (x.1,2,x.2.1)) fun y_2=>
 (if (y_2<0) then
 true else
 (if (x.2.2=true) then
 (if ((y_2==0)=true) then
 true else
 false) else
 false)))))))))
def eJ (x:(I6×List I2×Bool)):Prop:=
 ((cR (x.1,0,x.2.1))/\
 az (ct (x.1,0,x.2.1)) fun y=>
 (¬(y<0)->
 (((x.2.2=true)->
 (¬((y==0)=true)->
 ((cR (x.1,1,x.2.1))/\
 az (ct (x.1,1,x.2.1)) fun aB=>
 (¬(aB<0)->
 (((x.2.2=true)->
 (¬((aB==0)=true)->
 (cR (x.1,2,x.2.1))))/\
 (¬(x.2.2=true)->
 (cR (x.1,2,x.2.1))))))))/\
 (¬(x.2.2=true)->
 ((cR (x.1,1,x.2.1))/\
 az (ct (x.1,1,x.2.1)) fun aB=>
 (¬(aB<0)->
 (((x.2.2=true)->
 (¬((aB==0)=true)->
 (cR (x.1,2,x.2.1))))/\
 (¬(x.2.2=true)->
 (cR (x.1,2,x.2.1))))))))))
def Ue (x:(I6×List I2×Bool)):Tr Bool true:=
 (.fn c9 (x.1,z0,x.2.1) fun y=>
 (.nK (y<z0)
 (.ret true)
 (.b11 x.2.2
 (.dy (y==z0)
 (.ret true)
 (.fn c9 (x.1,z1,x.2.1) fun aB=>
 (.nK (aB<z0)
 (.ret true)
 (.b11 x.2.2
 (.dy (aB==z0)
 (.ret true)
 (.fn c9 (x.1,2,x.2.1) fun y_2=>
 (.fm (y_2<z0)
 (.ret true)
 (.cQ x.2.2
 (.cQ (y_2==z0)
 (.ret true)
 (.ret false))
 (.ret false)))))
 (.fn c9 (x.1,2,x.2.1) fun y_2=>
 (.fm (y_2<z0)
 (.ret true)
 (.cQ x.2.2
 (.cQ (y_2==z0)
 (.ret true)
 (.ret false))
 (.ret false))))))))
 (.fn c9 (x.1,z1,x.2.1) fun aB=>
 (.nK (aB<z0)
 (.ret true)
 (.b11 x.2.2
 (.dy (aB==z0)
 (.ret true)
 (.fn c9 (x.1,2,x.2.1) fun y_2=>
 (.fm (y_2<z0)
 (.ret true)
 (.cQ x.2.2
 (.cQ (y_2==z0)
 (.ret true)
 (.ret false))
 (.ret false)))))
 (.fn c9 (x.1,2,x.2.1) fun y_2=>
 (.fm (y_2<z0)
 (.ret true)
 (.cQ x.2.2
 (.cQ (y_2==z0)
 (.ret true)
 (.ret false))
 (.ret false))))))))))
abbrev lD:bB:=⟨(.pair (.agg aZ) (.pair (.one (Ty.sl aQ)) (.one Ty.bool))),(.one Ty.bool),eJ,fF⟩
theorem RL:ah Tryz.prog 165 (ak lD):=ah.tr lD Ue (fn:=Tryz.f165) ax mO mixed (by kernel_rfl) (av.nil _ _) (fun x=>(au.j7 ax (ae.bD mO (av.nil _ _)) mixed 0 4 au.nil (by kernel_rfl))) (fun x=>(by kernel_rfl)) fun x Q=>(by kernel_rfl)
def EU:List (Nat×Ev.Spec):=(165,ak lD)::yJ
theorem wQ:ae Tryz.prog EU:=ae.add (fn:=Tryz.f165) (by kernel_rfl) RL mO
def vq (x:(I6×I6)):(Bool×Int):=
 (aq (cW x.1) fun y=>
 (if ((!y)=true) then
 (false,1) else
 (aq (cW x.2) fun aB=>
 (if ((!aB)=true) then
 (false,1) else
 (aq (fF (x.1,[x.2.1,x.2.2.1,x.2.2.2],true)) fun y_2=>
 (if ((!y_2)=true) then
 (aq (fF (x.2,[x.1.1,x.1.2.1,x.1.2.2],true)) fun bh=>
 ((!bh),0)) else
 (false,0)))))))
def mb (x:(I6×I6)):Prop:=
 (az (cW x.1) fun y=>
 (¬((!y)=true)->
 (az (cW x.2) fun aB=>
 (¬((!aB)=true)->
 ((eJ (x.1,[x.2.1,x.2.2.1,x.2.2.2],true))/\
 az (fF (x.1,[x.2.1,x.2.2.1,x.2.2.2],true)) fun y_2=>
 (((!y_2)=true)->
 (eJ (x.2,[x.1.1,x.1.2.1,x.1.2.2],true))))))))
def RK (x:(I6×I6)):Tr (Bool×Int) true:=
 (.fn0 fZ x.1 trivial fun y=>
 (.dy (!y)
 (.ret (false,z1))
 (.fn0 fZ x.2 trivial fun aB=>
 (.dy (!aB)
 (.ret (false,z1))
 (.fn lD (x.1,[x.2.1,x.2.2.1,x.2.2.2],true) fun y_2=>
 (.FB (!y_2)
 (.fn lD (x.2,[x.1.1,x.1.2.1,x.1.2.2],true) fun bh=>
 (.ret ((!bh),z0)))
 (.ret (false,z0))))))))
abbrev pW:bB:=⟨(.pair (.agg aZ) (.agg aZ)),(.pair (.one Ty.bool) (.one yi)),mb,vq⟩
theorem Nq:ah Tryz.prog 184 (ak pW):=ah.tr pW RK (fn:=Tryz.f184) ax wQ mixed (by kernel_rfl) (av.nil _ _) (fun x=>au.nil) (fun x=>(by kernel_rfl)) fun x Q=>(by kernel_rfl)
def Be:List (Nat×Ev.Spec):=(184,ak pW)::EU
theorem uy:ae Tryz.prog Be:=ae.add (fn:=Tryz.f184) (by kernel_rfl) Nq wQ
def Gi (x:(I2×Int×I6)):(Bool×Int):=
 (if (x.2.1<1) then
 (false,5) else
 (if (x.2.1>4096) then
 (false,5) else
 (aq (bV x.1) fun y=>
 (if ((!y)=true) then
 (false,5) else
 (aq (bV ((aj (x.1.1+x.2.1)),(aj (x.1.2+x.2.1)))) fun aB=>
 (if ((!aB)=true) then
 (false,5) else
 (aq (cW x.2.2) fun y_2=>
 (if ((!y_2)=true) then
 (false,1) else
 (if ((aG (aG x.2.2.1.1 x.2.2.2.1.1) x.2.2.2.2.1)>(aj (x.1.1+x.2.1))) then
 (false,0) else
 (if ((aG (aG x.2.2.1.2 x.2.2.2.1.2) x.2.2.2.2.2)>(aj (x.1.2+x.2.1))) then
 (false,0) else
 (if ((aI (aI x.2.2.1.1 x.2.2.2.1.1) x.2.2.2.2.1)<x.1.1) then
 (false,0) else
 (if ((aI (aI x.2.2.1.2 x.2.2.2.1.2) x.2.2.2.2.2)<x.1.2) then
 (false,0) else
 (aq (fF (x.2.2,[x.1,((aj (x.1.1+x.2.1)),x.1.2),((aj (x.1.1+x.2.1)),(aj (x.1.2+x.2.1))),(x.1.1,(aj (x.1.2+x.2.1)))],false)) fun bh=>
 ((!bh),0))))))))))))))
def sZ (x:(I2×Int×I6)):Prop:=
 (¬(x.2.1<1)->
 (¬(x.2.1>4096)->
 (az (bV x.1) fun y=>
 (¬((!y)=true)->
 (az (bV ((aj (x.1.1+x.2.1)),(aj (x.1.2+x.2.1)))) fun aB=>
 (¬((!aB)=true)->
 (az (cW x.2.2) fun y_2=>
 (¬((!y_2)=true)->
 (¬((aG (aG x.2.2.1.1 x.2.2.2.1.1) x.2.2.2.2.1)>(aj (x.1.1+x.2.1)))->
 (¬((aG (aG x.2.2.1.2 x.2.2.2.1.2) x.2.2.2.2.2)>(aj (x.1.2+x.2.1)))->
 (¬((aI (aI x.2.2.1.1 x.2.2.2.1.1) x.2.2.2.2.1)<x.1.1)->
 (¬((aI (aI x.2.2.1.2 x.2.2.2.1.2) x.2.2.2.2.2)<x.1.2)->
 (eJ (x.2.2,[x.1,((aj (x.1.1+x.2.1)),x.1.2),((aj (x.1.1+x.2.1)),(aj (x.1.2+x.2.1))),(x.1.1,(aj (x.1.2+x.2.1)))],false))))))))))))))
def Uh (x:(I2×Int×I6)):Tr (Bool×Int) true:=
 (.nK (x.2.1<z1)
 (.ret (false,5))
 (.nK (x.2.1>4096)
 (.ret (false,5))
 (.fn0 cE x.1 trivial fun y=>
 (.dy (!y)
 (.ret (false,5))
 (.fn0 cE ((aj (x.1.1+x.2.1)),(aj (x.1.2+x.2.1))) trivial fun aB=>
 (.dy (!aB)
 (.ret (false,5))
 (.fn0 fZ x.2.2 trivial fun y_2=>
 (.dy (!y_2)
 (.ret (false,z1))
 (.nK ((aG (aG x.2.2.1.1 x.2.2.2.1.1) x.2.2.2.2.1)>(aj (x.1.1+x.2.1)))
 (.ret (false,z0))
 (.nK ((aG (aG x.2.2.1.2 x.2.2.2.1.2) x.2.2.2.2.2)>(aj (x.1.2+x.2.1)))
 (.ret (false,z0))
 (.nK ((aI (aI x.2.2.1.1 x.2.2.2.1.1) x.2.2.2.2.1)<x.1.1)
 (.ret (false,z0))
 (.nK ((aI (aI x.2.2.1.2 x.2.2.2.1.2) x.2.2.2.2.2)<x.1.2)
 (.ret (false,z0))
 (.fn lD (x.2.2,[x.1,((aj (x.1.1+x.2.1)),x.1.2),((aj (x.1.1+x.2.1)),(aj (x.1.2+x.2.1))),(x.1.1,(aj (x.1.2+x.2.1)))],false) fun bh=>
 (.ret ((!bh),z0)))))))))))))))
abbrev rY:bB:=⟨(.pair (.agg aQ) (.pair (.one yi) (.agg aZ))),(.pair (.one Ty.bool) (.one yi)),sZ,Gi⟩
theorem RN:ah Tryz.prog 128 (ak rY):=ah.tr rY Uh (fn:=Tryz.f128) ax uy mixed (by kernel_rfl) (av.nil _ _) (fun x=>au.nil) (fun x=>(by kernel_rfl)) fun x Q=>(by kernel_rfl)
def EV:List (Nat×Ev.Spec):=(128,ak rY)::Be
theorem wR:ae Tryz.prog EV:=ae.add (fn:=Tryz.f128) (by kernel_rfl) RN uy
def kL (x:I2):Int:=
 (aq (Se x) fun y=>
 y.1)
def lF (x:I2):Prop:=
 (yw x)
def abn (x:I2):Tr Int true:=
 (.fn Al x fun y=>
 (.ret y.1))
abbrev lE:bB:=⟨(.pair (.one yi) (.one yi)),(.one yi),lF,kL⟩
theorem Xe:ah Tryz.prog 73 (ak lE):=ah.tr lE abn (fn:=Tryz.f73) ax wR mixed (by kernel_rfl) (av.nil _ _) (fun x=>au.nil) (fun x=>(by kernel_rfl)) fun x Q=>(by kernel_rfl)
def Me:List (Nat×Ev.Spec):=(73,ak lE)::EV
theorem Bg:ae Tryz.prog Me:=ae.add (fn:=Tryz.f73) (by kernel_rfl) Xe wR
def jQ (x:(I2×I2)):Int:=
 (aj ((aj ((aj (x.2.1- x.1.1))*(aj (x.2.1- x.1.1))))+(aj ((aj (x.2.2- x.1.2))*(aj (x.2.2- x.1.2))))))
def Nt (_:(I2×I2)):Prop:=True
def Ui (x:(I2×I2)):Tr Int false:=
 (.ret (aj ((aj ((aj (x.2.1- x.1.1))*(aj (x.2.1- x.1.1))))+(aj ((aj (x.2.2- x.1.2))*(aj (x.2.2- x.1.2)))))))
abbrev jC:bB:=⟨(.pair (.agg aQ) (.agg aQ)),(.one yi),Nt,jQ⟩
theorem RP:ah Tryz.prog 108 (ak jC):=ah.tr jC Ui (fn:=Tryz.f108) ax Bg mixed (by kernel_rfl) (av.nil _ _) (fun x=>au.nil) (fun x=>(by kernel_rfl)) fun x Q=>(by kernel_rfl)
def EW:List (Nat×Ev.Spec):=(108,ak jC)::Me
theorem wS:ae Tryz.prog EW:=ae.add (fn:=Tryz.f108) (by kernel_rfl) RP Bg
def kM (x:I6):(I2×Int×I2×Int):=
 (aq (bV x.1) fun y=>
 (if ((!y)=true) then
 ((0,0),0,(0,0),5) else
 (aq (bV x.2.1) fun aB=>
 (if ((!aB)=true) then
 ((0,0),0,(0,0),5) else
 (aq (bV x.2.2) fun y_2=>
 (if ((!y_2)=true) then
 ((0,0),0,(0,0),5) else
 (aq (jQ x.2) fun bh=>
 (if ((aj ((aj ((aj (x.1.1- x.2.1.1))*(aj (x.2.2.1- x.2.1.1))))+(aj ((aj (x.1.2- x.2.1.2))*(aj (x.2.2.2- x.2.1.2))))))<=0) then
 (aq (jQ (x.1,x.2.1)) fun bj=>
 (x.2.1,0,(bj,1),0)) else
 (if ((bh==0)=true) then
 (aq (jQ (x.1,x.2.1)) fun bj=>
 (x.2.1,0,(bj,1),0)) else
 (if ((aj ((aj ((aj (x.1.1- x.2.1.1))*(aj (x.2.2.1- x.2.1.1))))+(aj ((aj (x.1.2- x.2.1.2))*(aj (x.2.2.2- x.2.1.2))))))>=bh) then
 (aq (jQ (x.1,x.2.2)) fun bj=>
 (x.2.2,1,(bj,1),0)) else
 (aq (kf (x.2.1,x.2.2,x.1)) fun bj=>
 (aq (kL ((aj ((aj (x.2.1.1*bh))+(aj ((aj (x.2.2.1- x.2.1.1))*(aj ((aj ((aj (x.1.1- x.2.1.1))*(aj (x.2.2.1- x.2.1.1))))+(aj ((aj (x.1.2- x.2.1.2))*(aj (x.2.2.2- x.2.1.2)))))))))),bh)) fun gw=>
 (aq (kL ((aj ((aj (x.2.1.2*bh))+(aj ((aj (x.2.2.2- x.2.1.2))*(aj ((aj ((aj (x.1.1- x.2.1.1))*(aj (x.2.2.1- x.2.1.1))))+(aj ((aj (x.1.2- x.2.1.2))*(aj (x.2.2.2- x.2.1.2)))))))))),bh)) fun tF=>
 ((gw,tF),2,((aj (bj.1*bj.1)),bh),0))))))))))))))
def jB (x:I6):Prop:=
 (az (bV x.1) fun y=>
 (¬((!y)=true)->
 (az (bV x.2.1) fun aB=>
 (¬((!aB)=true)->
 (az (bV x.2.2) fun y_2=>
 (¬((!y_2)=true)->
 (az (jQ x.2) fun bh=>
 (¬((aj ((aj ((aj (x.1.1- x.2.1.1))*(aj (x.2.2.1- x.2.1.1))))+(aj ((aj (x.1.2- x.2.1.2))*(aj (x.2.2.2- x.2.1.2))))))<=0)->
 (¬((bh==0)=true)->
 (¬((aj ((aj ((aj (x.1.1- x.2.1.1))*(aj (x.2.2.1- x.2.1.1))))+(aj ((aj (x.1.2- x.2.1.2))*(aj (x.2.2.2- x.2.1.2))))))>=bh)->
 (az (kf (x.2.1,x.2.2,x.1)) fun bj=>
 ((lF ((aj ((aj (x.2.1.1*bh))+(aj ((aj (x.2.2.1- x.2.1.1))*(aj ((aj ((aj (x.1.1- x.2.1.1))*(aj (x.2.2.1- x.2.1.1))))+(aj ((aj (x.1.2- x.2.1.2))*(aj (x.2.2.2- x.2.1.2)))))))))),bh))/\
 az (kL ((aj ((aj (x.2.1.1*bh))+(aj ((aj (x.2.2.1- x.2.1.1))*(aj ((aj ((aj (x.1.1- x.2.1.1))*(aj (x.2.2.1- x.2.1.1))))+(aj ((aj (x.1.2- x.2.1.2))*(aj (x.2.2.2- x.2.1.2)))))))))),bh)) fun gw=>
 (lF ((aj ((aj (x.2.1.2*bh))+(aj ((aj (x.2.2.2- x.2.1.2))*(aj ((aj ((aj (x.1.1- x.2.1.1))*(aj (x.2.2.1- x.2.1.1))))+(aj ((aj (x.1.2- x.2.1.2))*(aj (x.2.2.2- x.2.1.2)))))))))),bh))))))))))))))
abbrev Zj (x:I6):=(aj ((aj ((aj (x.1.1- x.2.1.1))*(aj (x.2.2.1- x.2.1.1))))+(aj ((aj (x.1.2- x.2.1.2))*(aj (x.2.2.2- x.2.1.2))))))
def abo (x:I6):Tr (I2×Int×I2×Int) true:=
 (.fn0 cE x.1 trivial fun y=>
 (.dy (!y)
 (.ret (jg,z0,jg,5))
 (.fn0 cE x.2.1 trivial fun aB=>
 (.dy (!aB)
 (.ret (jg,z0,jg,5))
 (.fn0 cE x.2.2 trivial fun y_2=>
 (.dy (!y_2)
 (.ret (jg,z0,jg,5))
 (.fn0 jC x.2 trivial fun bh=>
 (.nK ((Zj x)<=z0)
 (.fn0 jC (x.1,x.2.1) trivial fun bj=>
 (.ret (x.2.1,z0,(bj,z1),z0)))
 (.dy (bh==z0)
 (.fn0 jC (x.1,x.2.1) trivial fun bj=>
 (.ret (x.2.1,z0,(bj,z1),z0)))
 (.nK ((Zj x)>=bh)
 (.fn0 jC (x.1,x.2.2) trivial fun bj=>
 (.ret (x.2.2,z1,(bj,z1),z0)))
 (.fn0 ic (x.2.1,x.2.2,x.1) trivial fun bj=>
 (.fn lE ((aj ((aj (x.2.1.1*bh))+(aj ((aj (x.2.2.1- x.2.1.1))*(Zj x))))),bh) fun gw=>
 (.fn lE ((aj ((aj (x.2.1.2*bh))+(aj ((aj (x.2.2.2- x.2.1.2))*(Zj x))))),bh) fun tF=>
 (.ret ((gw,tF),2,((aj (bj.1*bj.1)),bh),z0)))))))))))))))
abbrev ni:bB:=⟨(.pair (.agg aQ) (.pair (.agg aQ) (.agg aQ))),(.pair (.agg aQ) (.pair (.one yi) (.pair (.agg aQ) (.one yi)))),jB,kM⟩
theorem Xf:ah Tryz.prog 68 (ak ni):=ah.tr ni abo (fn:=Tryz.f68) ax wS mixed (by kernel_rfl) (av.nil _ _) (fun x=>au.nil) (fun x=>(by kernel_rfl)) fun x Q=>(by kernel_rfl)
def Mf:List (Nat×Ev.Spec):=(68,ak ni)::EW
theorem tw:ae Tryz.prog Mf:=ae.add (fn:=Tryz.f68) (by kernel_rfl) Xf wS
def jA (x:(I2×I6)):(I2×I2×Int):=
 (aq (O1 x) fun y=>
 (if ((y.2 !=0)=true) then
 ((0,0),(0,0),y.2) else
 (if (y.1>0) then
 (x.1,(0,1),0) else
 (aq (kM (x.1,x.2.1,x.2.2.1)) fun aB=>
 (aq (kM (x.1,x.2.2)) fun y_2=>
 (aq (Lv (y_2.2.2.1,aB.2.2.1)) fun bh=>
 (if (bh<0) then
 (aq (kM (x.1,x.2.2.2,x.2.1)) fun bj=>
 (aq (Lv (bj.2.2.1,y_2.2.2.1)) fun gw=>
 (if (gw<0) then
 (bj.1,bj.2.2.1,0) else
 (y_2.1,y_2.2.2.1,0)))) else
 (aq (kM (x.1,x.2.2.2,x.2.1)) fun bj=>
 (aq (Lv (bj.2.2.1,aB.2.2.1)) fun gw=>
 (if (gw<0) then
 (bj.1,bj.2.2.1,0) else
 (aB.1,aB.2.2.1,0)))))))))))
def gR (x:(I2×I6)):Prop:=
 ((tZ x)/\
 az (O1 x) fun y=>
 (¬((y.2 !=0)=true)->
 (¬(y.1>0)->
 ((jB (x.1,x.2.1,x.2.2.1))/\
 az (kM (x.1,x.2.1,x.2.2.1)) fun aB=>
 ((jB (x.1,x.2.2))/\
 az (kM (x.1,x.2.2)) fun y_2=>
 ((qp (y_2.2.2.1,aB.2.2.1))/\
 az (Lv (y_2.2.2.1,aB.2.2.1)) fun bh=>
 (((bh<0)->
 ((jB (x.1,x.2.2.2,x.2.1))/\
 az (kM (x.1,x.2.2.2,x.2.1)) fun bj=>
 (qp (bj.2.2.1,y_2.2.2.1))))/\
 (¬(bh<0)->
 ((jB (x.1,x.2.2.2,x.2.1))/\
 az (kM (x.1,x.2.2.2,x.2.1)) fun bj=>
 (qp (bj.2.2.1,aB.2.2.1)))))))))))
def RO (x:(I2×I6)):Tr (I2×I2×Int) true:=
 (.fn DF x fun y=>
 (.dy (y.2 !=z0)
 (.ret (jg,jg,y.2))
 (.nK (y.1>z0)
 (.ret (x.1,(z0,z1),z0))
 (.fn ni (x.1,x.2.1,x.2.2.1) fun aB=>
 (.fn ni (x.1,x.2.2) fun y_2=>
 (.fn Am (y_2.2.2.1,aB.2.2.1) fun bh=>
 (.i11 (bh<z0)
 (.fn ni (x.1,x.2.2.2,x.2.1) fun bj=>
 (.fn Am (bj.2.2.1,y_2.2.2.1) fun gw=>
 (.fm (gw<z0)
 (.ret (bj.1,bj.2.2.1,z0))
 (.ret (y_2.1,y_2.2.2.1,z0)))))
 (.fn ni (x.1,x.2.2.2,x.2.1) fun bj=>
 (.fn Am (bj.2.2.1,aB.2.2.1) fun gw=>
 (.fm (gw<z0)
 (.ret (bj.1,bj.2.2.1,z0))
 (.ret (aB.1,aB.2.2.1,z0))))))))))))
abbrev pX:bB:=⟨(.pair (.agg aQ) (.agg aZ)),(.pair (.agg aQ) (.pair (.agg aQ) (.one yi))),gR,jA⟩
theorem Ns:ah Tryz.prog 32 (ak pX):=ah.tr pX RO (fn:=Tryz.f32) ax tw mixed (by kernel_rfl) (av.nil _ _) (fun x=>(au.j7 ax (ae.bD tw (av.nil _ _)) mixed 0 4 au.nil (by kernel_rfl))) (fun x=>(by kernel_rfl)) fun x Q=>(by kernel_rfl)
def Bf:List (Nat×Ev.Spec):=(32,ak pX)::Mf
theorem uz:ae Tryz.prog Bf:=ae.add (fn:=Tryz.f32) (by kernel_rfl) Ns tw
def qI (x:(I2×I6)):(I3×I2):=
 (aq (O1 x) fun y=>
 (if ((y.2 !=0)=true) then
 ((0,0,0),0,y.2) else
 (aq (kf x.2) fun aB=>
 (if (aB.1<0) then
 (aq (kf (x.1,x.2.2)) fun y_2=>
 (aq (kf (x.1,x.2.2.2,x.2.1)) fun bh=>
 (aq (kf (x.1,x.2.1,x.2.2.1)) fun bj=>
 (((aj (y_2.1*(-1))),(aj (bh.1*(-1))),(aj (bj.1*(-1)))),(aj (aB.1*(-1))),0)))) else
 (aq (kf (x.1,x.2.2)) fun y_2=>
 (aq (kf (x.1,x.2.2.2,x.2.1)) fun bh=>
 (aq (kf (x.1,x.2.1,x.2.2.1)) fun bj=>
 (((aj (y_2.1*1)),(aj (bh.1*1)),(aj (bj.1*1))),(aj (aB.1*1)),0))))))))
def qJ (x:(I2×I6)):Prop:=
 (tZ x)
def RQ (x:(I2×I6)):Tr (I3×I2) true:=
 (.fn DF x fun y=>
 (.cQ (y.2 !=z0)
 (.ret (ef,z0,y.2))
 (.fn0 ic x.2 trivial fun aB=>
 (.fm (aB.1<z0)
 (.fn0 ic (x.1,x.2.2) trivial fun y_2=>
 (.fn0 ic (x.1,x.2.2.2,x.2.1) trivial fun bh=>
 (.fn0 ic (x.1,x.2.1,x.2.2.1) trivial fun bj=>
 (.ret (((aj (y_2.1*(-1))),(aj (bh.1*(-1))),(aj (bj.1*(-1)))),(aj (aB.1*(-1))),z0)))))
 (.fn0 ic (x.1,x.2.2) trivial fun y_2=>
 (.fn0 ic (x.1,x.2.2.2,x.2.1) trivial fun bh=>
 (.fn0 ic (x.1,x.2.1,x.2.2.1) trivial fun bj=>
 (.ret (((aj (y_2.1*z1)),(aj (bh.1*z1)),(aj (bj.1*z1))),(aj (aB.1*z1)),z0)))))))))
abbrev pY:bB:=⟨(.pair (.agg aQ) (.agg aZ)),(.pair (.agg aU) (.pair (.one yi) (.one yi))),qJ,qI⟩
theorem Nu:ah Tryz.prog 72 (ak pY):=ah.tr pY RQ (fn:=Tryz.f72) ax uz mixed (by kernel_rfl) (av.nil _ _) (fun x=>au.nil) (fun x=>(by kernel_rfl)) fun x Q=>(by kernel_rfl)
def Bi:List (Nat×Ev.Spec):=(72,ak pY)::Bf
theorem uA:ae Tryz.prog Bi:=ae.add (fn:=Tryz.f72) (by kernel_rfl) Nu uz
def DG (x:(I2×I6×I9)):(I3×Int):=
 (aq (bV x.1) fun y=>
 (if ((!y)=true) then
 ((0,0,0),5) else
 (aq (mF x.2.2.1) fun aB=>
 (if ((!aB)=true) then
 ((0,0,0),5) else
 (aq (mF x.2.2.2.1) fun y_2=>
 (if ((!y_2)=true) then
 ((0,0,0),5) else
 (aq (mF x.2.2.2.2) fun bh=>
 (if ((!bh)=true) then
 ((0,0,0),5) else
 (aq (qI (x.1,x.2.1)) fun bj=>
 (if ((bj.2.2 !=0)=true) then
 ((0,0,0),bj.2.2) else
 (aq (kL ((aj ((aj ((aj (bj.1.1*x.2.2.1.1))+(aj (bj.1.2.1*x.2.2.2.1.1))))+(aj (bj.1.2.2*x.2.2.2.2.1)))),bj.2.1)) fun gw=>
 (aq (kL ((aj ((aj ((aj (bj.1.1*x.2.2.1.2.1))+(aj (bj.1.2.1*x.2.2.2.1.2.1))))+(aj (bj.1.2.2*x.2.2.2.2.2.1)))),bj.2.1)) fun tF=>
 (aq (kL ((aj ((aj ((aj (bj.1.1*x.2.2.1.2.2))+(aj (bj.1.2.1*x.2.2.2.1.2.2))))+(aj (bj.1.2.2*x.2.2.2.2.2.2)))),bj.2.1)) fun Cv=>
 ((gw,tF,Cv),0))))))))))))))
def rZ (x:(I2×I6×I9)):Prop:=
 (az (bV x.1) fun y=>
 (¬((!y)=true)->
 (az (mF x.2.2.1) fun aB=>
 (¬((!aB)=true)->
 (az (mF x.2.2.2.1) fun y_2=>
 (¬((!y_2)=true)->
 (az (mF x.2.2.2.2) fun bh=>
 (¬((!bh)=true)->
 ((qJ (x.1,x.2.1))/\
 az (qI (x.1,x.2.1)) fun bj=>
 (¬((bj.2.2 !=0)=true)->
 ((lF ((aj ((aj ((aj (bj.1.1*x.2.2.1.1))+(aj (bj.1.2.1*x.2.2.2.1.1))))+(aj (bj.1.2.2*x.2.2.2.2.1)))),bj.2.1))/\
 az (kL ((aj ((aj ((aj (bj.1.1*x.2.2.1.1))+(aj (bj.1.2.1*x.2.2.2.1.1))))+(aj (bj.1.2.2*x.2.2.2.2.1)))),bj.2.1)) fun gw=>
 ((lF ((aj ((aj ((aj (bj.1.1*x.2.2.1.2.1))+(aj (bj.1.2.1*x.2.2.2.1.2.1))))+(aj (bj.1.2.2*x.2.2.2.2.2.1)))),bj.2.1))/\
 az (kL ((aj ((aj ((aj (bj.1.1*x.2.2.1.2.1))+(aj (bj.1.2.1*x.2.2.2.1.2.1))))+(aj (bj.1.2.2*x.2.2.2.2.2.1)))),bj.2.1)) fun tF=>
 (lF ((aj ((aj ((aj (bj.1.1*x.2.2.1.2.2))+(aj (bj.1.2.1*x.2.2.2.1.2.2))))+(aj (bj.1.2.2*x.2.2.2.2.2.2)))),bj.2.1))))))))))))))
def abp (x:(I2×I6×I9)):Tr (I3×Int) true:=
 (.fn0 cE x.1 trivial fun y=>
 (.dy (!y)
 (.ret (ef,5))
 (.fn0 nt x.2.2.1 trivial fun aB=>
 (.dy (!aB)
 (.ret (ef,5))
 (.fn0 nt x.2.2.2.1 trivial fun y_2=>
 (.dy (!y_2)
 (.ret (ef,5))
 (.fn0 nt x.2.2.2.2 trivial fun bh=>
 (.dy (!bh)
 (.ret (ef,5))
 (.fn pY (x.1,x.2.1) fun bj=>
 (.dy (bj.2.2 !=z0)
 (.ret (ef,bj.2.2))
 (.fn lE ((aj ((aj ((aj (bj.1.1*x.2.2.1.1))+(aj (bj.1.2.1*x.2.2.2.1.1))))+(aj (bj.1.2.2*x.2.2.2.2.1)))),bj.2.1) fun gw=>
 (.fn lE ((aj ((aj ((aj (bj.1.1*x.2.2.1.2.1))+(aj (bj.1.2.1*x.2.2.2.1.2.1))))+(aj (bj.1.2.2*x.2.2.2.2.2.1)))),bj.2.1) fun tF=>
 (.fn lE ((aj ((aj ((aj (bj.1.1*x.2.2.1.2.2))+(aj (bj.1.2.1*x.2.2.2.1.2.2))))+(aj (bj.1.2.2*x.2.2.2.2.2.2)))),bj.2.1) fun Cv=>
 (.ret ((gw,tF,Cv),z0)))))))))))))))
abbrev zY:bB:=⟨(.pair (.agg aQ) (.pair (.agg aZ) (.agg fk))),(.pair (.agg aU) (.one yi)),rZ,DG⟩
theorem Xg:ah Tryz.prog 33 (ak zY):=ah.tr zY abp (fn:=Tryz.f33) ax uA mixed (by kernel_rfl) (av.nil _ _) (fun x=>au.nil) (fun x=>(by kernel_rfl)) fun x Q=>(by kernel_rfl)
def Mg:List (Nat×Ev.Spec):=(33,ak zY)::Bi
theorem Bh:ae Tryz.prog Mg:=ae.add (fn:=Tryz.f33) (by kernel_rfl) Xg uA
def fS (x:I3):Bool:=
 (if (x.1>=x.2.1) then
 (decide (x.1<=x.2.2)) else
 false)
def Sk (_:I3):Prop:=True
def XS (x:I3):Tr Bool false:=
 (.fm (x.1>=x.2.1)
 (.ret (decide (x.1<=x.2.2)))
 (.ret false))
abbrev dX:bB:=⟨(.pair (.one yi) (.pair (.one yi) (.one yi))),(.one Ty.bool),Sk,fS⟩
theorem UP:ah Tryz.prog 159 (ak dX):=ah.tr dX XS (fn:=Tryz.f159) ax Bh mixed (by kernel_rfl) (av.nil _ _) (fun x=>au.nil) (fun x=>(by kernel_rfl)) fun x Q=>(by kernel_rfl)
def Ir:List (Nat×Ev.Spec):=(159,ak dX)::Mg
theorem mR:ae Tryz.prog Ir:=ae.add (fn:=Tryz.f159) (by kernel_rfl) UP Bh
def Zo (x:eu):aF:=⟨[],⟨bq 120 0 [(1,.v (.one (.ptr 0 0))),(3,.v (.one (.i .i64)))],[.cells [.full 1,.full 2,.full 3,.full 4] 32,.row aU 0,.row aQ 0,.row aU 0,.row fk 0],0,none,[],[1,2,3,4],[0],[.i],[.l aU x.1,.l aQ x.2.1,.l aU x.2.2.1,.l fk x.2.2.2]⟩,[⟨.ret,.ret,⟨bq 120 0 [(2,.v (.one (.b)))],[],0,none,[],[0],[],[],[.b false]⟩⟩,⟨(.exit 0),.normal,⟨bq 120 0 [],[],0,none,[],[],[],[],[]⟩⟩]⟩
def jZ (x:eu) (s:Int):Int⊕(Unit⊕Unit):=
 (if (s<(x.2.2.2.length:Int)) then
 (aq (fS ((x.2.2.2.getD s.toNat ((0,0,0),(0,0,0),0,0,0)).1.1,0,(aj ((x.1.length:Int)- 1)))) fun y=>
 (if ((!y)=true) then
 (Sum.inr (Sum.inl ())) else
 (aq (fS ((x.2.2.2.getD s.toNat ((0,0,0),(0,0,0),0,0,0)).1.2.1,(-1),(aj ((x.2.1.length:Int)- 1)))) fun aB=>
 (if ((!aB)=true) then
 (Sum.inr (Sum.inl ())) else
 (aq (fS ((x.2.2.2.getD s.toNat ((0,0,0),(0,0,0),0,0,0)).1.2.2,(-1),(aj ((x.2.2.1.length:Int)- 1)))) fun y_2=>
 (if ((!y_2)=true) then
 (Sum.inr (Sum.inl ())) else
 (if ((!((decide ((x.2.2.2.getD s.toNat ((0,0,0),(0,0,0),0,0,0)).1.2.1<0))==(decide ((x.2.2.2.getD s.toNat ((0,0,0),(0,0,0),0,0,0)).1.2.1<0))))=true) then
 (Sum.inr (Sum.inl ())) else
 (if ((!((decide ((x.2.2.2.getD s.toNat ((0,0,0),(0,0,0),0,0,0)).1.2.2<0))==(decide ((x.2.2.2.getD s.toNat ((0,0,0),(0,0,0),0,0,0)).1.2.2<0))))=true) then
 (Sum.inr (Sum.inl ())) else
 (aq (fS ((x.2.2.2.getD s.toNat ((0,0,0),(0,0,0),0,0,0)).2.1.1,0,(aj ((x.1.length:Int)- 1)))) fun bh=>
 (if ((!bh)=true) then
 (Sum.inr (Sum.inl ())) else
 (aq (fS ((x.2.2.2.getD s.toNat ((0,0,0),(0,0,0),0,0,0)).2.1.2.1,(-1),(aj ((x.2.1.length:Int)- 1)))) fun bj=>
 (if ((!bj)=true) then
 (Sum.inr (Sum.inl ())) else
 (aq (fS ((x.2.2.2.getD s.toNat ((0,0,0),(0,0,0),0,0,0)).2.1.2.2,(-1),(aj ((x.2.2.1.length:Int)- 1)))) fun gw=>
 (if ((!gw)=true) then
 (Sum.inr (Sum.inl ())) else
 (if ((!((decide ((x.2.2.2.getD s.toNat ((0,0,0),(0,0,0),0,0,0)).2.1.2.1<0))==(decide ((x.2.2.2.getD s.toNat ((0,0,0),(0,0,0),0,0,0)).1.2.1<0))))=true) then
 (Sum.inr (Sum.inl ())) else
 (if ((!((decide ((x.2.2.2.getD s.toNat ((0,0,0),(0,0,0),0,0,0)).2.1.2.2<0))==(decide ((x.2.2.2.getD s.toNat ((0,0,0),(0,0,0),0,0,0)).1.2.2<0))))=true) then
 (Sum.inr (Sum.inl ())) else
 (aq (fS ((x.2.2.2.getD s.toNat ((0,0,0),(0,0,0),0,0,0)).2.2.1,0,(aj ((x.1.length:Int)- 1)))) fun tF=>
 (if ((!tF)=true) then
 (Sum.inr (Sum.inl ())) else
 (aq (fS ((x.2.2.2.getD s.toNat ((0,0,0),(0,0,0),0,0,0)).2.2.2.1,(-1),(aj ((x.2.1.length:Int)- 1)))) fun Cv=>
 (if ((!Cv)=true) then
 (Sum.inr (Sum.inl ())) else
 (aq (fS ((x.2.2.2.getD s.toNat ((0,0,0),(0,0,0),0,0,0)).2.2.2.2,(-1),(aj ((x.2.2.1.length:Int)- 1)))) fun MV=>
 (if ((!MV)=true) then
 (Sum.inr (Sum.inl ())) else
 (if ((!((decide ((x.2.2.2.getD s.toNat ((0,0,0),(0,0,0),0,0,0)).2.2.2.1<0))==(decide ((x.2.2.2.getD s.toNat ((0,0,0),(0,0,0),0,0,0)).1.2.1<0))))=true) then
 (Sum.inr (Sum.inl ())) else
 (if ((!((decide ((x.2.2.2.getD s.toNat ((0,0,0),(0,0,0),0,0,0)).2.2.2.2<0))==(decide ((x.2.2.2.getD s.toNat ((0,0,0),(0,0,0),0,0,0)).1.2.2<0))))=true) then
 (Sum.inr (Sum.inl ())) else
 (Sum.inl (aj (s+1))))))))))))))))))))))))))) else
 (Sum.inr (Sum.inr (()))))
def yA (x:eu) (s:Int):Prop:=
 ((s<(x.2.2.2.length:Int))->
 (((0<=s)/\ (s<(x.2.2.2.length:Int)))/\
 ((s.toNat<x.2.2.2.length)/\
 (s.toNat<x.2.2.2.length))))
def Pf (x:eu) (s:Int):Tr (Int⊕(Unit⊕Unit)) true:=
 (.i10 (s<(nL x.2.2.2))
 (.gu s x.2.2.2
 (.fn0 dX ((gT x.2.2.2 s jq).1.1,z0,(wm (nL x.1))) trivial fun y=>
 (.cQ (!y)
 (.ret (.inr (Sum.inl ())))
 (.fn0 dX ((gT x.2.2.2 s jq).1.2.1,(-1),(wm (nL x.2.1))) trivial fun aB=>
 (.cQ (!aB)
 (.ret (.inr (Sum.inl ())))
 (.fn0 dX ((gT x.2.2.2 s jq).1.2.2,(-1),(wm (nL x.2.2.1))) trivial fun y_2=>
 (.cQ (!y_2)
 (.ret (.inr (Sum.inl ())))
 (.cQ (!((decide ((gT x.2.2.2 s jq).1.2.1<z0))==(decide ((gT x.2.2.2 s jq).1.2.1<z0))))
 (.ret (.inr (Sum.inl ())))
 (.cQ (!((decide ((gT x.2.2.2 s jq).1.2.2<z0))==(decide ((gT x.2.2.2 s jq).1.2.2<z0))))
 (.ret (.inr (Sum.inl ())))
 (.fn0 dX ((gT x.2.2.2 s jq).2.1.1,z0,(wm (nL x.1))) trivial fun bh=>
 (.cQ (!bh)
 (.ret (.inr (Sum.inl ())))
 (.fn0 dX ((gT x.2.2.2 s jq).2.1.2.1,(-1),(wm (nL x.2.1))) trivial fun bj=>
 (.cQ (!bj)
 (.ret (.inr (Sum.inl ())))
 (.fn0 dX ((gT x.2.2.2 s jq).2.1.2.2,(-1),(wm (nL x.2.2.1))) trivial fun gw=>
 (.cQ (!gw)
 (.ret (.inr (Sum.inl ())))
 (.cQ (!((decide ((gT x.2.2.2 s jq).2.1.2.1<z0))==(decide ((gT x.2.2.2 s jq).1.2.1<z0))))
 (.ret (.inr (Sum.inl ())))
 (.cQ (!((decide ((gT x.2.2.2 s jq).2.1.2.2<z0))==(decide ((gT x.2.2.2 s jq).1.2.2<z0))))
 (.ret (.inr (Sum.inl ())))
 (.fn0 dX ((gT x.2.2.2 s jq).2.2.1,z0,(wm (nL x.1))) trivial fun tF=>
 (.cQ (!tF)
 (.ret (.inr (Sum.inl ())))
 (.fn0 dX ((gT x.2.2.2 s jq).2.2.2.1,(-1),(wm (nL x.2.1))) trivial fun Cv=>
 (.cQ (!Cv)
 (.ret (.inr (Sum.inl ())))
 (.fn0 dX ((gT x.2.2.2 s jq).2.2.2.2,(-1),(wm (nL x.2.2.1))) trivial fun MV=>
 (.cQ (!MV)
 (.ret (.inr (Sum.inl ())))
 (.cQ (!((decide ((gT x.2.2.2 s jq).2.2.2.1<z0))==(decide ((gT x.2.2.2 s jq).1.2.1<z0))))
 (.ret (.inr (Sum.inl ())))
 (.cQ (!((decide ((gT x.2.2.2 s jq).2.2.2.2<z0))==(decide ((gT x.2.2.2 s jq).1.2.2<z0))))
 (.ret (.inr (Sum.inl ())))
 (.ret (.inl (w1 s))))))))))))))))))))))))))))
 (.ret (.inr (Sum.inr (())))))
def ahS (x:eu):Bool:=
 (if ((x.1.length:Int)>2000) then
 false else
 (if ((x.2.1.length:Int)>2000) then
 false else
 (if ((x.2.2.1.length:Int)>2000) then
 false else
 (if ((x.2.2.2.length:Int)>500) then
 false else
 (aq (Gr x.1) fun y=>
 (if ((!y)=true) then
 false else
 (aq (Sf x.2.1) fun aB=>
 (if ((!aB)=true) then
 false else
 (aq (Gr x.2.2.1) fun y_2=>
 (if ((!y_2)=true) then
 false else
 (aq (run (jZ x) 0) fun r=>
 (Sum.elim (fun a=>
 false) (fun b=>
 true) r))))))))))))
def Ej (x:eu):Prop:=
 (¬((x.1.length:Int)>2000)->
 (¬((x.2.1.length:Int)>2000)->
 (¬((x.2.2.1.length:Int)>2000)->
 (¬((x.2.2.2.length:Int)>500)->
 ((vJ x.1)/\
 az (Gr x.1) fun y=>
 (¬((!y)=true)->
 ((Ce x.2.1)/\
 az (Sf x.2.1) fun aB=>
 (¬((!aB)=true)->
 ((vJ x.2.2.1)/\
 az (Gr x.2.2.1) fun y_2=>
 (¬((!y_2)=true)->
 (Term (jZ x) (yA x) 0)))))))))))
def aj4 (x:eu):Tr Bool true:=
 (.nK ((nL x.1)>2000)
 (.ret false)
 (.nK ((nL x.2.1)>2000)
 (.ret false)
 (.nK ((nL x.2.2.1)>2000)
 (.ret false)
 (.nK ((nL x.2.2.2)>500)
 (.ret false)
 (.fn yx x.1 fun y=>
 (.dy (!y)
 (.ret false)
 (.fn Eg x.2.1 fun aB=>
 (.dy (!aB)
 (.ret false)
 (.fn yx x.2.2.1 fun y_2=>
 (.dy (!y_2)
 (.ret false)
 (aF.lp (Zo x) (Pf x) z0 fun r=>
 (.ri r (fun a=>
 (.ret false)) (fun b=>
 (.ret true))))))))))))))
abbrev Sj:bB:=⟨(.agg (Ty.prod (Ty.sl aU) (Ty.prod (Ty.sl aQ) (Ty.prod (Ty.sl aU) (Ty.sl fk))))),(.one Ty.bool),Ej,ahS⟩
theorem ahT:ah Tryz.prog 123 (ak Sj):=ah.tr Sj aj4 (fn:=Tryz.f123) ax mR mixed (by kernel_rfl) (av.nil _ _) (fun x=>(au.tr ax (ae.bD mR (av.nil _ _)) mixed 0 (Zo x) (Pf x) (au.j7 ax (ae.bD mR (av.nil _ _)) mixed 2 4 au.nil (by kernel_rfl)) (by kernel_rfl) fun g s Q=>(by kernel_rfl))) (fun x=>(by kernel_rfl)) fun x Q=>(by kernel_rfl)
def ZO:List (Nat×Ev.Spec):=(123,ak Sj)::Ir
theorem Mv:ae Tryz.prog ZO:=ae.add (fn:=Tryz.f123) (by kernel_rfl) ahT mR
def UO (x:eu):eu:=
 (([]++x.1),([]++x.2.1),([]++x.2.2.1),([]++x.2.2.2))
def Gs (x:eu):Prop:=
 (((0+x.1.length)<1099511627776)/\
 (((0+x.2.1.length)<1099511627776)/\
 (((0+x.2.2.1.length)<1099511627776)/\
 ((0+x.2.2.2.length)<1099511627776))))
def ahU (x:eu):Tr eu true:=
 (.od ((0+x.1.length)<1099511627776)
 (.od ((0+x.2.1.length)<1099511627776)
 (.od ((0+x.2.2.1.length)<1099511627776)
 (.od ((0+x.2.2.2.length)<1099511627776)
 (.ret (([]++x.1),([]++x.2.1),([]++x.2.2.1),([]++x.2.2.2)))))))
abbrev Jz:bB:=⟨(.agg (Ty.prod (Ty.sl aU) (Ty.prod (Ty.sl aQ) (Ty.prod (Ty.sl aU) (Ty.sl fk))))),(.agg (Ty.prod (Ty.sl aU) (Ty.prod (Ty.sl aQ) (Ty.prod (Ty.sl aU) (Ty.sl fk))))),Gs,UO⟩
theorem afk:ah Tryz.prog 7 (ak Jz):=ah.tr Jz ahU (fn:=Tryz.f7) ax Mv mixed (by kernel_rfl) (av.nil _ _) (fun x=>au.nil) (fun x=>(by kernel_rfl)) fun x Q=>(by kernel_rfl)
def Vy:List (Nat×Ev.Spec):=(7,ak Jz)::ZO
theorem yS:ae Tryz.prog Vy:=ae.add (fn:=Tryz.f7) (by kernel_rfl) afk Mv
def Pe (x:(List I9×List I9)):aF:=⟨[],⟨bq 26 0 [(0,.v (.one (.full 0))),(1,.v (.one (.full 1))),(5,.v (.one (.i .i64)))],[.row fk 0,.row fk 0],0,none,[],[1,2],[0],[.i],[.l fk x.1,.l fk x.2]⟩,[⟨.ret,.ret,⟨bq 26 0 [(4,.v (.one (.b)))],[],0,none,[],[0],[],[],[.b false]⟩⟩,⟨(.exit 0),.normal,⟨bq 26 0 [],[],0,none,[],[],[],[],[]⟩⟩]⟩
def jI (x:(List I9×List I9)) (s:Int):Int⊕(Unit⊕Unit):=
 (if (s<(x.1.length:Int)) then
 (if ((!((((x.1.getD s.toNat ((0,0,0),(0,0,0),0,0,0)).1.1==(x.2.getD s.toNat ((0,0,0),(0,0,0),0,0,0)).1.1)&&(((x.1.getD s.toNat ((0,0,0),(0,0,0),0,0,0)).1.2.1==(x.2.getD s.toNat ((0,0,0),(0,0,0),0,0,0)).1.2.1)&&(((x.1.getD s.toNat ((0,0,0),(0,0,0),0,0,0)).1.2.2==(x.2.getD s.toNat ((0,0,0),(0,0,0),0,0,0)).1.2.2)&&true)))&&((((x.1.getD s.toNat ((0,0,0),(0,0,0),0,0,0)).2.1.1==(x.2.getD s.toNat ((0,0,0),(0,0,0),0,0,0)).2.1.1)&&(((x.1.getD s.toNat ((0,0,0),(0,0,0),0,0,0)).2.1.2.1==(x.2.getD s.toNat ((0,0,0),(0,0,0),0,0,0)).2.1.2.1)&&(((x.1.getD s.toNat ((0,0,0),(0,0,0),0,0,0)).2.1.2.2==(x.2.getD s.toNat ((0,0,0),(0,0,0),0,0,0)).2.1.2.2)&&true)))&&((((x.1.getD s.toNat ((0,0,0),(0,0,0),0,0,0)).2.2.1==(x.2.getD s.toNat ((0,0,0),(0,0,0),0,0,0)).2.2.1)&&(((x.1.getD s.toNat ((0,0,0),(0,0,0),0,0,0)).2.2.2.1==(x.2.getD s.toNat ((0,0,0),(0,0,0),0,0,0)).2.2.2.1)&&(((x.1.getD s.toNat ((0,0,0),(0,0,0),0,0,0)).2.2.2.2==(x.2.getD s.toNat ((0,0,0),(0,0,0),0,0,0)).2.2.2.2)&&true)))&&true))))=true) then
 (Sum.inr (Sum.inl ())) else
 (Sum.inl (aj (s+1)))) else
 (Sum.inr (Sum.inr (()))))
def n5 (x:(List I9×List I9)) (s:Int):Prop:=
 ((s<(x.1.length:Int))->
 (((0<=s)/\ (s<(x.1.length:Int)))/\
 ((s.toNat<x.1.length)/\
 ((s.toNat<x.1.length)/\
 (((0<=s)/\ (s<(x.2.length:Int)))/\
 ((s.toNat<x.2.length)/\
 (s.toNat<x.2.length)))))))
def HK (x:(List I9×List I9)) (s:Int):Tr (Int⊕(Unit⊕Unit)) true:=
 (.i10 (s<(nL x.1))
 (.gu s x.1
 (.gu s x.2
 (.cQ (!((((gT x.1 s jq).1.1==(gT x.2 s jq).1.1)&&(((gT x.1 s jq).1.2.1==(gT x.2 s jq).1.2.1)&&(((gT x.1 s jq).1.2.2==(gT x.2 s jq).1.2.2)&&true)))&&((((gT x.1 s jq).2.1.1==(gT x.2 s jq).2.1.1)&&(((gT x.1 s jq).2.1.2.1==(gT x.2 s jq).2.1.2.1)&&(((gT x.1 s jq).2.1.2.2==(gT x.2 s jq).2.1.2.2)&&true)))&&((((gT x.1 s jq).2.2.1==(gT x.2 s jq).2.2.1)&&(((gT x.1 s jq).2.2.2.1==(gT x.2 s jq).2.2.2.1)&&(((gT x.1 s jq).2.2.2.2==(gT x.2 s jq).2.2.2.2)&&true)))&&true))))
 (.ret (.inr (Sum.inl ())))
 (.ret (.inl (w1 s))))))
 (.ret (.inr (Sum.inr (())))))
def Si (x:(List I9×List I9)):Bool:=
 (if (((x.1.length:Int) !=(x.2.length:Int))=true) then
 false else
 (aq (run (jI x) 0) fun r=>
 (Sum.elim (fun a=>
 false) (fun b=>
 true) r)))
def vL (x:(List I9×List I9)):Prop:=
 (¬(((x.1.length:Int) !=(x.2.length:Int))=true)->
 (Term (jI x) (n5 x) 0))
def afi (x:(List I9×List I9)):Tr Bool true:=
 (.dy ((nL x.1) !=(nL x.2))
 (.ret false)
 (aF.lp (Pe x) (HK x) z0 fun r=>
 (.ri r (fun a=>
 (.ret false)) (fun b=>
 (.ret true)))))
abbrev Ei:bB:=⟨(.pair (.one (Ty.sl fk)) (.one (Ty.sl fk))),(.one Ty.bool),vL,Si⟩
theorem ab3:ah Tryz.prog 44 (ak Ei):=ah.tr Ei afi (fn:=Tryz.f44) ax yS mixed (by kernel_rfl) (av.nil _ _) (fun x=>(au.tr ax (ae.bD yS (av.nil _ _)) mixed 0 (Pe x) (HK x) au.nil (by kernel_rfl) fun g s Q=>(by kernel_rfl))) (fun x=>(by kernel_rfl)) fun x Q=>(by kernel_rfl)
def Ql:List (Nat×Ev.Spec):=(44,ak Ei)::Vy
theorem mQ:ae Tryz.prog Ql:=ae.add (fn:=Tryz.f44) (by kernel_rfl) ab3 yS
def Pg (x:iD):aF:=⟨[],⟨bq 92 0 [(2,.v (.one (.ptr 0 0))),(3,.v (.one (.ptr 5 0))),(5,.v (.one (.i .i64)))],[.cells [.full 1,.full 2,.full 3,.full 4] 32,.row aU 0,.row aQ 0,.row aU 0,.row fk 0,.cells [.full 6,.full 7,.full 8,.full 9] 32,.row aU 0,.row aQ 0,.row aU 0,.row fk 0],0,none,[],[1,2,3,4,5,6,7,8],[0],[.i],[.l aU x.1.1,.l aQ x.1.2.1,.l aU x.1.2.2.1,.l fk x.1.2.2.2,.l aU x.2.1,.l aQ x.2.2.1,.l aU x.2.2.2.1,.l fk x.2.2.2.2]⟩,[⟨.ret,.ret,⟨bq 92 0 [(4,.v (.one (.b)))],[],0,none,[],[0],[],[],[.b false]⟩⟩,⟨(.exit 0),.normal,⟨bq 92 0 [(2,.v (.one (.ptr 0 0))),(3,.v (.one (.ptr 5 0)))],[.cells [.full 1,.full 2,.full 3,.full 4] 32,.row aU 0,.row aQ 0,.row aU 0,.row fk 0,.cells [.full 6,.full 7,.full 8,.full 9] 32,.row aU 0,.row aQ 0,.row aU 0,.row fk 0],0,none,[],[0,1,2,3,4,5,6,7],[],[],[.l aU x.1.1,.l aQ x.1.2.1,.l aU x.1.2.2.1,.l fk x.1.2.2.2,.l aU x.2.1,.l aQ x.2.2.1,.l aU x.2.2.2.1,.l fk x.2.2.2.2]⟩⟩]⟩
def gZ (x:iD) (s:Int):Int⊕(Unit⊕Unit):=
 (if (s<(x.1.1.length:Int)) then
 (if ((!(((x.1.1.getD s.toNat (0,0,0)).1==(x.2.1.getD s.toNat (0,0,0)).1)&&(((x.1.1.getD s.toNat (0,0,0)).2.1==(x.2.1.getD s.toNat (0,0,0)).2.1)&&(((x.1.1.getD s.toNat (0,0,0)).2.2==(x.2.1.getD s.toNat (0,0,0)).2.2)&&true))))=true) then
 (Sum.inr (Sum.inl ())) else
 (Sum.inl (aj (s+1)))) else
 (Sum.inr (Sum.inr (()))))
def n6 (x:iD) (s:Int):Prop:=
 ((s<(x.1.1.length:Int))->
 (((0<=s)/\ (s<(x.1.1.length:Int)))/\
 ((s.toNat<x.1.1.length)/\
 ((s.toNat<x.1.1.length)/\
 (((0<=s)/\ (s<(x.2.1.length:Int)))/\
 ((s.toNat<x.2.1.length)/\
 (s.toNat<x.2.1.length)))))))
def HL (x:iD) (s:Int):Tr (Int⊕(Unit⊕Unit)) true:=
 (.i10 (s<(nL x.1.1))
 (.gu s x.1.1
 (.gu s x.2.1
 (.cQ (!(((gT x.1.1 s ef).1==(gT x.2.1 s ef).1)&&(((gT x.1.1 s ef).2.1==(gT x.2.1 s ef).2.1)&&(((gT x.1.1 s ef).2.2==(gT x.2.1 s ef).2.2)&&true))))
 (.ret (.inr (Sum.inl ())))
 (.ret (.inl (w1 s))))))
 (.ret (.inr (Sum.inr (())))))
def Ph (x:iD):aF:=⟨[],⟨bq 92 0 [(2,.v (.one (.ptr 0 0))),(3,.v (.one (.ptr 5 0))),(6,.v (.one (.i .i64)))],[.cells [.full 1,.full 2,.full 3,.full 4] 32,.row aU 0,.row aQ 0,.row aU 0,.row fk 0,.cells [.full 6,.full 7,.full 8,.full 9] 32,.row aU 0,.row aQ 0,.row aU 0,.row fk 0],0,none,[],[1,2,3,4,5,6,7,8],[0],[.i],[.l aU x.1.1,.l aQ x.1.2.1,.l aU x.1.2.2.1,.l fk x.1.2.2.2,.l aU x.2.1,.l aQ x.2.2.1,.l aU x.2.2.2.1,.l fk x.2.2.2.2]⟩,[⟨.ret,.ret,⟨bq 92 0 [(4,.v (.one (.b)))],[],0,none,[],[0],[],[],[.b false]⟩⟩,⟨(.exit 2),.normal,⟨bq 92 0 [(2,.v (.one (.ptr 0 0))),(3,.v (.one (.ptr 5 0)))],[.cells [.full 1,.full 2,.full 3,.full 4] 32,.row aU 0,.row aQ 0,.row aU 0,.row fk 0,.cells [.full 6,.full 7,.full 8,.full 9] 32,.row aU 0,.row aQ 0,.row aU 0,.row fk 0],0,none,[],[0,1,2,3,4,5,6,7],[],[],[.l aU x.1.1,.l aQ x.1.2.1,.l aU x.1.2.2.1,.l fk x.1.2.2.2,.l aU x.2.1,.l aQ x.2.2.1,.l aU x.2.2.2.1,.l fk x.2.2.2.2]⟩⟩]⟩
def g9 (x:iD) (s:Int):Int⊕(Unit⊕Unit):=
 (if (s<(x.1.2.1.length:Int)) then
 (if ((!(((x.1.2.1.getD s.toNat (0,0)).1==(x.2.2.1.getD s.toNat (0,0)).1)&&(((x.1.2.1.getD s.toNat (0,0)).2==(x.2.2.1.getD s.toNat (0,0)).2)&&true)))=true) then
 (Sum.inr (Sum.inl ())) else
 (Sum.inl (aj (s+1)))) else
 (Sum.inr (Sum.inr (()))))
def n7 (x:iD) (s:Int):Prop:=
 ((s<(x.1.2.1.length:Int))->
 (((0<=s)/\ (s<(x.1.2.1.length:Int)))/\
 ((s.toNat<x.1.2.1.length)/\
 ((s.toNat<x.1.2.1.length)/\
 (((0<=s)/\ (s<(x.2.2.1.length:Int)))/\
 ((s.toNat<x.2.2.1.length)/\
 (s.toNat<x.2.2.1.length)))))))
def HM (x:iD) (s:Int):Tr (Int⊕(Unit⊕Unit)) true:=
 (.i10 (s<(nL x.1.2.1))
 (.gu s x.1.2.1
 (.gu s x.2.2.1
 (.cQ (!(((gT x.1.2.1 s jg).1==(gT x.2.2.1 s jg).1)&&(((gT x.1.2.1 s jg).2==(gT x.2.2.1 s jg).2)&&true)))
 (.ret (.inr (Sum.inl ())))
 (.ret (.inl (w1 s))))))
 (.ret (.inr (Sum.inr (())))))
def Pj (x:iD):aF:=⟨[],⟨bq 92 0 [(2,.v (.one (.ptr 0 0))),(3,.v (.one (.ptr 5 0))),(7,.v (.one (.i .i64)))],[.cells [.full 1,.full 2,.full 3,.full 4] 32,.row aU 0,.row aQ 0,.row aU 0,.row fk 0,.cells [.full 6,.full 7,.full 8,.full 9] 32,.row aU 0,.row aQ 0,.row aU 0,.row fk 0],0,none,[],[1,2,3,4,5,6,7,8],[0],[.i],[.l aU x.1.1,.l aQ x.1.2.1,.l aU x.1.2.2.1,.l fk x.1.2.2.2,.l aU x.2.1,.l aQ x.2.2.1,.l aU x.2.2.2.1,.l fk x.2.2.2.2]⟩,[⟨.ret,.ret,⟨bq 92 0 [(4,.v (.one (.b)))],[],0,none,[],[0],[],[],[.b false]⟩⟩,⟨(.exit 4),.normal,⟨bq 92 0 [(2,.v (.one (.ptr 0 0))),(3,.v (.one (.ptr 5 0)))],[.cells [.full 1,.full 2,.full 3,.full 4] 32,.row aU 0,.row aQ 0,.row aU 0,.row fk 0,.cells [.full 6,.full 7,.full 8,.full 9] 32,.row aU 0,.row aQ 0,.row aU 0,.row fk 0],0,none,[],[0,1,2,3,4,5,6,7],[],[],[.l aU x.1.1,.l aQ x.1.2.1,.l aU x.1.2.2.1,.l fk x.1.2.2.2,.l aU x.2.1,.l aQ x.2.2.1,.l aU x.2.2.2.1,.l fk x.2.2.2.2]⟩⟩]⟩
def ia (x:iD) (s:Int):Int⊕(Unit⊕Unit):=
 (if (s<(x.1.2.2.1.length:Int)) then
 (if ((!(((x.1.2.2.1.getD s.toNat (0,0,0)).1==(x.2.2.2.1.getD s.toNat (0,0,0)).1)&&(((x.1.2.2.1.getD s.toNat (0,0,0)).2.1==(x.2.2.2.1.getD s.toNat (0,0,0)).2.1)&&(((x.1.2.2.1.getD s.toNat (0,0,0)).2.2==(x.2.2.2.1.getD s.toNat (0,0,0)).2.2)&&true))))=true) then
 (Sum.inr (Sum.inl ())) else
 (Sum.inl (aj (s+1)))) else
 (Sum.inr (Sum.inr (()))))
def n8 (x:iD) (s:Int):Prop:=
 ((s<(x.1.2.2.1.length:Int))->
 (((0<=s)/\ (s<(x.1.2.2.1.length:Int)))/\
 ((s.toNat<x.1.2.2.1.length)/\
 ((s.toNat<x.1.2.2.1.length)/\
 (((0<=s)/\ (s<(x.2.2.2.1.length:Int)))/\
 ((s.toNat<x.2.2.2.1.length)/\
 (s.toNat<x.2.2.2.1.length)))))))
def HN (x:iD) (s:Int):Tr (Int⊕(Unit⊕Unit)) true:=
 (.i10 (s<(nL x.1.2.2.1))
 (.gu s x.1.2.2.1
 (.gu s x.2.2.2.1
 (.cQ (!(((gT x.1.2.2.1 s ef).1==(gT x.2.2.2.1 s ef).1)&&(((gT x.1.2.2.1 s ef).2.1==(gT x.2.2.2.1 s ef).2.1)&&(((gT x.1.2.2.1 s ef).2.2==(gT x.2.2.2.1 s ef).2.2)&&true))))
 (.ret (.inr (Sum.inl ())))
 (.ret (.inl (w1 s))))))
 (.ret (.inr (Sum.inr (())))))
def Lz (x:iD):Bool:=
 (if (((x.1.1.length:Int) !=(x.2.1.length:Int))=true) then
 false else
 (if (((x.1.2.1.length:Int) !=(x.2.2.1.length:Int))=true) then
 false else
 (if (((x.1.2.2.1.length:Int) !=(x.2.2.2.1.length:Int))=true) then
 false else
 (aq (run (gZ x) 0) fun r=>
 (Sum.elim (fun a=>
 false) (fun b=>
 (aq (run (g9 x) 0) fun r_1=>
 (Sum.elim (fun a=>
 false) (fun b_1=>
 (aq (run (ia x) 0) fun r_2=>
 (Sum.elim (fun a=>
 false) (fun b_2=>
 (aq (Si (x.1.2.2.2,x.2.2.2.2)) fun y=>
 y)) r_2))) r_1))) r)))))
def vM (x:iD):Prop:=
 (¬(((x.1.1.length:Int) !=(x.2.1.length:Int))=true)->
 (¬(((x.1.2.1.length:Int) !=(x.2.2.1.length:Int))=true)->
 (¬(((x.1.2.2.1.length:Int) !=(x.2.2.2.1.length:Int))=true)->
 (Term (gZ x) (n6 x) 0/\
 az (run (gZ x) 0) fun r=>
 (cS r (fun a=>
 True) (fun b=>
 (Term (g9 x) (n7 x) 0/\
 az (run (g9 x) 0) fun r_1=>
 (cS r_1 (fun a=>
 True) (fun b_1=>
 (Term (ia x) (n8 x) 0/\
 az (run (ia x) 0) fun r_2=>
 (cS r_2 (fun a=>
 True) (fun b_2=>
 (vL (x.1.2.2.2,x.2.2.2.2))))))))))))))
def afl (x:iD):Tr Bool true:=
 (.dy ((nL x.1.1) !=(nL x.2.1))
 (.ret false)
 (.dy ((nL x.1.2.1) !=(nL x.2.2.1))
 (.ret false)
 (.dy ((nL x.1.2.2.1) !=(nL x.2.2.2.1))
 (.ret false)
 (aF.lp (Pg x) (HL x) z0 fun r=>
 (.s01 r (fun a=>
 (.ret false)) (fun b=>
 (aF.lp (Ph x) (HM x) z0 fun r_1=>
 (.s01 r_1 (fun a=>
 (.ret false)) (fun b_1=>
 (aF.lp (Pj x) (HN x) z0 fun r_2=>
 (.s01 r_2 (fun a=>
 (.ret false)) (fun b_2=>
 (.fn Ei (x.1.2.2.2,x.2.2.2.2) fun y=>
 (.ret y))))))))))))))
abbrev Ek:bB:=⟨(.pair (.agg (Ty.prod (Ty.sl aU) (Ty.prod (Ty.sl aQ) (Ty.prod (Ty.sl aU) (Ty.sl fk))))) (.agg (Ty.prod (Ty.sl aU) (Ty.prod (Ty.sl aQ) (Ty.prod (Ty.sl aU) (Ty.sl fk)))))),(.one Ty.bool),vM,Lz⟩
theorem ab4:ah Tryz.prog 19 (ak Ek):=ah.tr Ek afl (fn:=Tryz.f19) ax mQ mixed (by kernel_rfl) (av.nil _ _) (fun x=>(au.tr ax (ae.bD mQ (av.nil _ _)) mixed 0 (Pg x) (HL x) (au.tr ax (ae.bD mQ (av.nil _ _)) mixed 2 (Ph x) (HM x) (au.tr ax (ae.bD mQ (av.nil _ _)) mixed 4 (Pj x) (HN x) au.nil (by kernel_rfl) fun g s Q=>(by kernel_rfl)) (by kernel_rfl) fun g s Q=>(by kernel_rfl)) (by kernel_rfl) fun g s Q=>(by kernel_rfl))) (fun x=>(by kernel_rfl)) fun x Q=>(by kernel_rfl)
def Qm:List (Nat×Ev.Spec):=(19,ak Ek)::Ql
theorem Fe:ae Tryz.prog Qm:=ae.add (fn:=Tryz.f19) (by kernel_rfl) ab4 mQ
def lG (x:Int):Bool:=
 (if (x>=(-4096)) then
 (decide (x<=4096)) else
 false)
def Nv (_:Int):Prop:=True
def Ul (x:Int):Tr Bool false:=
 (.fm (x>=(-4096))
 (.ret (decide (x<=4096)))
 (.ret false))
abbrev lH:bB:=⟨(.one yi),(.one Ty.bool),Nv,lG⟩
theorem RS:ah Tryz.prog 122 (ak lH):=ah.tr lH Ul (fn:=Tryz.f122) ax Fe mixed (by kernel_rfl) (av.nil _ _) (fun x=>au.nil) (fun x=>(by kernel_rfl)) fun x Q=>(by kernel_rfl)
def EY:List (Nat×Ev.Spec):=(122,ak lH)::Qm
theorem pG:ae Tryz.prog EY:=ae.add (fn:=Tryz.f122) (by kernel_rfl) RS Fe
def K1 (x:eu):aF:=⟨[],⟨bq 41 0 [(1,.v (.one (.ptr 0 0))),(3,.v (.one (.i .i64)))],[.cells [.full 1,.full 2,.full 3,.full 4] 32,.row aU 0,.row aQ 0,.row aU 0,.row fk 0],0,none,[],[1,2,3,4],[0],[.i],[.l aU x.1,.l aQ x.2.1,.l aU x.2.2.1,.l fk x.2.2.2]⟩,[⟨.ret,.ret,⟨bq 41 0 [(2,.v (.one (.b)))],[],0,none,[],[0],[],[],[.b false]⟩⟩,⟨(.exit 0),.normal,⟨bq 41 0 [(1,.v (.one (.ptr 0 0)))],[.cells [.full 1,.full 2,.full 3,.full 4] 32,.row aU 0,.row aQ 0,.row aU 0,.row fk 0],0,none,[],[0,1,2,3],[],[],[.l aU x.1,.l aQ x.2.1,.l aU x.2.2.1,.l fk x.2.2.2]⟩⟩]⟩
def dV (x:eu) (s:Int):Int⊕(Unit⊕Unit):=
 (if (s<(x.1.length:Int)) then
 (aq (lG (x.1.getD s.toNat (0,0,0)).1) fun y=>
 (if ((!y)=true) then
 (Sum.inr (Sum.inl ())) else
 (aq (lG (x.1.getD s.toNat (0,0,0)).2.1) fun aB=>
 (if ((!aB)=true) then
 (Sum.inr (Sum.inl ())) else
 (aq (lG (x.1.getD s.toNat (0,0,0)).2.2) fun y_2=>
 (if ((!y_2)=true) then
 (Sum.inr (Sum.inl ())) else
 (Sum.inl (aj (s+1))))))))) else
 (Sum.inr (Sum.inr (()))))
def qK (x:eu) (s:Int):Prop:=
 ((s<(x.1.length:Int))->
 (((0<=s)/\ (s<(x.1.length:Int)))/\
 ((s.toNat<x.1.length)/\
 ((s.toNat<x.1.length)/\
 ((s.toNat<x.1.length)/\
 (az (lG (x.1.getD s.toNat (0,0,0)).1) fun y=>
 (¬((!y)=true)->
 (((0<=s)/\ (s<(x.1.length:Int)))/\
 ((s.toNat<x.1.length)/\
 ((s.toNat<x.1.length)/\
 ((s.toNat<x.1.length)/\
 (az (lG (x.1.getD s.toNat (0,0,0)).2.1) fun aB=>
 (¬((!aB)=true)->
 (((0<=s)/\ (s<(x.1.length:Int)))/\
 ((s.toNat<x.1.length)/\
 ((s.toNat<x.1.length)/\
 (s.toNat<x.1.length)))))))))))))))))
def DJ (x:eu) (s:Int):Tr (Int⊕(Unit⊕Unit)) true:=
 (.i10 (s<(nL x.1))
 (.Dx s x.1
 (.fn0 lH (gT x.1 s ef).1 trivial fun y=>
 (.dy (!y)
 (.ret (.inr (Sum.inl ())))
 (.Dx s x.1
 (.fn0 lH (gT x.1 s ef).2.1 trivial fun aB=>
 (.dy (!aB)
 (.ret (.inr (Sum.inl ())))
 (.Dx s x.1
 (.fn0 lH (gT x.1 s ef).2.2 trivial fun y_2=>
 (.cQ (!y_2)
 (.ret (.inr (Sum.inl ())))
 (.ret (.inl (w1 s))))))))))))
 (.ret (.inr (Sum.inr (())))))
def DH (x:eu):Bool:=
 (aq (run (dV x) 0) fun r=>
 (Sum.elim (fun a=>
 false) (fun b=>
 (aq (ahS x) fun y=>
 y)) r))
def r8 (x:eu):Prop:=
 (Term (dV x) (qK x) 0/\
 az (run (dV x) 0) fun r=>
 (cS r (fun a=>
 True) (fun b=>
 (Ej x))))
def abq (x:eu):Tr Bool true:=
 (aF.lp (K1 x) (DJ x) z0 fun r=>
 (.s01 r (fun a=>
 (.ret false)) (fun b=>
 (.fn Sj x fun y=>
 (.ret y)))))
abbrev z6:bB:=⟨(.agg (Ty.prod (Ty.sl aU) (Ty.prod (Ty.sl aQ) (Ty.prod (Ty.sl aU) (Ty.sl fk))))),(.one Ty.bool),r8,DH⟩
theorem Xh:ah Tryz.prog 79 (ak z6):=ah.tr z6 abq (fn:=Tryz.f79) ax pG mixed (by kernel_rfl) (av.nil _ _) (fun x=>(au.tr ax (ae.bD pG (av.nil _ _)) mixed 0 (K1 x) (DJ x) au.nil (by kernel_rfl) fun g s Q=>(by kernel_rfl))) (fun x=>(by kernel_rfl)) fun x Q=>(by kernel_rfl)
def Mh:List (Nat×Ev.Spec):=(79,ak z6)::EY
theorem Bj:ae Tryz.prog Mh:=ae.add (fn:=Tryz.f79) (by kernel_rfl) Xh pG
def zZ (x:SK):I9:=
 ((x.1.1.getD (Int.toNat (x.1.2.2.2.getD x.2.toNat ((0,0,0),(0,0,0),0,0,0)).1.1) (0,0,0)),(x.1.1.getD (Int.toNat (x.1.2.2.2.getD x.2.toNat ((0,0,0),(0,0,0),0,0,0)).2.1.1) (0,0,0)),(x.1.1.getD (Int.toNat (x.1.2.2.2.getD x.2.toNat ((0,0,0),(0,0,0),0,0,0)).2.2.1) (0,0,0)))
def nO (x:SK):Prop:=
 (((0<=x.2)/\ (x.2<(x.1.2.2.2.length:Int)))/\
 ((x.2.toNat<x.1.2.2.2.length)/\
 ((x.2.toNat<x.1.2.2.2.length)/\
 (((0<=(x.1.2.2.2.getD x.2.toNat ((0,0,0),(0,0,0),0,0,0)).1.1)/\ ((x.1.2.2.2.getD x.2.toNat ((0,0,0),(0,0,0),0,0,0)).1.1<(x.1.1.length:Int)))/\
 (((Int.toNat (x.1.2.2.2.getD x.2.toNat ((0,0,0),(0,0,0),0,0,0)).1.1)<x.1.1.length)/\
 (((Int.toNat (x.1.2.2.2.getD x.2.toNat ((0,0,0),(0,0,0),0,0,0)).1.1)<x.1.1.length)/\
 (((0<=(x.1.2.2.2.getD x.2.toNat ((0,0,0),(0,0,0),0,0,0)).2.1.1)/\ ((x.1.2.2.2.getD x.2.toNat ((0,0,0),(0,0,0),0,0,0)).2.1.1<(x.1.1.length:Int)))/\
 (((Int.toNat (x.1.2.2.2.getD x.2.toNat ((0,0,0),(0,0,0),0,0,0)).2.1.1)<x.1.1.length)/\
 (((Int.toNat (x.1.2.2.2.getD x.2.toNat ((0,0,0),(0,0,0),0,0,0)).2.1.1)<x.1.1.length)/\
 (((0<=(x.1.2.2.2.getD x.2.toNat ((0,0,0),(0,0,0),0,0,0)).2.2.1)/\ ((x.1.2.2.2.getD x.2.toNat ((0,0,0),(0,0,0),0,0,0)).2.2.1<(x.1.1.length:Int)))/\
 (((Int.toNat (x.1.2.2.2.getD x.2.toNat ((0,0,0),(0,0,0),0,0,0)).2.2.1)<x.1.1.length)/\
 ((Int.toNat (x.1.2.2.2.getD x.2.toNat ((0,0,0),(0,0,0),0,0,0)).2.2.1)<x.1.1.length))))))))))))
def Uj (x:SK):Tr I9 true:=
 (.gu x.2 x.1.2.2.2
 (.gu (gT x.1.2.2.2 x.2 jq).1.1 x.1.1
 (.gu (gT x.1.2.2.2 x.2 jq).2.1.1 x.1.1
 (.gu (gT x.1.2.2.2 x.2 jq).2.2.1 x.1.1
 (.ret ((gT x.1.1 (gT x.1.2.2.2 x.2 jq).1.1 ef),(gT x.1.1 (gT x.1.2.2.2 x.2 jq).2.1.1 ef),(gT x.1.1 (gT x.1.2.2.2 x.2 jq).2.2.1 ef)))))))
abbrev r7:bB:=⟨(.pair (.agg (Ty.prod (Ty.sl aU) (Ty.prod (Ty.sl aQ) (Ty.prod (Ty.sl aU) (Ty.sl fk))))) (.one yi)),(.agg fk),nO,zZ⟩
theorem RR:ah Tryz.prog 41 (ak r7):=ah.tr r7 Uj (fn:=Tryz.f41) ax Bj mixed (by kernel_rfl) (av.nil _ _) (fun x=>au.nil) (fun x=>(by kernel_rfl)) fun x Q=>(by kernel_rfl)
def EX:List (Nat×Ev.Spec):=(41,ak r7)::Mh
theorem wT:ae Tryz.prog EX:=ae.add (fn:=Tryz.f41) (by kernel_rfl) RR Bj
end Go.Proofs.YtfgdjlhilladhaaGreat
