/- Models of the references of layers 1, 4, 9, 10, 16. -/
import Derived.Test.YtbjfokijjefoeaaGreatAm
import Derived.Test.YtbjfokijjefoeaaGreatEvD8
noncomputable section
set_option linter.unusedSectionVars false
set_option linter.unusedVariables false
set_option linter.unusedSimpArgs false
namespace Go.Proofs.YtbjfokijjefoeaaGreat
open Go Go.Ev Go.Proofs
def H9 (x:Int):Bool:=
 (if (x>=(-1048576)) then
 (decide (x<=1048576)) else
 false)
def SS (_:Int):Prop:=True
def ZV (x:Int):Tr Bool false:=
 (.o7 (x>=(-1048576))
 (.ret (decide (x<=1048576)))
 (.ret false))
abbrev wF:cC:=⟨(.one yi),(.one Ty.bool),SS,H9⟩
theorem W5:ah Tryz.prog 138 (aj wF):=ah.tr wF ZV (fn:=Tryz.f138) ay yN mixed (by kernel_rfl) (av.nil _ _) (fun x=>au.nil) (fun x=>(by kernel_rfl)) fun x Q=>(by kernel_rfl)
def L6:List (Nat×Ev.Spec):=(138,aj wF)::IG
theorem Ch:ae Tryz.prog L6:=ae.add (fn:=Tryz.f138) (by kernel_rfl) W5 yN
def H8 (x:I2):Bool:=
 (ai (H9 x.1) fun y=>
 (if (y=true) then
 (ai (H9 x.2) fun aO=>
 aO) else
 false))
def W4 (_:I2):Prop:=True
def acd (x:I2):Tr Bool false:=
 (.fn0 wF x.1 trivial fun y=>
 (.nT y
 (.fn0 wF x.2 trivial fun aO=>
 (.ret aO))
 (.ret false)))
abbrev ur:cC:=⟨(.agg aS),(.one Ty.bool),W4,H8⟩
theorem ZU:ah Tryz.prog 129 (aj ur):=ah.tr ur acd (fn:=Tryz.f129) ay Ch mixed (by kernel_rfl) (av.nil _ _) (fun x=>au.nil) (fun x=>(by kernel_rfl)) fun x Q=>(by kernel_rfl)
def Qu:List (Nat×Ev.Spec):=(129,aj ur)::L6
theorem ES:ae Tryz.prog Qu:=ae.add (fn:=Tryz.f129) (by kernel_rfl) ZU Ch
def Ib (x:(I2×I2)):I2:=
 (ai (H8 x.1) fun y=>
 (if ((!y)=true) then
 (0,0) else
 (ai (H8 x.2) fun aO=>
 (if ((!aO)=true) then
 (0,0) else
 ((az (x.1.1- x.2.1)),(az (x.1.2- x.2.2)))))))
def SU (_:(I2×I2)):Prop:=True
def ZW (x:(I2×I2)):Tr I2 false:=
 (.fn0 ur x.1 trivial fun y=>
 (.nT (!y)
 (.ret iR)
 (.fn0 ur x.2 trivial fun aO=>
 (.nT (!aO)
 (.ret iR)
 (.ret ((az (x.1.1- x.2.1)),(az (x.1.2- x.2.2))))))))
abbrev wG:cC:=⟨(.pair (.agg aS) (.agg aS)),(.agg aS),SU,Ib⟩
theorem W6:ah Tryz.prog 120 (aj wG):=ah.tr wG ZW (fn:=Tryz.f120) ay ES mixed (by kernel_rfl) (av.nil _ _) (fun x=>au.nil) (fun x=>(by kernel_rfl)) fun x Q=>(by kernel_rfl)
def L7:List (Nat×Ev.Spec):=(120,aj wG)::Qu
theorem Ci:ae Tryz.prog L7:=ae.add (fn:=Tryz.f120) (by kernel_rfl) W6 ES
def BB (x:(I2×I2)):I2:=
 (ai (H8 x.1) fun y=>
 (if ((!y)=true) then
 (0,5) else
 (ai (H8 x.2) fun aO=>
 (if ((!aO)=true) then
 (0,5) else
 ((az ((az (x.1.1*x.2.2))- (az (x.1.2*x.2.1)))),0)))))
def NG (_:(I2×I2)):Prop:=True
def SR (x:(I2×I2)):Tr I2 false:=
 (.fn0 ur x.1 trivial fun y=>
 (.nT (!y)
 (.ret (z0,5))
 (.fn0 ur x.2 trivial fun aO=>
 (.nT (!aO)
 (.ret (z0,5))
 (.ret ((az ((az (x.1.1*x.2.2))- (az (x.1.2*x.2.1)))),z0))))))
abbrev uq:cC:=⟨(.pair (.agg aS) (.agg aS)),(.pair (.one yi) (.one yi)),NG,BB⟩
theorem PW:ah Tryz.prog 119 (aj uq):=ah.tr uq SR (fn:=Tryz.f119) ay Ci mixed (by kernel_rfl) (av.nil _ _) (fun x=>au.nil) (fun x=>(by kernel_rfl)) fun x Q=>(by kernel_rfl)
def ER:List (Nat×Ev.Spec):=(119,aj uq)::L7
theorem wT:ae Tryz.prog ER:=ae.add (fn:=Tryz.f119) (by kernel_rfl) PW Ci
def jo (x:I2):Bool:=
 (if (x.1>=(-4096)) then
 (if (x.1<=4096) then
 (if (x.2>=(-4096)) then
 (decide (x.2<=4096)) else
 false) else
 false) else
 false)
def NH (_:I2):Prop:=True
def SX (x:I2):Tr Bool false:=
 (.o7 (x.1>=(-4096))
 (.o7 (x.1<=4096)
 (.o7 (x.2>=(-4096))
 (.ret (decide (x.2<=4096)))
 (.ret false))
 (.ret false))
 (.ret false))
abbrev gQ:cC:=⟨(.agg aS),(.one Ty.bool),NH,jo⟩
theorem PX:ah Tryz.prog 107 (aj gQ):=ah.tr gQ SX (fn:=Tryz.f107) ay wT mixed (by kernel_rfl) (av.nil _ _) (fun x=>au.nil) (fun x=>(by kernel_rfl)) fun x Q=>(by kernel_rfl)
def EU:List (Nat×Ev.Spec):=(107,aj gQ)::ER
theorem wU:ae Tryz.prog EU:=ae.add (fn:=Tryz.f107) (by kernel_rfl) PX wT
def Ie (x:I6):I2:=
 (ai (jo x.1) fun y=>
 (if ((!y)=true) then
 (0,5) else
 (ai (jo x.2.1) fun aO=>
 (if ((!aO)=true) then
 (0,5) else
 (ai (jo x.2.2) fun y_2=>
 (if ((!y_2)=true) then
 (0,5) else
 (ai (Ib (x.2.1,x.1)) fun bf=>
 (ai (Ib (x.2.2,x.1)) fun bz=>
 (ai (BB (bf,bz)) fun kX=>
 kX)))))))))
def SV (_:I6):Prop:=True
def ZX (x:I6):Tr I2 false:=
 (.fn0 gQ x.1 trivial fun y=>
 (.nT (!y)
 (.ret (z0,5))
 (.fn0 gQ x.2.1 trivial fun aO=>
 (.nT (!aO)
 (.ret (z0,5))
 (.fn0 gQ x.2.2 trivial fun y_2=>
 (.nT (!y_2)
 (.ret (z0,5))
 (.fn0 wG (x.2.1,x.1) trivial fun bf=>
 (.fn0 wG (x.2.2,x.1) trivial fun bz=>
 (.fn0 uq (bf,bz) trivial fun kX=>
 (.ret kX))))))))))
abbrev wH:cC:=⟨(.pair (.agg aS) (.pair (.agg aS) (.agg aS))),(.pair (.one yi) (.one yi)),SV,Ie⟩
theorem W7:ah Tryz.prog 106 (aj wH):=ah.tr wH ZX (fn:=Tryz.f106) ay wU mixed (by kernel_rfl) (av.nil _ _) (fun x=>au.nil) (fun x=>(by kernel_rfl)) fun x Q=>(by kernel_rfl)
def L8:List (Nat×Ev.Spec):=(106,aj wH)::EU
theorem Cj:ae Tryz.prog L8:=ae.add (fn:=Tryz.f106) (by kernel_rfl) W7 wU
def ZY (x:Int):Int:=
 (if (x<0) then
 (-1) else
 (if (x>0) then
 1 else
 0))
def W9 (_:Int):Prop:=True
def ace (x:Int):Tr Int false:=
 (.o7 (x<z0)
 (.ret (-1))
 (.o7 (x>z0)
 (.ret z1)
 (.ret z0)))
abbrev FL:cC:=⟨(.one yi),(.one yi),W9,ZY⟩
theorem ZZ:ah Tryz.prog 146 (aj FL):=ah.tr FL ace (fn:=Tryz.f146) ay Cj mixed (by kernel_rfl) (av.nil _ _) (fun x=>au.nil) (fun x=>(by kernel_rfl)) fun x Q=>(by kernel_rfl)
def Qv:List (Nat×Ev.Spec):=(146,aj FL)::L8
theorem ET:ae Tryz.prog Qv:=ae.add (fn:=Tryz.f146) (by kernel_rfl) ZZ Cj
def l5 (x:I6):I2:=
 (ai (Ie x) fun y=>
 (ai (ZY y.1) fun aO=>
 (aO,y.2)))
def SW (_:I6):Prop:=True
def Z0 (x:I6):Tr I2 false:=
 (.fn0 wH x trivial fun y=>
 (.fn0 FL y.1 trivial fun aO=>
 (.ret (aO,y.2))))
abbrev wI:cC:=⟨(.pair (.agg aS) (.pair (.agg aS) (.agg aS))),(.pair (.one yi) (.one yi)),SW,l5⟩
theorem Xa:ah Tryz.prog 145 (aj wI):=ah.tr wI Z0 (fn:=Tryz.f145) ay ET mixed (by kernel_rfl) (av.nil _ _) (fun x=>au.nil) (fun x=>(by kernel_rfl)) fun x Q=>(by kernel_rfl)
def L9:List (Nat×Ev.Spec):=(145,aj wI)::Qv
theorem Ck:ae Tryz.prog L9:=ae.add (fn:=Tryz.f145) (by kernel_rfl) Xa ET
def jg (x:I6):Bool:=
 (ai (Ie x) fun y=>
 (if ((y.2==0)=true) then
 (y.1 !=0) else
 false))
def Nm (_:I6):Prop:=True
def Sj (x:I6):Tr Bool false:=
 (.fn0 wH x trivial fun y=>
 (.nT (y.2==z0)
 (.ret (y.1 !=z0))
 (.ret false)))
abbrev mP:cC:=⟨(.agg aV),(.one Ty.bool),Nm,jg⟩
theorem Pn:ah Tryz.prog 77 (aj mP):=ah.tr mP Sj (fn:=Tryz.f77) ay Ck mixed (by kernel_rfl) (av.nil _ _) (fun x=>au.nil) (fun x=>(by kernel_rfl)) fun x Q=>(by kernel_rfl)
def EF:List (Nat×Ev.Spec):=(77,aj mP)::L9
theorem wQ:ae Tryz.prog EF:=ae.add (fn:=Tryz.f77) (by kernel_rfl) Pn Ck
def lN (x:(I6×I3)):Int:=
 (ai (l5 (((List.getD [x.1.1.1,x.1.1.2,x.1.2.1.1,x.1.2.1.2,x.1.2.2.1,x.1.2.2.2] (0+(x.2.1.toNat*2)) 0),(List.getD [x.1.1.1,x.1.1.2,x.1.2.1.1,x.1.2.1.2,x.1.2.2.1,x.1.2.2.2] ((0+(x.2.1.toNat*2))+1) 0)),((List.getD [x.1.1.1,x.1.1.2,x.1.2.1.1,x.1.2.1.2,x.1.2.2.1,x.1.2.2.2] (0+((Int.toNat (Int.tmod (az (x.2.1+1)) 3))*2)) 0),(List.getD [x.1.1.1,x.1.1.2,x.1.2.1.1,x.1.2.1.2,x.1.2.2.1,x.1.2.2.2] ((0+((Int.toNat (Int.tmod (az (x.2.1+1)) 3))*2))+1) 0)),(List.getD [x.1.1.1,x.1.1.2,x.1.2.1.1,x.1.2.1.2,x.1.2.2.1,x.1.2.2.2] (0+((Int.toNat (Int.tmod (az (x.2.1+2)) 3))*2)) 0),(List.getD [x.1.1.1,x.1.1.2,x.1.2.1.1,x.1.2.1.2,x.1.2.2.1,x.1.2.2.2] ((0+((Int.toNat (Int.tmod (az (x.2.1+2)) 3))*2))+1) 0))) fun y=>
 (ai (l5 (((List.getD [x.1.1.1,x.1.1.2,x.1.2.1.1,x.1.2.1.2,x.1.2.2.1,x.1.2.2.2] (0+(x.2.1.toNat*2)) 0),(List.getD [x.1.1.1,x.1.1.2,x.1.2.1.1,x.1.2.1.2,x.1.2.2.1,x.1.2.2.2] ((0+(x.2.1.toNat*2))+1) 0)),((List.getD [x.1.1.1,x.1.1.2,x.1.2.1.1,x.1.2.1.2,x.1.2.2.1,x.1.2.2.2] (0+((Int.toNat (Int.tmod (az (x.2.1+1)) 3))*2)) 0),(List.getD [x.1.1.1,x.1.1.2,x.1.2.1.1,x.1.2.1.2,x.1.2.2.1,x.1.2.2.2] ((0+((Int.toNat (Int.tmod (az (x.2.1+1)) 3))*2))+1) 0)),x.2.2)) fun aO=>
 (az (y.1*aO.1))))
def gM (x:(I6×I3)):Prop:=
 (((0<=x.2.1)/\ (x.2.1<3))/\
 ((((0+(x.2.1.toNat*2))+2)<=6)/\
 (((0<=(Int.tmod (az (x.2.1+1)) 3))/\ ((Int.tmod (az (x.2.1+1)) 3)<3))/\
 ((((0+((Int.toNat (Int.tmod (az (x.2.1+1)) 3))*2))+2)<=6)/\
 (((0<=(Int.tmod (az (x.2.1+2)) 3))/\ ((Int.tmod (az (x.2.1+2)) 3)<3))/\
 ((((0+((Int.toNat (Int.tmod (az (x.2.1+2)) 3))*2))+2)<=6)/\
 (aA (l5 (((List.getD [x.1.1.1,x.1.1.2,x.1.2.1.1,x.1.2.1.2,x.1.2.2.1,x.1.2.2.2] (0+(x.2.1.toNat*2)) 0),(List.getD [x.1.1.1,x.1.1.2,x.1.2.1.1,x.1.2.1.2,x.1.2.2.1,x.1.2.2.2] ((0+(x.2.1.toNat*2))+1) 0)),((List.getD [x.1.1.1,x.1.1.2,x.1.2.1.1,x.1.2.1.2,x.1.2.2.1,x.1.2.2.2] (0+((Int.toNat (Int.tmod (az (x.2.1+1)) 3))*2)) 0),(List.getD [x.1.1.1,x.1.1.2,x.1.2.1.1,x.1.2.1.2,x.1.2.2.1,x.1.2.2.2] ((0+((Int.toNat (Int.tmod (az (x.2.1+1)) 3))*2))+1) 0)),(List.getD [x.1.1.1,x.1.1.2,x.1.2.1.1,x.1.2.1.2,x.1.2.2.1,x.1.2.2.2] (0+((Int.toNat (Int.tmod (az (x.2.1+2)) 3))*2)) 0),(List.getD [x.1.1.1,x.1.1.2,x.1.2.1.1,x.1.2.1.2,x.1.2.2.1,x.1.2.2.2] ((0+((Int.toNat (Int.tmod (az (x.2.1+2)) 3))*2))+1) 0))) fun y=>
 (((0<=x.2.1)/\ (x.2.1<3))/\
 ((((0+(x.2.1.toNat*2))+2)<=6)/\
 (((0<=(Int.tmod (az (x.2.1+1)) 3))/\ ((Int.tmod (az (x.2.1+1)) 3)<3))/\
 (((0+((Int.toNat (Int.tmod (az (x.2.1+1)) 3))*2))+2)<=6)))))))))))
def Sk (x:(I6×I3)):Tr Int true:=
 (.oR x.2.1 3
 (.od (((0+((tN x.2.1)*2))+2)<=6)
 (.oR (Int.tmod (w1 x.2.1) 3) 3
 (.od (((0+((tN (Int.tmod (w1 x.2.1) 3))*2))+2)<=6)
 (.oR (Int.tmod (az (x.2.1+2)) 3) 3
 (.od (((0+((tN (Int.tmod (az (x.2.1+2)) 3))*2))+2)<=6)
 (.fn0 wI (((List.getD [x.1.1.1,x.1.1.2,x.1.2.1.1,x.1.2.1.2,x.1.2.2.1,x.1.2.2.2] (0+((tN x.2.1)*2)) z0),(List.getD [x.1.1.1,x.1.1.2,x.1.2.1.1,x.1.2.1.2,x.1.2.2.1,x.1.2.2.2] ((0+((tN x.2.1)*2))+1) z0)),((List.getD [x.1.1.1,x.1.1.2,x.1.2.1.1,x.1.2.1.2,x.1.2.2.1,x.1.2.2.2] (0+((tN (Int.tmod (w1 x.2.1) 3))*2)) z0),(List.getD [x.1.1.1,x.1.1.2,x.1.2.1.1,x.1.2.1.2,x.1.2.2.1,x.1.2.2.2] ((0+((tN (Int.tmod (w1 x.2.1) 3))*2))+1) z0)),(List.getD [x.1.1.1,x.1.1.2,x.1.2.1.1,x.1.2.1.2,x.1.2.2.1,x.1.2.2.2] (0+((tN (Int.tmod (az (x.2.1+2)) 3))*2)) z0),(List.getD [x.1.1.1,x.1.1.2,x.1.2.1.1,x.1.2.1.2,x.1.2.2.1,x.1.2.2.2] ((0+((tN (Int.tmod (az (x.2.1+2)) 3))*2))+1) z0)) trivial fun y=>
 (.oR x.2.1 3
 (.od (((0+((tN x.2.1)*2))+2)<=6)
 (.oR (Int.tmod (w1 x.2.1) 3) 3
 (.od (((0+((tN (Int.tmod (w1 x.2.1) 3))*2))+2)<=6)
 (.fn0 wI (((List.getD [x.1.1.1,x.1.1.2,x.1.2.1.1,x.1.2.1.2,x.1.2.2.1,x.1.2.2.2] (0+((tN x.2.1)*2)) z0),(List.getD [x.1.1.1,x.1.1.2,x.1.2.1.1,x.1.2.1.2,x.1.2.2.1,x.1.2.2.2] ((0+((tN x.2.1)*2))+1) z0)),((List.getD [x.1.1.1,x.1.1.2,x.1.2.1.1,x.1.2.1.2,x.1.2.2.1,x.1.2.2.2] (0+((tN (Int.tmod (w1 x.2.1) 3))*2)) z0),(List.getD [x.1.1.1,x.1.1.2,x.1.2.1.1,x.1.2.1.2,x.1.2.2.1,x.1.2.2.2] ((0+((tN (Int.tmod (w1 x.2.1) 3))*2))+1) z0)),x.2.2) trivial fun aO=>
 (.ret (az (y.1*aO.1)))))))))))))))
abbrev tQ:cC:=⟨(.pair (.agg aV) (.pair (.one yi) (.agg aS))),(.one yi),gM,lN⟩
theorem Po:ah Tryz.prog 139 (aj tQ):=ah.tr tQ Sk (fn:=Tryz.f139) ay wQ mixed (by kernel_rfl) (av.nil _ _) (fun x=>au.nil) (fun x=>(by kernel_rfl)) fun x Q=>(by kernel_rfl)
def EG:List (Nat×Ev.Spec):=(139,aj tQ)::EF
theorem qo:ae Tryz.prog EG:=ae.add (fn:=Tryz.f139) (by kernel_rfl) Po wQ
def wk (x:(I6×Int×List I2)):aB:=⟨[],⟨bB 25 0 [(1,.v (.one (.i .i64))),(2,.v (.one (.full 0))),(3,.v (.one (.ptr 1 0))),(7,.v (.one (.i .i64))),(8,.v (.one (.i .i64)))],[.row aS 0,.cells [.i .i64,.i .i64,.i .i64,.i .i64,.i .i64,.i .i64] 38],0,none,[],[0,3,4,5,6,7,8,9],[1,2],[.i,.i],[.i x.2.1,.l aS x.2.2,.i x.1.1.1,.i x.1.1.2,.i x.1.2.1.1,.i x.1.2.1.2,.i x.1.2.2.1,.i x.1.2.2.2]⟩,[⟨(.exit 0),.normal,⟨bB 25 0 [(7,.v (.one (.i .i64)))],[],0,none,[],[],[0],[.i],[]⟩⟩]⟩
def fG (x:(I6×Int×List I2)) (s:I2):I2⊕Int:=
 (if (s.2<(x.2.2.length:Int)) then
 (ai (lN (x.1,x.2.1,(x.2.2.getD s.2.toNat (0,0)))) fun y=>
 (Sum.inl ((bp s.1 y),(az (s.2+1))))) else
 (Sum.inr (s.1)))
def kC (x:(I6×Int×List I2)) (s:I2):Prop:=
 ((s.2<(x.2.2.length:Int))->
 (((0<=s.2)/\ (s.2<(x.2.2.length:Int)))/\
 ((s.2.toNat<x.2.2.length)/\
 ((s.2.toNat<x.2.2.length)/\
 (gM (x.1,x.2.1,(x.2.2.getD s.2.toNat (0,0))))))))
def sH (x:(I6×Int×List I2)) (s:I2):Tr (I2⊕Int) true:=
 (.i10 (s.2<(nL x.2.2))
 (.gK s.2 x.2.2
 (.fn tQ (x.1,x.2.1,(gT x.2.2 s.2 iR)) fun y=>
 (.ret (.inl ((bp s.1 y),(w1 s.2))))))
 (.ret (.inr (s.1))))
def cu (x:(I6×Int×List I2)):Int:=
 (ai (run (fG x) ((-1),0)) fun r=>
 r)
def cH (x:(I6×Int×List I2)):Prop:=
 (Term (fG x) (kC x) ((-1),0))
def JF (x:(I6×Int×List I2)):Tr Int true:=
 (aB.lp (wk x) (sH x) ((-1),z0) fun r=>
 (.ret r))
abbrev cN:cC:=⟨(.pair (.agg aV) (.pair (.one yi) (.one (Ty.sl aS)))),(.one yi),cH,cu⟩
theorem Hy:ah Tryz.prog 130 (aj cN):=ah.tr cN JF (fn:=Tryz.f130) ay qo mixed (by kernel_rfl) (av.nil _ _) (fun x=>(au.tr ay (ae.bS qo (av.nil _ _)) mixed 0 (wk x) (sH x) au.nil (by kernel_rfl) fun g s Q=>(by kernel_rfl))) (fun x=>(by kernel_rfl)) fun x Q=>(by kernel_rfl)
def wP:List (Nat×Ev.Spec):=(130,aj cN)::EG
theorem mh:ae Tryz.prog wP:=ae.add (fn:=Tryz.f130) (by kernel_rfl) Hy qo
def kN (x:(I6×List I2×Bool)):Bool:=
 (ai (cu (x.1,0,x.2.1)) fun y=>
 (if (y<0) then
 true else
 (if (x.2.2=true) then
 (if ((y==0)=true) then
 true else
 (ai (cu (x.1,1,x.2.1)) fun aO=>
 (if (aO<0) then
 true else
 (if (x.2.2=true) then
 (if ((aO==0)=true) then
 true else
 (ai (cu (x.1,2,x.2.1)) fun y_2=>
 (if (y_2<0) then
 true else
 (if (x.2.2=true) then
 (if ((y_2==0)=true) then
 true else
 false) else
 false)))) else
 (ai (cu (x.1,2,x.2.1)) fun y_2=>
 (if (y_2<0) then
 true else
 (if (x.2.2=true) then
 (if ((y_2==0)=true) then
 true else
 false) else
 false))))))) else
 (ai (cu (x.1,1,x.2.1)) fun aO=>
 (if (aO<0) then
 true else
 (if (x.2.2=true) then
 (if ((aO==0)=true) then
 true else
 (ai (cu (x.1,2,x.2.1)) fun y_2=>
 (if (y_2<0) then
 true else
 (if (x.2.2=true) then
 (if ((y_2==0)=true) then
 true else
 false) else
 false)))) else
 (ai (cu (x.1,2,x.2.1)) fun y_2=>
 (if (y_2<0) then
 true else
 (if (x.2.2=true) then
 (if ((y_2==0)=true) then
 true else
 false) else
 false)))))))))
def jP (x:(I6×List I2×Bool)):Prop:=
 ((cH (x.1,0,x.2.1))/\
 aA (cu (x.1,0,x.2.1)) fun y=>
 (¬(y<0)->
 (((x.2.2=true)->
 (¬((y==0)=true)->
 ((cH (x.1,1,x.2.1))/\
 aA (cu (x.1,1,x.2.1)) fun aO=>
 (¬(aO<0)->
 (((x.2.2=true)->
 (¬((aO==0)=true)->
 (cH (x.1,2,x.2.1))))/\
 (¬(x.2.2=true)->
 (cH (x.1,2,x.2.1))))))))/\
 (¬(x.2.2=true)->
 ((cH (x.1,1,x.2.1))/\
 aA (cu (x.1,1,x.2.1)) fun aO=>
 (¬(aO<0)->
 (((x.2.2=true)->
 (¬((aO==0)=true)->
 (cH (x.1,2,x.2.1))))/\
 (¬(x.2.2=true)->
 (cH (x.1,2,x.2.1))))))))))
def Pm (x:(I6×List I2×Bool)):Tr Bool true:=
 (.fn cN (x.1,z0,x.2.1) fun y=>
 (.zu (y<z0)
 (.ret true)
 (.b11 x.2.2
 (.iK (y==z0)
 (.ret true)
 (.fn cN (x.1,z1,x.2.1) fun aO=>
 (.zu (aO<z0)
 (.ret true)
 (.b11 x.2.2
 (.iK (aO==z0)
 (.ret true)
 (.fn cN (x.1,2,x.2.1) fun y_2=>
 (.o7 (y_2<z0)
 (.ret true)
 (.nT x.2.2
 (.nT (y_2==z0)
 (.ret true)
 (.ret false))
 (.ret false)))))
 (.fn cN (x.1,2,x.2.1) fun y_2=>
 (.o7 (y_2<z0)
 (.ret true)
 (.nT x.2.2
 (.nT (y_2==z0)
 (.ret true)
 (.ret false))
 (.ret false))))))))
 (.fn cN (x.1,z1,x.2.1) fun aO=>
 (.zu (aO<z0)
 (.ret true)
 (.b11 x.2.2
 (.iK (aO==z0)
 (.ret true)
 (.fn cN (x.1,2,x.2.1) fun y_2=>
 (.o7 (y_2<z0)
 (.ret true)
 (.nT x.2.2
 (.nT (y_2==z0)
 (.ret true)
 (.ret false))
 (.ret false)))))
 (.fn cN (x.1,2,x.2.1) fun y_2=>
 (.o7 (y_2<z0)
 (.ret true)
 (.nT x.2.2
 (.nT (y_2==z0)
 (.ret true)
 (.ret false))
 (.ret false))))))))))
abbrev n7:cC:=⟨(.pair (.agg aV) (.pair (.one (Ty.sl aS)) (.one Ty.bool))),(.one Ty.bool),jP,kN⟩
theorem Nl:ah Tryz.prog 121 (aj n7):=ah.tr n7 Pm (fn:=Tryz.f121) ay mh mixed (by kernel_rfl) (av.nil _ _) (fun x=>(au.x9 ay (ae.bS mh (av.nil _ _)) mixed 0 4 au.nil (by kernel_rfl))) (fun x=>(by kernel_rfl)) fun x Q=>(by kernel_rfl)
def B8:List (Nat×Ev.Spec):=(121,aj n7)::wP
theorem u5:ae Tryz.prog B8:=ae.add (fn:=Tryz.f121) (by kernel_rfl) Nl mh
def tO (x:(I6×I6)):(Bool×Int):=
 (ai (jg x.1) fun y=>
 (if ((!y)=true) then
 (false,1) else
 (ai (jg x.2) fun aO=>
 (if ((!aO)=true) then
 (false,1) else
 (ai (kN (x.1,[x.2.1,x.2.2.1,x.2.2.2],true)) fun y_2=>
 (if ((!y_2)=true) then
 (ai (kN (x.2,[x.1.1,x.1.2.1,x.1.2.2],true)) fun bf=>
 ((!bf),0)) else
 (false,0)))))))
def lM (x:(I6×I6)):Prop:=
 (aA (jg x.1) fun y=>
 (¬((!y)=true)->
 (aA (jg x.2) fun aO=>
 (¬((!aO)=true)->
 ((jP (x.1,[x.2.1,x.2.2.1,x.2.2.2],true))/\
 aA (kN (x.1,[x.2.1,x.2.2.1,x.2.2.2],true)) fun y_2=>
 (((!y_2)=true)->
 (jP (x.2,[x.1.1,x.1.2.1,x.1.2.2],true))))))))
def Nk (x:(I6×I6)):Tr (Bool×Int) true:=
 (.fn0 mP x.1 trivial fun y=>
 (.iK (!y)
 (.ret (false,z1))
 (.fn0 mP x.2 trivial fun aO=>
 (.iK (!aO)
 (.ret (false,z1))
 (.fn n7 (x.1,[x.2.1,x.2.2.1,x.2.2.2],true) fun y_2=>
 (.jL (!y_2)
 (.fn n7 (x.2,[x.1.1,x.1.2.1,x.1.2.2],true) fun bf=>
 (.ret ((!bf),z0)))
 (.ret (false,z0))))))))
abbrev pe:cC:=⟨(.pair (.agg aV) (.agg aV)),(.pair (.one Ty.bool) (.one yi)),lM,tO⟩
theorem JG:ah Tryz.prog 108 (aj pe):=ah.tr pe Nk (fn:=Tryz.f108) ay u5 mixed (by kernel_rfl) (av.nil _ _) (fun x=>au.nil) (fun x=>(by kernel_rfl)) fun x Q=>(by kernel_rfl)
def yO:List (Nat×Ev.Spec):=(108,aj pe)::B8
theorem sR:ae Tryz.prog yO:=ae.add (fn:=Tryz.f108) (by kernel_rfl) JG u5
def xJ (x:Int):I2:=
 (if (x<0) then
 (0,5) else
 (if (x>4096) then
 (0,5) else
 ((az ((az (Int.tdiv x 16))+1)),0)))
def Pt (_:Int):Prop:=True
def WD (x:Int):Tr I2 false:=
 (.o7 (x<z0)
 (.ret (z0,5))
 (.o7 (x>4096)
 (.ret (z0,5))
 (.ret ((w1 (az (Int.tdiv x 16))),z0))))
abbrev sK:cC:=⟨(.one yi),(.pair (.one yi) (.one yi)),Pt,xJ⟩
theorem Ss:ah Tryz.prog 79 (aj sK):=ah.tr sK WD (fn:=Tryz.f79) ay sR mixed (by kernel_rfl) (av.nil _ _) (fun x=>au.nil) (fun x=>(by kernel_rfl)) fun x Q=>(by kernel_rfl)
def IM:List (Nat×Ev.Spec):=(79,aj sK)::yO
theorem nN:ae Tryz.prog IM:=ae.add (fn:=Tryz.f79) (by kernel_rfl) Ss sR
def K8 (x:(List I6)):aB:=⟨[],⟨bB 68 0 [(0,.v (.one (.full 0))),(2,.v (.one (.ptr 1 0))),(3,.v (.one (.ptr 2 0))),(5,.v (.one (.ptr 3 0))),(6,.v (.one (.ptr 4 0))),(7,.v (.one (.i .i64)))],[.row aV 0,.cells [.i .i64,.i .i64] 37,.cells [.i .i64,.i .i64] 37,.cells [.i .i64,.i .i64] 37,.cells [.i .i64,.i .i64] 37],0,none,[],[1,2,3,4,5],[6,7,8,9,0],[.i,.i,.i,.i,.i],[.l aV x,.i 0,.i 0,.i 0,.i 0]⟩,[⟨.ret,.ret,⟨bB 68 0 [(2,.v (.one (.ptr 0 0))),(3,.v (.one (.ptr 1 0))),(4,.v (.one (.i .i64)))],[.cells [.i .i64,.i .i64] 37,.cells [.i .i64,.i .i64] 37],0,none,[],[0,1,2,3,4],[],[],[.i 5,.i 0,.i 0,.i 0,.i 0]⟩⟩,⟨(.exit 0),.normal,⟨bB 68 0 [(2,.v (.one (.ptr 0 0))),(3,.v (.one (.ptr 1 0))),(5,.v (.one (.ptr 2 0))),(6,.v (.one (.ptr 3 0)))],[.cells [.i .i64,.i .i64] 37,.cells [.i .i64,.i .i64] 37,.cells [.i .i64,.i .i64] 37,.cells [.i .i64,.i .i64] 37],0,none,[],[0,1,2,3],[4,5,6,7],[.i,.i,.i,.i],[.i 0,.i 0,.i 0,.i 0]⟩⟩]⟩
def fU (x:(List I6)) (s:(Int×Int×I3)):(Int×Int×I3)⊕(Unit⊕(Int×I3)):=
 (if (s.2.2.2.2<(x.length:Int)) then
 (ai (jo (x.getD s.2.2.2.2.toNat ((0,0),(0,0),0,0)).1) fun y=>
 (if ((!y)=true) then
 (Sum.inr (Sum.inl ())) else
 (ai (jo (x.getD s.2.2.2.2.toNat ((0,0),(0,0),0,0)).2.1) fun aO=>
 (if ((!aO)=true) then
 (Sum.inr (Sum.inl ())) else
 (ai (jo (x.getD s.2.2.2.2.toNat ((0,0),(0,0),0,0)).2.2) fun y_2=>
 (if ((!y_2)=true) then
 (Sum.inr (Sum.inl ())) else
 (Sum.inl ((bG (bG (bG s.1 (x.getD s.2.2.2.2.toNat ((0,0),(0,0),0,0)).1.1) (x.getD s.2.2.2.2.toNat ((0,0),(0,0),0,0)).2.1.1) (x.getD s.2.2.2.2.toNat ((0,0),(0,0),0,0)).2.2.1),(bG (bG (bG s.2.1 (x.getD s.2.2.2.2.toNat ((0,0),(0,0),0,0)).1.2) (x.getD s.2.2.2.2.toNat ((0,0),(0,0),0,0)).2.1.2) (x.getD s.2.2.2.2.toNat ((0,0),(0,0),0,0)).2.2.2),(bp (bp (bp s.2.2.1 (x.getD s.2.2.2.2.toNat ((0,0),(0,0),0,0)).1.1) (x.getD s.2.2.2.2.toNat ((0,0),(0,0),0,0)).2.1.1) (x.getD s.2.2.2.2.toNat ((0,0),(0,0),0,0)).2.2.1),(bp (bp (bp s.2.2.2.1 (x.getD s.2.2.2.2.toNat ((0,0),(0,0),0,0)).1.2) (x.getD s.2.2.2.2.toNat ((0,0),(0,0),0,0)).2.1.2) (x.getD s.2.2.2.2.toNat ((0,0),(0,0),0,0)).2.2.2),(az (s.2.2.2.2+1)))))))))) else
 (Sum.inr (Sum.inr ((s.1,s.2.1,s.2.2.1,s.2.2.2.1)))))
def nA (x:(List I6)) (s:(Int×Int×I3)):Prop:=
 ((s.2.2.2.2<(x.length:Int))->
 (((0<=s.2.2.2.2)/\ (s.2.2.2.2<(x.length:Int)))/\
 ((s.2.2.2.2.toNat<x.length)/\
 ((s.2.2.2.2.toNat<x.length)/\
 ((s.2.2.2.2.toNat<x.length)/\
 (aA (jo (x.getD s.2.2.2.2.toNat ((0,0),(0,0),0,0)).1) fun y=>
 (¬((!y)=true)->
 (((0<=s.2.2.2.2)/\ (s.2.2.2.2<(x.length:Int)))/\
 ((s.2.2.2.2.toNat<x.length)/\
 ((s.2.2.2.2.toNat<x.length)/\
 ((s.2.2.2.2.toNat<x.length)/\
 (aA (jo (x.getD s.2.2.2.2.toNat ((0,0),(0,0),0,0)).2.1) fun aO=>
 (¬((!aO)=true)->
 (((0<=s.2.2.2.2)/\ (s.2.2.2.2<(x.length:Int)))/\
 ((s.2.2.2.2.toNat<x.length)/\
 ((s.2.2.2.2.toNat<x.length)/\
 (s.2.2.2.2.toNat<x.length)))))))))))))))))
def D8 (x:(List I6)) (s:(Int×Int×I3)):Tr ((Int×Int×I3)⊕(Unit⊕(Int×I3))) true:=
 (.i10 (s.2.2.2.2<(nL x))
 (.zF s.2.2.2.2 x
 (.fn0 gQ (gT x s.2.2.2.2 aW).1 trivial fun y=>
 (.iK (!y)
 (.ret (.inr (Sum.inl ())))
 (.zF s.2.2.2.2 x
 (.fn0 gQ (gT x s.2.2.2.2 aW).2.1 trivial fun aO=>
 (.iK (!aO)
 (.ret (.inr (Sum.inl ())))
 (.zF s.2.2.2.2 x
 (.fn0 gQ (gT x s.2.2.2.2 aW).2.2 trivial fun y_2=>
 (.nT (!y_2)
 (.ret (.inr (Sum.inl ())))
 (.ret (.inl ((bG (bG (bG s.1 (gT x s.2.2.2.2 aW).1.1) (gT x s.2.2.2.2 aW).2.1.1) (gT x s.2.2.2.2 aW).2.2.1),(bG (bG (bG s.2.1 (gT x s.2.2.2.2 aW).1.2) (gT x s.2.2.2.2 aW).2.1.2) (gT x s.2.2.2.2 aW).2.2.2),(bp (bp (bp s.2.2.1 (gT x s.2.2.2.2 aW).1.1) (gT x s.2.2.2.2 aW).2.1.1) (gT x s.2.2.2.2 aW).2.2.1),(bp (bp (bp s.2.2.2.1 (gT x s.2.2.2.2 aW).1.2) (gT x s.2.2.2.2 aW).2.1.2) (gT x s.2.2.2.2 aW).2.2.2),(w1 s.2.2.2.2)))))))))))))
 (.ret (.inr (Sum.inr ((s.1,s.2.1,s.2.2.1,s.2.2.2.1))))))
def HA (x:(List I6)):(I2×I2×Int):=
 (if (((x.length:Int)==0)=true) then
 ((0,0),(0,0),1) else
 (ai (run (fU x) ((x.getD 0 ((0,0),(0,0),0,0)).1.1,(x.getD 0 ((0,0),(0,0),0,0)).1.2,(x.getD 0 ((0,0),(0,0),0,0)).1.1,(x.getD 0 ((0,0),(0,0),0,0)).1.2,0)) fun r=>
 (Sum.elim (fun a=>
 ((0,0),(0,0),5)) (fun b=>
 ((b.1,b.2.1),b.2.2,0)) r)))
def tT (x:(List I6)):Prop:=
 (¬(((x.length:Int)==0)=true)->
 ((0<(x.length:Int))/\
 ((0<x.length)/\
 ((0<x.length)/\
 ((0<x.length)/\
 ((0<(x.length:Int))/\
 ((0<x.length)/\
 ((0<x.length)/\
 ((0<x.length)/\
 (Term (fU x) (nA x) ((x.getD 0 ((0,0),(0,0),0,0)).1.1,(x.getD 0 ((0,0),(0,0),0,0)).1.2,(x.getD 0 ((0,0),(0,0),0,0)).1.1,(x.getD 0 ((0,0),(0,0),0,0)).1.2,0)))))))))))
def ZC (x:(List I6)):Tr (I2×I2×Int) true:=
 (.iK ((nL x)==z0)
 (.ret (iR,iR,z1))
 (.og (true&&(decide (z0<(nL x)))) (z0<(nL x)) (fun h=>(cX rfl (decide_eq_true h)))
 (.od (0<x.length)
 (.od (0<x.length)
 (.od (0<x.length)
 (.og (true&&(decide (z0<(nL x)))) (z0<(nL x)) (fun h=>(cX rfl (decide_eq_true h)))
 (.od (0<x.length)
 (.od (0<x.length)
 (.od (0<x.length)
 (aB.lp (K8 x) (D8 x) ((x.getD 0 aW).1.1,(x.getD 0 aW).1.2,(x.getD 0 aW).1.1,(x.getD 0 aW).1.2,z0) fun r=>
 (.xW r (fun a=>
 (.ret (iR,iR,5))) (fun b=>
 (.ret ((b.1,b.2.1),b.2.2,z0))))))))))))))
abbrev Bf:cC:=⟨(.one (Ty.sl aV)),(.pair (.agg aS) (.pair (.agg aS) (.one yi))),tT,HA⟩
theorem Wz:ah Tryz.prog 78 (aj Bf):=ah.tr Bf ZC (fn:=Tryz.f78) ay nN mixed (by kernel_rfl) (av.nil _ _) (fun x=>(au.tr ay (ae.bS nN (av.nil _ _)) mixed 0 (K8 x) (D8 x) (au.x9 ay (ae.bS nN (av.nil _ _)) mixed 2 4 au.nil (by kernel_rfl)) (by kernel_rfl) fun g s Q=>(by kernel_rfl))) (fun x=>(by kernel_rfl)) fun x Q=>(by kernel_rfl)
def LV:List (Nat×Ev.Spec):=(78,aj Bf)::IM
theorem pG:ae Tryz.prog LV:=ae.add (fn:=Tryz.f78) (by kernel_rfl) Wz nN
def D7 (x:(List I6)):aB:=⟨[],⟨bB 35 0 [(0,.v (.one (.full 0))),(3,.v (.one (.i .i64))),(4,.v (.one (.i .i64)))],[.row aV 0],0,none,[],[2],[0,1],[.i,.i],[.l aV x]⟩,[⟨.ret,.ret,⟨bB 35 0 [(2,.v (.one (.b)))],[],0,none,[],[0],[],[],[.b false]⟩⟩,⟨(.exit 2),.normal,⟨bB 35 0 [(0,.v (.one (.full 0))),(3,.v (.one (.i .i64)))],[.row aV 0],0,none,[],[1],[0],[.i],[.l aV x]⟩⟩]⟩
def dZ (x:(List I6)) (s:I2):I2⊕(Unit⊕Int):=
 (if (s.2<s.1) then
 (ai (tO ((x.getD s.1.toNat ((0,0),(0,0),0,0)),(x.getD s.2.toNat ((0,0),(0,0),0,0)))) fun y=>
 (if ((y.2 !=0)=true) then
 (Sum.inr (Sum.inl ())) else
 (if (y.1=true) then
 (Sum.inr (Sum.inl ())) else
 (Sum.inl (s.1,(az (s.2+1))))))) else
 (Sum.inr (Sum.inr (s.1))))
def j8 (x:(List I6)) (s:I2):Prop:=
 ((s.2<s.1)->
 (((0<=s.1)/\ (s.1<(x.length:Int)))/\
 ((s.1.toNat<x.length)/\
 ((s.1.toNat<x.length)/\
 (((0<=s.2)/\ (s.2<(x.length:Int)))/\
 ((s.2.toNat<x.length)/\
 ((s.2.toNat<x.length)/\
 (lM ((x.getD s.1.toNat ((0,0),(0,0),0,0)),(x.getD s.2.toNat ((0,0),(0,0),0,0)))))))))))
def yD (x:(List I6)) (s:I2):Tr (I2⊕(Unit⊕Int)) true:=
 (.i10 (s.2<s.1)
 (.gK s.1 x
 (.gK s.2 x
 (.fn pe ((gT x s.1 aW),(gT x s.2 aW)) fun y=>
 (.nT (y.2 !=z0)
 (.ret (.inr (Sum.inl ())))
 (.nT y.1
 (.ret (.inr (Sum.inl ())))
 (.ret (.inl (s.1,(w1 s.2)))))))))
 (.ret (.inr (Sum.inr (s.1)))))
def D6 (x:(List I6)):aB:=⟨[],⟨bB 35 0 [(0,.v (.one (.full 0))),(3,.v (.one (.i .i64)))],[.row aV 0],0,none,[],[1],[0],[.i],[.l aV x]⟩,[⟨.ret,.ret,⟨bB 35 0 [(2,.v (.one (.b)))],[],0,none,[],[0],[],[],[.b false]⟩⟩,⟨(.exit 0),.normal,⟨bB 35 0 [],[],0,none,[],[],[],[],[]⟩⟩]⟩
def jz (x:(List I6)) (s:Int):Int⊕(Unit⊕Unit):=
 (if (s<(x.length:Int)) then
 (ai (run (dZ x) (s,0)) fun r=>
 (Sum.elim (fun a=>
 (Sum.inr (Sum.inl ()))) (fun b=>
 (Sum.inl (az (b+1)))) r)) else
 (Sum.inr (Sum.inr (()))))
def oG (x:(List I6)) (s:Int):Prop:=
 ((s<(x.length:Int))->
 (Term (dZ x) (j8 x) (s,0)))
def yC (x:(List I6)) (s:Int):Tr (Int⊕(Unit⊕Unit)) true:=
 (.i10 (s<(nL x))
 (aB.lp (D7 x) (yD x) (s,z0) fun r=>
 (.xW r (fun a=>
 (.ret (.inr (Sum.inl ())))) (fun b=>
 (.ret (.inl (w1 b))))))
 (.ret (.inr (Sum.inr (())))))
def Hz (x:(List I6)):Bool:=
 (ai (run (jz x) 0) fun r=>
 (Sum.elim (fun a=>
 false) (fun b=>
 true) r))
def tS (x:(List I6)):Prop:=
 (Term (jz x) (oG x) 0)
def Sl (x:(List I6)):Tr Bool true:=
 (aB.lp (D6 x) (yC x) z0 fun r=>
 (.xW r (fun a=>
 (.ret false)) (fun b=>
 (.ret true))))
abbrev tR:cC:=⟨(.one (Ty.sl aV)),(.one Ty.bool),tS,Hz⟩
theorem Pp:ah Tryz.prog 80 (aj tR):=ah.tr tR Sl (fn:=Tryz.f80) ay pG mixed (by kernel_rfl) (av.nil _ _) (fun x=>(au.tr ay (ae.bS pG (av.nil _ _)) mixed 0 (D6 x) (yC x) (au.tr ay (ae.bS pG (av.nil _ _)) mixed 2 (D7 x) (yD x) au.nil (by kernel_rfl) fun g s Q=>(by kernel_rfl)) (by kernel_rfl) fun g s Q=>(by kernel_rfl))) (fun x=>(by kernel_rfl)) fun x Q=>(by kernel_rfl)
def EH:List (Nat×Ev.Spec):=(80,aj tR)::LV
theorem qp:ae Tryz.prog EH:=ae.add (fn:=Tryz.f80) (by kernel_rfl) Pp pG
def Pr (x:(List Int×List I6×I2)):aB:=⟨[],⟨bB 97 0 [(1,.v (.one (.ptr 0 0))),(3,.v (.one (.i .i64)))],[.cells [.full 1,.full 2,.i .i64,.i .i64] 45,.row yi 0,.row aV 0],0,none,[],[1,2,3,4],[0],[.i],[.i x.2.2.1,.i x.2.2.2,.l yi x.1,.l aV x.2.1]⟩,[⟨.ret,.ret,⟨bB 97 0 [(2,.v (.one (.b)))],[],0,none,[],[0],[],[],[.b false]⟩⟩,⟨(.exit 0),.normal,⟨bB 97 0 [(1,.v (.one (.ptr 0 0)))],[.cells [.full 1,.full 2,.i .i64,.i .i64] 45,.row yi 0,.row aV 0],0,none,[],[0,1,2,3],[],[],[.i x.2.2.1,.i x.2.2.2,.l yi x.1,.l aV x.2.1]⟩⟩]⟩
def dV (x:(List Int×List I6×I2)) (s:Int):Int⊕(Unit⊕Unit):=
 (if (s<(x.2.1.length:Int)) then
 (ai (jg (x.2.1.getD s.toNat ((0,0),(0,0),0,0))) fun y=>
 (if ((!y)=true) then
 (Sum.inr (Sum.inl ())) else
 (Sum.inl (az (s+1))))) else
 (Sum.inr (Sum.inr (()))))
def tU (x:(List Int×List I6×I2)) (s:Int):Prop:=
 ((s<(x.2.1.length:Int))->
 (((0<=s)/\ (s<(x.2.1.length:Int)))/\
 ((s.toNat<x.2.1.length)/\
 (s.toNat<x.2.1.length))))
def HB (x:(List Int×List I6×I2)) (s:Int):Tr (Int⊕(Unit⊕Unit)) true:=
 (.i10 (s<(nL x.2.1))
 (.gK s x.2.1
 (.fn0 mP (gT x.2.1 s aW) trivial fun y=>
 (.nT (!y)
 (.ret (.inr (Sum.inl ())))
 (.ret (.inl (w1 s))))))
 (.ret (.inr (Sum.inr (())))))
def Bg (x:(List Int×List I6×I2)):Bool:=
 (if (((x.1.length:Int)==0)=true) then
 false else
 (if ((x.1.length:Int)>500) then
 false else
 (if (((x.2.1.length:Int) !=(x.1.length:Int))=true) then
 false else
 (ai (run (dV x) 0) fun r=>
 (Sum.elim (fun a=>
 false) (fun b=>
 (ai (HA x.2.1) fun y=>
 (if ((y.2.2 !=0)=true) then
 false else
 (if ((!((y.1.1==0)&&((y.1.2==0)&&true)))=true) then
 false else
 (if (y.2.1.1>4096) then
 false else
 (if (y.2.1.2>4096) then
 false else
 (ai (xJ y.2.1.1) fun aO=>
 (ai (xJ y.2.1.2) fun y_2=>
 (if ((x.2.2.1==aO.1)=true) then
 (if ((x.2.2.2==y_2.1)=true) then
 (ai (Hz x.2.1) fun bf=>
 bf) else
 false) else
 false))))))))) r)))))
def sI (x:(List Int×List I6×I2)):Prop:=
 (¬(((x.1.length:Int)==0)=true)->
 (¬((x.1.length:Int)>500)->
 (¬(((x.2.1.length:Int) !=(x.1.length:Int))=true)->
 (Term (dV x) (tU x) 0/\
 aA (run (dV x) 0) fun r=>
 (cS r (fun a=>
 True) (fun b=>
 ((tT x.2.1)/\
 aA (HA x.2.1) fun y=>
 (¬((y.2.2 !=0)=true)->
 (¬((!((y.1.1==0)&&((y.1.2==0)&&true)))=true)->
 (¬(y.2.1.1>4096)->
 (¬(y.2.1.2>4096)->
 (aA (xJ y.2.1.1) fun aO=>
 (aA (xJ y.2.1.2) fun y_2=>
 (((x.2.2.1==aO.1)=true)->
 (((x.2.2.2==y_2.1)=true)->
 (tS x.2.1))))))))))))))))
def ab6 (x:(List Int×List I6×I2)):Tr Bool true:=
 (.iK ((nL x.1)==z0)
 (.ret false)
 (.zu ((nL x.1)>500)
 (.ret false)
 (.iK ((nL x.2.1) !=(nL x.1))
 (.ret false)
 (aB.lp (Pr x) (HB x) z0 fun r=>
 (.s01 r (fun a=>
 (.ret false)) (fun b=>
 (.fn Bf x.2.1 fun y=>
 (.iK (y.2.2 !=z0)
 (.ret false)
 (.iK (!((y.1.1==z0)&&((y.1.2==z0)&&true)))
 (.ret false)
 (.zu (y.2.1.1>4096)
 (.ret false)
 (.zu (y.2.1.2>4096)
 (.ret false)
 (.fn0 sK y.2.1.1 trivial fun aO=>
 (.fn0 sK y.2.1.2 trivial fun y_2=>
 (.jL (x.2.2.1==aO.1)
 (.jL (x.2.2.2==y_2.1)
 (.fn tR x.2.1 fun bf=>
 (.ret bf))
 (.ret false))
 (.ret false)))))))))))))))
abbrev Bh:cC:=⟨(.agg (Ty.prod (Ty.sl yi) (Ty.prod (Ty.sl aV) aS))),(.one Ty.bool),sI,Bg⟩
theorem ZD:ah Tryz.prog 53 (aj Bh):=ah.tr Bh ab6 (fn:=Tryz.f53) ay qp mixed (by kernel_rfl) (av.nil _ _) (fun x=>(au.tr ay (ae.bS qp (av.nil _ _)) mixed 0 (Pr x) (HB x) au.nil (by kernel_rfl) fun g s Q=>(by kernel_rfl))) (fun x=>(by kernel_rfl)) fun x Q=>(by kernel_rfl)
def Qq:List (Nat×Ev.Spec):=(53,aj Bh)::EH
theorem EI:ae Tryz.prog Qq:=ae.add (fn:=Tryz.f53) (by kernel_rfl) ZD qp
def Uq (x:(List Int)):(List Int):=
 ([]++x)
def xR (x:(List Int)):Prop:=
 ((0+x.length)<1099511627776)
def ab9 (x:(List Int)):Tr (List Int) true:=
 (.od ((0+x.length)<1099511627776)
 (.ret ([]++x)))
abbrev FJ:cC:=⟨(.one (Ty.sl yi)),(.one (Ty.sl yi)),xR,Uq⟩
theorem ZN:ah Tryz.prog 44 (aj FJ):=ah.tr FJ ab9 (fn:=Tryz.f44) ay EI mixed (by kernel_rfl) (av.nil _ _) (fun x=>au.nil) (fun x=>(by kernel_rfl)) fun x Q=>(by kernel_rfl)
def Qt:List (Nat×Ev.Spec):=(44,aj FJ)::Qq
theorem EP:ae Tryz.prog Qt:=ae.add (fn:=Tryz.f44) (by kernel_rfl) ZN EI
def wq (x:(List Int×List I6×I2)):(List Int×List I6×I2):=
 (ai (Uq x.1) fun y=>
 (y,([]++x.2.1),x.2.2))
def tV (x:(List Int×List I6×I2)):Prop:=
 ((xR x.1)/\
 aA (Uq x.1) fun y=>
 ((0+x.2.1.length)<1099511627776))
def ZE (x:(List Int×List I6×I2)):Tr (List Int×List I6×I2) true:=
 (.fn FJ x.1 fun y=>
 (.od ((0+x.2.1.length)<1099511627776)
 (.ret (y,([]++x.2.1),x.2.2))))
abbrev wu:cC:=⟨(.agg (Ty.prod (Ty.sl yi) (Ty.prod (Ty.sl aV) aS))),(.agg (Ty.prod (Ty.sl yi) (Ty.prod (Ty.sl aV) aS))),tV,wq⟩
theorem WB:ah Tryz.prog 22 (aj wu):=ah.tr wu ZE (fn:=Tryz.f22) ay EP mixed (by kernel_rfl) (av.nil _ _) (fun x=>au.nil) (fun x=>(by kernel_rfl)) fun x Q=>(by kernel_rfl)
def LW:List (Nat×Ev.Spec):=(22,aj wu)::Qt
theorem pH:ae Tryz.prog LW:=ae.add (fn:=Tryz.f22) (by kernel_rfl) WB EP
def HC (x:((List Int×List I6×I2)×I2)):aB:=⟨[],⟨bB 72 0 [(2,.v (.one (.ptr 0 0))),(3,.v (.one (.ptr 3 0))),(6,.v (.one (.full 4))),(7,.v (.one (.i .i64)))],[.cells [.full 1,.full 2,.i .i64,.i .i64] 45,.row yi 0,.row aV 0,.cells [.i .i64,.i .i64] 37,.row aV 2],0,none,[],[1,2,3,4,5,6],[7,0],[(.l aV),.i],[.i x.1.2.2.1,.i x.1.2.2.2,.l yi x.1.1,.l aV x.1.2.1,.i x.2.1,.i x.2.2]⟩,[⟨(.exit 0),.normal,⟨bB 72 0 [(6,.v (.one (.full 0)))],[.row aV 2],0,none,[],[],[0],[(.l aV)],[]⟩⟩]⟩
def eT (x:((List Int×List I6×I2)×I2)) (s:(List I6×Int)):(List I6×Int)⊕(List I6):=
 (if (s.2<(x.1.2.1.length:Int)) then
 (Sum.inl ((s.1++ [(((az ((x.1.2.1.getD s.2.toNat ((0,0),(0,0),0,0)).1.1+x.2.1)),(az ((x.1.2.1.getD s.2.toNat ((0,0),(0,0),0,0)).1.2+x.2.2))),((az ((x.1.2.1.getD s.2.toNat ((0,0),(0,0),0,0)).2.1.1+x.2.1)),(az ((x.1.2.1.getD s.2.toNat ((0,0),(0,0),0,0)).2.1.2+x.2.2))),(az ((x.1.2.1.getD s.2.toNat ((0,0),(0,0),0,0)).2.2.1+x.2.1)),(az ((x.1.2.1.getD s.2.toNat ((0,0),(0,0),0,0)).2.2.2+x.2.2)))]),(az (s.2+1)))) else
 (Sum.inr (s.1)))
def lO (x:((List Int×List I6×I2)×I2)) (s:(List I6×Int)):Prop:=
 ((s.2<(x.1.2.1.length:Int))->
 (((0<=s.2)/\ (s.2<(x.1.2.1.length:Int)))/\
 ((s.2.toNat<x.1.2.1.length)/\
 ((s.2.toNat<x.1.2.1.length)/\
 ((s.2.toNat<x.1.2.1.length)/\
 ((s.2.toNat<x.1.2.1.length)/\
 (((0<=s.2)/\ (s.2<(x.1.2.1.length:Int)))/\
 ((s.2.toNat<x.1.2.1.length)/\
 ((s.2.toNat<x.1.2.1.length)/\
 ((s.2.toNat<x.1.2.1.length)/\
 ((s.2.toNat<x.1.2.1.length)/\
 (((0<=s.2)/\ (s.2<(x.1.2.1.length:Int)))/\
 ((s.2.toNat<x.1.2.1.length)/\
 ((s.2.toNat<x.1.2.1.length)/\
 ((s.2.toNat<x.1.2.1.length)/\
 ((s.2.toNat<x.1.2.1.length)/\
 (((0<=s.2)/\ (s.2<(x.1.2.1.length:Int)))/\
 ((s.2.toNat<x.1.2.1.length)/\
 ((s.2.toNat<x.1.2.1.length)/\
 ((s.2.toNat<x.1.2.1.length)/\
 ((s.2.toNat<x.1.2.1.length)/\
 (((0<=s.2)/\ (s.2<(x.1.2.1.length:Int)))/\
 ((s.2.toNat<x.1.2.1.length)/\
 ((s.2.toNat<x.1.2.1.length)/\
 ((s.2.toNat<x.1.2.1.length)/\
 ((s.2.toNat<x.1.2.1.length)/\
 (((0<=s.2)/\ (s.2<(x.1.2.1.length:Int)))/\
 ((s.2.toNat<x.1.2.1.length)/\
 ((s.2.toNat<x.1.2.1.length)/\
 ((s.2.toNat<x.1.2.1.length)/\
 ((s.2.toNat<x.1.2.1.length)/\
 ((s.1.length+1)<1099511627776))))))))))))))))))))))))))))))))
def Bi (x:((List Int×List I6×I2)×I2)) (s:(List I6×Int)):Tr ((List I6×Int)⊕(List I6)) true:=
 (.i10 (s.2<(nL x.1.2.1))
 (.zF s.2 x.1.2.1
 (.od ((tN s.2)<x.1.2.1.length)
 (.zF s.2 x.1.2.1
 (.od ((tN s.2)<x.1.2.1.length)
 (.zF s.2 x.1.2.1
 (.od ((tN s.2)<x.1.2.1.length)
 (.zF s.2 x.1.2.1
 (.od ((tN s.2)<x.1.2.1.length)
 (.zF s.2 x.1.2.1
 (.od ((tN s.2)<x.1.2.1.length)
 (.zF s.2 x.1.2.1
 (.od ((tN s.2)<x.1.2.1.length)
 (.od ((s.1.length+1)<1099511627776)
 (.ret (.inl ((s.1++ [(((az ((gT x.1.2.1 s.2 aW).1.1+x.2.1)),(az ((gT x.1.2.1 s.2 aW).1.2+x.2.2))),((az ((gT x.1.2.1 s.2 aW).2.1.1+x.2.1)),(az ((gT x.1.2.1 s.2 aW).2.1.2+x.2.2))),(az ((gT x.1.2.1 s.2 aW).2.2.1+x.2.1)),(az ((gT x.1.2.1 s.2 aW).2.2.2+x.2.2)))]),(w1 s.2)))))))))))))))))
 (.ret (.inr (s.1))))
def xF (x:((List Int×List I6×I2)×I2)):(List I6×Int):=
 (ai (Bg x.1) fun y=>
 (if ((!y)=true) then
 ([],1) else
 (if (x.2.1<0) then
 ([],5) else
 (if (x.2.1>65536) then
 ([],5) else
 (if (x.2.2<0) then
 ([],5) else
 (if (x.2.2>65536) then
 ([],5) else
 (ai (run (eT x) ([],0)) fun r=>
 (r,0))))))))
def qP (x:((List Int×List I6×I2)×I2)):Prop:=
 ((sI x.1)/\
 aA (Bg x.1) fun y=>
 (¬((!y)=true)->
 (¬(x.2.1<0)->
 (¬(x.2.1>65536)->
 (¬(x.2.2<0)->
 (¬(x.2.2>65536)->
 (Term (eT x) (lO x) ([],0))))))))
def WA (x:((List Int×List I6×I2)×I2)):Tr (List I6×Int) true:=
 (.fn Bh x.1 fun y=>
 (.iK (!y)
 (.ret ([],z1))
 (.zu (x.2.1<z0)
 (.ret ([],5))
 (.zu (x.2.1>65536)
 (.ret ([],5))
 (.zu (x.2.2<z0)
 (.ret ([],5))
 (.zu (x.2.2>65536)
 (.ret ([],5))
 (aB.lp (HC x) (Bi x) ([],z0) fun r=>
 (.ret (r,z0)))))))))
abbrev xG:cC:=⟨(.pair (.agg (Ty.prod (Ty.sl yi) (Ty.prod (Ty.sl aV) aS))) (.agg aS)),(.pair (.one (Ty.sl aV)) (.one yi)),qP,xF⟩
theorem Sq:ah Tryz.prog 33 (aj xG):=ah.tr xG WA (fn:=Tryz.f33) ay pH mixed (by kernel_rfl) (av.nil _ _) (fun x=>(au.tr ay (ae.bS pH (av.nil _ _)) mixed 0 (HC x) (Bi x) (au.x9 ay (ae.bS pH (av.nil _ _)) mixed 2 4 au.nil (by kernel_rfl)) (by kernel_rfl) fun g s Q=>(by kernel_rfl))) (fun x=>(by kernel_rfl)) fun x Q=>(by kernel_rfl)
def IK:List (Nat×Ev.Spec):=(33,aj xG)::LW
theorem rS:ae Tryz.prog IK:=ae.add (fn:=Tryz.f33) (by kernel_rfl) Sq pH
def wv (x:(List I6×List I6)):aB:=⟨[],⟨bB 26 0 [(0,.v (.one (.full 0))),(1,.v (.one (.full 1))),(5,.v (.one (.i .i64)))],[.row aV 0,.row aV 0],0,none,[],[1,2],[0],[.i],[.l aV x.1,.l aV x.2]⟩,[⟨.ret,.ret,⟨bB 26 0 [(4,.v (.one (.b)))],[],0,none,[],[0],[],[],[.b false]⟩⟩,⟨(.exit 0),.normal,⟨bB 26 0 [],[],0,none,[],[],[],[],[]⟩⟩]⟩
def dN (x:(List I6×List I6)) (s:Int):Int⊕(Unit⊕Unit):=
 (if (s<(x.1.length:Int)) then
 (if ((!((((x.1.getD s.toNat ((0,0),(0,0),0,0)).1.1==(x.2.getD s.toNat ((0,0),(0,0),0,0)).1.1)&&(((x.1.getD s.toNat ((0,0),(0,0),0,0)).1.2==(x.2.getD s.toNat ((0,0),(0,0),0,0)).1.2)&&true))&&((((x.1.getD s.toNat ((0,0),(0,0),0,0)).2.1.1==(x.2.getD s.toNat ((0,0),(0,0),0,0)).2.1.1)&&(((x.1.getD s.toNat ((0,0),(0,0),0,0)).2.1.2==(x.2.getD s.toNat ((0,0),(0,0),0,0)).2.1.2)&&true))&&((((x.1.getD s.toNat ((0,0),(0,0),0,0)).2.2.1==(x.2.getD s.toNat ((0,0),(0,0),0,0)).2.2.1)&&(((x.1.getD s.toNat ((0,0),(0,0),0,0)).2.2.2==(x.2.getD s.toNat ((0,0),(0,0),0,0)).2.2.2)&&true))&&true))))=true) then
 (Sum.inr (Sum.inl ())) else
 (Sum.inl (az (s+1)))) else
 (Sum.inr (Sum.inr (()))))
def kD (x:(List I6×List I6)) (s:Int):Prop:=
 ((s<(x.1.length:Int))->
 (((0<=s)/\ (s<(x.1.length:Int)))/\
 ((s.toNat<x.1.length)/\
 ((s.toNat<x.1.length)/\
 (((0<=s)/\ (s<(x.2.length:Int)))/\
 ((s.toNat<x.2.length)/\
 (s.toNat<x.2.length)))))))
def sJ (x:(List I6×List I6)) (s:Int):Tr (Int⊕(Unit⊕Unit)) true:=
 (.i10 (s<(nL x.1))
 (.gK s x.1
 (.gK s x.2
 (.nT (!((((gT x.1 s aW).1.1==(gT x.2 s aW).1.1)&&(((gT x.1 s aW).1.2==(gT x.2 s aW).1.2)&&true))&&((((gT x.1 s aW).2.1.1==(gT x.2 s aW).2.1.1)&&(((gT x.1 s aW).2.1.2==(gT x.2 s aW).2.1.2)&&true))&&((((gT x.1 s aW).2.2.1==(gT x.2 s aW).2.2.1)&&(((gT x.1 s aW).2.2.2==(gT x.2 s aW).2.2.2)&&true))&&true))))
 (.ret (.inr (Sum.inl ())))
 (.ret (.inl (w1 s))))))
 (.ret (.inr (Sum.inr (())))))
def kO (x:(List I6×List I6)):Bool:=
 (if (((x.1.length:Int) !=(x.2.length:Int))=true) then
 false else
 (ai (run (dN x) 0) fun r=>
 (Sum.elim (fun a=>
 false) (fun b=>
 true) r)))
def hY (x:(List I6×List I6)):Prop:=
 (¬(((x.1.length:Int) !=(x.2.length:Int))=true)->
 (Term (dN x) (kD x) 0))
def JH (x:(List I6×List I6)):Tr Bool true:=
 (.iK ((nL x.1) !=(nL x.2))
 (.ret false)
 (aB.lp (wv x) (sJ x) z0 fun r=>
 (.xW r (fun a=>
 (.ret false)) (fun b=>
 (.ret true)))))
abbrev jQ:cC:=⟨(.pair (.one (Ty.sl aV)) (.one (Ty.sl aV))),(.one Ty.bool),hY,kO⟩
theorem HE:ah Tryz.prog 13 (aj jQ):=ah.tr jQ JH (fn:=Tryz.f13) ay rS mixed (by kernel_rfl) (av.nil _ _) (fun x=>(au.tr ay (ae.bS rS (av.nil _ _)) mixed 0 (wv x) (sJ x) au.nil (by kernel_rfl) fun g s Q=>(by kernel_rfl))) (fun x=>(by kernel_rfl)) fun x Q=>(by kernel_rfl)
def wR:List (Nat×Ev.Spec):=(13,aj jQ)::IK
theorem q9:ae Tryz.prog wR:=ae.add (fn:=Tryz.f13) (by kernel_rfl) HE rS
def xH (x:((List Int×List I6×I2)×List Int×List I6×I2)):Bool:=
 (if ((x.1.2.2.1==x.2.2.2.1)=true) then
 (if ((x.1.2.2.2==x.2.2.2.2)=true) then
 (ai (dG (x.1.1,x.2.1)) fun y=>
 (if (y=true) then
 (ai (kO (x.1.2.1,x.2.2.1)) fun aO=>
 aO) else
 false)) else
 false) else
 false)
def n8 (x:((List Int×List I6×I2)×List Int×List I6×I2)):Prop:=
 (((x.1.2.2.1==x.2.2.2.1)=true)->
 (((x.1.2.2.2==x.2.2.2.2)=true)->
 ((cU (x.1.1,x.2.1))/\
 aA (dG (x.1.1,x.2.1)) fun y=>
 ((y=true)->
 (hY (x.1.2.1,x.2.2.1))))))
def WC (x:((List Int×List I6×I2)×List Int×List I6×I2)):Tr Bool true:=
 (.jL (x.1.2.2.1==x.2.2.2.1)
 (.jL (x.1.2.2.2==x.2.2.2.2)
 (.fn ff (x.1.1,x.2.1) fun y=>
 (.jL y
 (.fn jQ (x.1.2.1,x.2.2.1) fun aO=>
 (.ret aO))
 (.ret false)))
 (.ret false))
 (.ret false))
abbrev xI:cC:=⟨(.pair (.agg (Ty.prod (Ty.sl yi) (Ty.prod (Ty.sl aV) aS))) (.agg (Ty.prod (Ty.sl yi) (Ty.prod (Ty.sl aV) aS)))),(.one Ty.bool),n8,xH⟩
theorem Sr:ah Tryz.prog 37 (aj xI):=ah.tr xI WC (fn:=Tryz.f37) ay q9 mixed (by kernel_rfl) (av.nil _ _) (fun x=>au.nil) (fun x=>(by kernel_rfl)) fun x Q=>(by kernel_rfl)
def IL:List (Nat×Ev.Spec):=(37,aj xI)::wR
theorem yP:ae Tryz.prog IL:=ae.add (fn:=Tryz.f37) (by kernel_rfl) Sr q9
def De (x:(List Int×List I6×I2)):Bool:=
 (if ((x.1.length:Int)>15) then
 true else
 (decide ((x.2.1.length:Int)>15)))
def Sn (_:(List Int×List I6×I2)):Prop:=True
def ZB (x:(List Int×List I6×I2)):Tr Bool false:=
 (.o7 ((nL x.1)>15)
 (.ret true)
 (.ret (decide ((nL x.2.1)>15))))
abbrev Be:cC:=⟨(.agg (Ty.prod (Ty.sl yi) (Ty.prod (Ty.sl aV) aS))),(.one Ty.bool),Sn,De⟩
theorem Wy:ah Tryz.prog 20 (aj Be):=ah.tr Be ZB (fn:=Tryz.f20) ay yP mixed (by kernel_rfl) (av.nil _ _) (fun x=>au.nil) (fun x=>(by kernel_rfl)) fun x Q=>(by kernel_rfl)
def LU:List (Nat×Ev.Spec):=(20,aj Be)::IL
theorem uF:ae Tryz.prog LU:=ae.add (fn:=Tryz.f20) (by kernel_rfl) Wy yP
def Ld (x:(List (List Int×List I6×I2))):aB:=⟨[],⟨bB 36 0 [(0,.v (.one (.full 0))),(3,.v (.one (.i .i64))),(4,.v (.one (.i .i64)))],[.row (Ty.prod (Ty.sl yi) (Ty.prod (Ty.sl aV) aS)) 0],0,none,[],[2],[0,1],[.i,.i],[.l (Ty.prod (Ty.sl yi) (Ty.prod (Ty.sl aV) aS)) x]⟩,[⟨.ret,.ret,⟨bB 36 0 [(2,.v (.one (.b)))],[],0,none,[],[0],[],[],[.b true]⟩⟩,⟨(.exit 0),.normal,⟨bB 36 0 [(0,.v (.one (.full 0))),(3,.v (.one (.i .i64)))],[.row (Ty.prod (Ty.sl yi) (Ty.prod (Ty.sl aV) aS)) 0],0,none,[],[1],[0],[.i],[.l (Ty.prod (Ty.sl yi) (Ty.prod (Ty.sl aV) aS)) x]⟩⟩]⟩
def fV (x:(List (List Int×List I6×I2))) (s:I2):I2⊕(Unit⊕Int):=
 (if (s.2<(x.length:Int)) then
 (if ((x.length:Int)<=12) then
 (ai (De (x.getD s.2.toNat ([],[],0,0))) fun y=>
 (if (y=true) then
 (Sum.inr (Sum.inl ())) else
 (Sum.inl ((az (s.1+((x.getD s.2.toNat ([],[],0,0)).2.1.length:Int))),(az (s.2+1)))))) else
 (Sum.inr (Sum.inr (s.1)))) else
 (Sum.inr (Sum.inr (s.1))))
def jS (x:(List (List Int×List I6×I2))) (s:I2):Prop:=
 ((s.2<(x.length:Int))->
 (((x.length:Int)<=12)->
 (((0<=s.2)/\ (s.2<(x.length:Int)))/\
 ((s.2.toNat<x.length)/\
 ((s.2.toNat<x.length)/\
 (aA (De (x.getD s.2.toNat ([],[],0,0))) fun y=>
 (¬(y=true)->
 (((0<=s.2)/\ (s.2<(x.length:Int)))/\
 ((s.2.toNat<x.length)/\
 ((s.2.toNat<x.length)/\
 (s.2.toNat<x.length)))))))))))
def Ef (x:(List (List Int×List I6×I2))) (s:I2):Tr (I2⊕(Unit⊕Int)) true:=
 (.i10 (s.2<(nL x))
 (.i10 ((nL x)<=12)
 (.gK s.2 x
 (.fn0 Be (gT x s.2 ([],[],iR)) trivial fun y=>
 (.iK y
 (.ret (.inr (Sum.inl ())))
 (.zF s.2 x
 (.ret (.inl ((az (s.1+(nL (gT x s.2 ([],[],iR)).2.1))),(w1 s.2))))))))
 (.ret (.inr (Sum.inr (s.1)))))
 (.ret (.inr (Sum.inr (s.1)))))
def ud (x:(List (List Int×List I6×I2))):Bool:=
 (ai (run (fV x) (0,0)) fun r=>
 (Sum.elim (fun a=>
 true) (fun b=>
 (if ((x.length:Int)>12) then
 true else
 (decide (b>30)))) r))
def uf (x:(List (List Int×List I6×I2))):Prop:=
 (Term (fV x) (jS x) (0,0))
def ZJ (x:(List (List Int×List I6×I2))):Tr Bool true:=
 (aB.lp (Ld x) (Ef x) iR fun r=>
 (.xW r (fun a=>
 (.ret true)) (fun b=>
 (.o7 ((nL x)>12)
 (.ret true)
 (.ret (decide (b>30)))))))
abbrev wC:cC:=⟨(.one (Ty.sl (Ty.prod (Ty.sl yi) (Ty.prod (Ty.sl aV) aS)))),(.one Ty.bool),uf,ud⟩
theorem WN:ah Tryz.prog 4 (aj wC):=ah.tr wC ZJ (fn:=Tryz.f4) ay uF mixed (by kernel_rfl) (av.nil _ _) (fun x=>(au.tr ay (ae.bS uF (av.nil _ _)) mixed 0 (Ld x) (Ef x) au.nil (by kernel_rfl) fun g s Q=>(by kernel_rfl))) (fun x=>(by kernel_rfl)) fun x Q=>(by kernel_rfl)
def pQ:List (Nat×Ev.Spec):=(4,aj wC)::LU
theorem uJ:ae Tryz.prog pQ:=ae.add (fn:=Tryz.f4) (by kernel_rfl) WN uF
end Go.Proofs.YtbjfokijjefoeaaGreat
