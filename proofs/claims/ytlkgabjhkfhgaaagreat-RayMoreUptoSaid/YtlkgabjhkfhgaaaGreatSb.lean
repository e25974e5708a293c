/- Models of functions of layers 4, 9, 12: hits. -/
import Derived.Test.YtlkgabjhkfhgaaaGreatSa
noncomputable section
set_option linter.unusedSectionVars false
set_option linter.unusedVariables false
set_option linter.unusedSimpArgs false
namespace Go.Proofs.YtlkgabjhkfhgaaaGreat
open Go Go.Ev Go.Proofs
def JL (x:(List Int)):aI:=⟨[],⟨cA 18 0 [(5,.v (.one (.full 0))),(6,.v (.one (.i .i64))),(7,.v (.one (.i .i64)))],[.row yi 0],0,none,[],[0,2],[1],[.i],[.i (x.length:Int),.l yi x]⟩,[⟨.ret,.ret,⟨cA 18 0 [(2,.v (.one (.b)))],[],0,none,[],[0],[],[],[.b false]⟩⟩,⟨(.exit 0),.normal,⟨cA 18 0 [],[],0,none,[],[],[],[],[]⟩⟩]⟩
def kS (x:(List Int)) (s:Int):Int⊕(Unit⊕Unit):=
 (if (s<(x.length:Int)) then
 (if ((List.getD x (Int.toNat s) (0:Int))<(-1048576:Int)) then
 (Sum.inr (Sum.inl ())) else
 (if ((List.getD x (Int.toNat s) (0:Int))>(1048576:Int)) then
 (Sum.inr (Sum.inl ())) else
 (Sum.inl (ae (s+(1:Int)))))) else
 (Sum.inr (Sum.inr (()))))
def xu (x:(List Int)) (s:Int):Prop:=
 ((s<(x.length:Int))->
 ((((0:Int)<=s)/\ (s<(x.length:Int)))/\
 (((Int.toNat s)<(List.length x))/\
 ((Int.toNat s)<(List.length x)))))
def Da (x:(List Int)) (s:Int):Tr (Int⊕(Unit⊕Unit)) true:=
 (.i10 (s<(nL x))
 (.bO s x
 (.tu ((gI x s)<(-1048576:Int))
 (.ret (.inr (Sum.inl ())))
 (.tu ((gI x s)>(1048576:Int))
 (.ret (.inr (Sum.inl ())))
 (.ret (.inl (w1 s))))))
 (.ret (.inr (Sum.inr (())))))
def Nb (x:(List Int)):Bool:=
 (ai (run (kS x) (0:Int)) fun r=>
 (Sum.elim (fun a=>
 false) (fun b=>
 true) r))
def yn (x:(List Int)):Prop:=
 (Term (kS x) (xu x) (0:Int))
def Vz (x:(List Int)):Tr Bool true:=
 (aI.lp (JL x) (Da x) z0 fun r=>
 (.Hj r (fun a=>
 (.ret false)) (fun b=>
 (.ret true))))
abbrev An:dS:=⟨(.one (Ty.sl yi)),(.one Ty.bool),yn,Nb⟩
theorem SV:ak Tryz.prog 164 (av An):=ak.tr An Vz (fn:=Tryz.f164) aC qh mixed (by kernel_rfl) (aA.nil _ _) (fun x=>(aB.tr aC (ah.c8 qh (aA.nil _ _)) mixed 0 (JL x) (Da x) aB.nil (by kernel_rfl) fun g s Q=>(by kernel_rfl))) (fun x=>(by kernel_rfl)) fun x Q=>(by kernel_rfl)
def JA:List (Nat×Ev.Spec):=(164,av An)::Fp
theorem sr:ah Tryz.prog JA:=ah.add (fn:=Tryz.f164) (by kernel_rfl) SV qh
def Mf (x:(List I3)):aI:=⟨[],⟨cA 21 0 [(5,.v (.one (.full 0))),(6,.v (.one (.i .i64))),(7,.v (.one (.i .i64)))],[.row bz 0],0,none,[],[0,2],[1],[.i],[.i (x.length:Int),.l bz x]⟩,[⟨.ret,.ret,⟨cA 21 0 [(2,.v (.one (.b)))],[],0,none,[],[0],[],[],[.b false]⟩⟩,⟨(.exit 0),.normal,⟨cA 21 0 [],[],0,none,[],[],[],[],[]⟩⟩]⟩
def l9 (x:(List I3)) (s:Int):Int⊕(Unit⊕Unit):=
 (if (s<(x.length:Int)) then
 (ai (Nb [(List.getD x (Int.toNat s) ((0:Int),((0:Int),(0:Int)))).1,(List.getD x (Int.toNat s) ((0:Int),((0:Int),(0:Int)))).2.1,(List.getD x (Int.toNat s) ((0:Int),((0:Int),(0:Int)))).2.2]) fun y=>
 (if ((!y)=true) then
 (Sum.inr (Sum.inl ())) else
 (Sum.inl (ae (s+(1:Int)))))) else
 (Sum.inr (Sum.inr (()))))
def yW (x:(List I3)) (s:Int):Prop:=
 ((s<(x.length:Int))->
 ((((0:Int)<=s)/\ (s<(x.length:Int)))/\
 (((Int.toNat s)<(List.length x))/\
 (((Int.toNat s)<(List.length x))/\
 (yn [(List.getD x (Int.toNat s) ((0:Int),((0:Int),(0:Int)))).1,(List.getD x (Int.toNat s) ((0:Int),((0:Int),(0:Int)))).2.1,(List.getD x (Int.toNat s) ((0:Int),((0:Int),(0:Int)))).2.2])))))
def Ew (x:(List I3)) (s:Int):Tr (Int⊕(Unit⊕Unit)) true:=
 (.i10 (s<(nL x))
 (.bO s x
 (.fn An [(gT x s eE).1,(gT x s eE).2.1,(gT x s eE).2.2] fun y=>
 (.fu (!y)
 (.ret (.inr (Sum.inl ())))
 (.ret (.inl (w1 s))))))
 (.ret (.inr (Sum.inr (())))))
def Ra (x:(List I3)):Bool:=
 (ai (run (l9 x) (0:Int)) fun r=>
 (Sum.elim (fun a=>
 false) (fun b=>
 true) r))
def rF (x:(List I3)):Prop:=
 (Term (l9 x) (yW x) (0:Int))
def Xb (x:(List I3)):Tr Bool true:=
 (aI.lp (Mf x) (Ew x) z0 fun r=>
 (.Hj r (fun a=>
 (.ret false)) (fun b=>
 (.ret true))))
abbrev Bu:dS:=⟨(.one (Ty.sl bz)),(.one Ty.bool),rF,Ra⟩
theorem Ui:ak Tryz.prog 140 (av Bu):=ak.tr Bu Xb (fn:=Tryz.f140) aC sr mixed (by kernel_rfl) (aA.nil _ _) (fun x=>(aB.tr aC (ah.c8 sr (aA.nil _ _)) mixed 0 (Mf x) (Ew x) aB.nil (by kernel_rfl) fun g s Q=>(by kernel_rfl))) (fun x=>(by kernel_rfl)) fun x Q=>(by kernel_rfl)
def MS:List (Nat×Ev.Spec):=(140,av Bu)::JA
theorem CD:ah Tryz.prog MS:=ah.add (fn:=Tryz.f140) (by kernel_rfl) Ui sr
def qp (x:I3):I3:=
 x
def JM (_:I3):Prop:=True
def Pq (x:I3):Tr I3 false:=
 (.ret x)
abbrev kB:dS:=⟨(.agg bz),(.agg bz),JM,qp⟩
theorem Lz:ak Tryz.prog 141 (av kB):=ak.tr kB Pq (fn:=Tryz.f141) aC CD mixed (by kernel_rfl) (aA.nil _ _) (fun x=>aB.nil) (fun x=>(by kernel_rfl)) fun x Q=>(by kernel_rfl)
def CQ:List (Nat×Ev.Spec):=(141,av kB)::MS
theorem tT:ah Tryz.prog CQ:=ah.add (fn:=Tryz.f141) (by kernel_rfl) Lz CD
def xw (x:I3):I3:=
 x
def JN (_:I3):Prop:=True
def Pr (x:I3):Tr I3 false:=
 (.ret x)
abbrev o9:dS:=⟨(.agg bz),(.agg bz),JN,xw⟩
theorem LA:ak Tryz.prog 142 (av o9):=ak.tr o9 Pr (fn:=Tryz.f142) aC tT mixed (by kernel_rfl) (aA.nil _ _) (fun x=>aB.nil) (fun x=>(by kernel_rfl)) fun x Q=>(by kernel_rfl)
def CR:List (Nat×Ev.Spec):=(142,av o9)::CQ
theorem oB:ah Tryz.prog CR:=ah.add (fn:=Tryz.f142) (by kernel_rfl) LA tT
def zA (x:(I3×I3)):I3:=
 (ai (Ra [x.1,x.2]) fun y=>
 (if ((!y)=true) then
 ((0:Int),((0:Int),(0:Int))) else
 (ai (qp x.1) fun aq=>
 (ai (qp x.2) fun y_2=>
 (ai (xw ((ae (aq.1- y_2.1)),((ae (aq.2.1- y_2.2.1)),(ae (aq.2.2- y_2.2.2))))) fun au=>
 au)))))
def o7 (x:(I3×I3)):Prop:=
 (rF [x.1,x.2])
def Vr (x:(I3×I3)):Tr I3 true:=
 (.fn Bu [x.1,x.2] fun y=>
 (.fu (!y)
 (.ret eE)
 (.fn0 kB x.1 trivial fun aq=>
 (.fn0 kB x.2 trivial fun y_2=>
 (.fn0 o9 ((ae (aq.1- y_2.1)),((ae (aq.2.1- y_2.2.1)),(ae (aq.2.2- y_2.2.2)))) trivial fun au=>
 (.ret au))))))
abbrev tq:dS:=⟨(.pair (.agg bz) (.agg bz)),(.agg bz),o7,zA⟩
theorem SN:ak Tryz.prog 109 (av tq):=ak.tr tq Vr (fn:=Tryz.f109) aC oB mixed (by kernel_rfl) (aA.nil _ _) (fun x=>(aB.xq aC (ah.c8 oB (aA.nil _ _)) mixed 0 4 aB.nil (by kernel_rfl))) (fun x=>(by kernel_rfl)) fun x Q=>(by kernel_rfl)
def Jz:List (Nat×Ev.Spec):=(109,av tq)::CR
theorem sq:ah Tryz.prog Jz:=ah.add (fn:=Tryz.f109) (by kernel_rfl) SN oB
def zS (x:(I3×I3)):(I3×Int):=
 (ai (Ra [x.1,x.2]) fun y=>
 (if ((!y)=true) then
 (((0:Int),((0:Int),(0:Int))),(5:Int)) else
 (ai (qp x.1) fun aq=>
 (ai (qp x.2) fun y_2=>
 (ai (xw ((ae ((ae (aq.2.1*y_2.2.2))- (ae (aq.2.2*y_2.2.1)))),((ae ((ae (aq.2.2*y_2.1))- (ae (aq.1*y_2.2.2)))),(ae ((ae (aq.1*y_2.2.1))- (ae (aq.2.1*y_2.1))))))) fun au=>
 (au,(0:Int)))))))
def qR (x:(I3×I3)):Prop:=
 (rF [x.1,x.2])
def Nz (x:(I3×I3)):Tr (I3×Int) true:=
 (.fn Bu [x.1,x.2] fun y=>
 (.fu (!y)
 (.ret (eE,(5:Int)))
 (.fn0 kB x.1 trivial fun aq=>
 (.fn0 kB x.2 trivial fun y_2=>
 (.fn0 o9 ((ae ((ae (aq.2.1*y_2.2.2))- (ae (aq.2.2*y_2.2.1)))),((ae ((ae (aq.2.2*y_2.1))- (ae (aq.1*y_2.2.2)))),(ae ((ae (aq.1*y_2.2.1))- (ae (aq.2.1*y_2.1)))))) trivial fun au=>
 (.ret (au,z0)))))))
abbrev sH:dS:=⟨(.pair (.agg bz) (.agg bz)),(.pair (.agg bz) (.one yi)),qR,zS⟩
theorem Ka:ak Tryz.prog 163 (av sH):=ak.tr sH Nz (fn:=Tryz.f163) aC sq mixed (by kernel_rfl) (aA.nil _ _) (fun x=>(aB.xq aC (ah.c8 sq (aA.nil _ _)) mixed 0 4 aB.nil (by kernel_rfl))) (fun x=>(by kernel_rfl)) fun x Q=>(by kernel_rfl)
def Cx:List (Nat×Ev.Spec):=(163,av sH)::Jz
theorem tQ:ah Tryz.prog Cx:=ah.add (fn:=Tryz.f163) (by kernel_rfl) Ka sq
def RF (x:I9):(I3×Int):=
 (ai (cJ [x.1,x.2.1,x.2.2]) fun y=>
 (if ((!y)=true) then
 (((0:Int),((0:Int),(0:Int))),(5:Int)) else
 (ai (zA (x.2.1,x.1)) fun aq=>
 (ai (zA (x.2.2,x.1)) fun y_2=>
 (ai (zS (aq,y_2)) fun au=>
 au)))))
def x4 (x:I9):Prop:=
 ((b9 [x.1,x.2.1,x.2.2])/\
 az (cJ [x.1,x.2.1,x.2.2]) fun y=>
 (¬((!y)=true)->
 ((o7 (x.2.1,x.1))/\
 az (zA (x.2.1,x.1)) fun aq=>
 ((o7 (x.2.2,x.1))/\
 az (zA (x.2.2,x.1)) fun y_2=>
 (qR (aq,y_2))))))
def UE (x:I9):Tr (I3×Int) true:=
 (.fn dg [x.1,x.2.1,x.2.2] fun y=>
 (.nY (!y)
 (.ret (eE,(5:Int)))
 (.fn tq (x.2.1,x.1) fun aq=>
 (.fn tq (x.2.2,x.1) fun y_2=>
 (.fn sH (aq,y_2) fun au=>
 (.ret au))))))
abbrev Af:dS:=⟨(.agg bP),(.pair (.agg bz) (.one yi)),x4,RF⟩
theorem RG:ak Tryz.prog 139 (av Af):=ak.tr Af UE (fn:=Tryz.f139) aC tQ mixed (by kernel_rfl) (aA.nil _ _) (fun x=>aB.nil) (fun x=>(by kernel_rfl)) fun x Q=>(by kernel_rfl)
def Jq:List (Nat×Ev.Spec):=(139,av Af)::Cx
theorem zq:ah Tryz.prog Jq:=ah.add (fn:=Tryz.f139) (by kernel_rfl) RG tQ
def vS (x:I9):(I3×Int):=
 (ai (RF x) fun y=>
 y)
def nO (x:I9):Prop:=
 (x4 x)
def OL (x:I9):Tr (I3×Int) true:=
 (.fn Af x fun y=>
 (.ret y))
abbrev s9:dS:=⟨(.pair (.agg bz) (.pair (.agg bz) (.agg bz))),(.pair (.agg bz) (.one yi)),nO,vS⟩
theorem K3:ak Tryz.prog 108 (av s9):=ak.tr s9 OL (fn:=Tryz.f108) aC zq mixed (by kernel_rfl) (aA.nil _ _) (fun x=>aB.nil) (fun x=>(by kernel_rfl)) fun x Q=>(by kernel_rfl)
def CI:List (Nat×Ev.Spec):=(108,av s9)::Jq
theorem tR:ah Tryz.prog CI:=ah.add (fn:=Tryz.f108) (by kernel_rfl) K3 zq
def DO (x:(I3×I9)):I2:=
 (ai (vS (x.1,(x.2.1,x.2.2.1))) fun y=>
 (if ((y.2 !=(0:Int))=true) then
 ((0:Int),(5:Int)) else
 (ai (cJ [x.2.2.2]) fun aq=>
 (if ((!aq)=true) then
 ((0:Int),(5:Int)) else
 (ai (zA (x.2.2.2,x.1)) fun y_2=>
 ((ae ((ae ((ae (y.1.1*y_2.1))+(ae (y.1.2.1*y_2.2.1))))+(ae (y.1.2.2*y_2.2.2)))),(0:Int)))))))
def ng (x:(I3×I9)):Prop:=
 ((nO (x.1,(x.2.1,x.2.2.1)))/\
 az (vS (x.1,(x.2.1,x.2.2.1))) fun y=>
 (¬((y.2 !=(0:Int))=true)->
 ((b9 [x.2.2.2])/\
 az (cJ [x.2.2.2]) fun aq=>
 (¬((!aq)=true)->
 (o7 (x.2.2.2,x.1))))))
def XL (x:(I3×I9)):Tr I2 true:=
 (.fn s9 (x.1,(x.2.1,x.2.2.1)) fun y=>
 (.nY (y.2 !=z0)
 (.ret (z0,(5:Int)))
 (.fn dg [x.2.2.2] fun aq=>
 (.nY (!aq)
 (.ret (z0,(5:Int)))
 (.fn tq (x.2.2.2,x.1) fun y_2=>
 (.ret ((ae ((ae ((ae (y.1.1*y_2.1))+(ae (y.1.2.1*y_2.2.1))))+(ae (y.1.2.2*y_2.2.2)))),z0)))))))
abbrev uZ:dS:=⟨(.pair (.agg bz) (.pair (.agg bz) (.pair (.agg bz) (.agg bz)))),(.pair (.one yi) (.one yi)),ng,DO⟩
theorem VA:ak Tryz.prog 76 (av uZ):=ak.tr uZ XL (fn:=Tryz.f76) aC tR mixed (by kernel_rfl) (aA.nil _ _) (fun x=>aB.nil) (fun x=>(by kernel_rfl)) fun x Q=>(by kernel_rfl)
def M1:List (Nat×Ev.Spec):=(76,av uZ)::CI
theorem CP:ah Tryz.prog M1:=ah.add (fn:=Tryz.f76) (by kernel_rfl) VA tR
def Cn (x:(I3×I9)):I2:=
 (ai (DO (x.2.1,(x.2.2.1,(x.2.2.2,x.1)))) fun y=>
 (ai (compare (y.1,(0:Int))) fun aq=>
 (aq,y.2)))
def tn (x:(I3×I9)):Prop:=
 (ng (x.2.1,(x.2.2.1,(x.2.2.2,x.1))))
def Vo (x:(I3×I9)):Tr I2 true:=
 (.fn uZ (x.2.1,(x.2.2.1,(x.2.2.2,x.1))) fun y=>
 (.fn0 dZ (y.1,z0) trivial fun aq=>
 (.ret (aq,y.2))))
abbrev wE:dS:=⟨(.pair (.agg bz) (.agg bP)),(.pair (.one yi) (.one yi)),tn,Cn⟩
theorem Sq:ak Tryz.prog 75 (av wE):=ak.tr wE Vo (fn:=Tryz.f75) aC CP mixed (by kernel_rfl) (aA.nil _ _) (fun x=>aB.nil) (fun x=>(by kernel_rfl)) fun x Q=>(by kernel_rfl)
def Jw:List (Nat×Ev.Spec):=(75,av wE)::M1
theorem zy:ah Tryz.prog Jw:=ah.add (fn:=Tryz.f75) (by kernel_rfl) Sq CP
def DC (x:Int):Bool:=
 (decide (x>=(0:Int)))
def Ue (_:Int):Prop:=True
def Za (x:Int):Tr Bool false:=
 (.ret (decide (x>=z0)))
abbrev Mc:dS:=⟨(.one yi),(.one Ty.bool),Ue,DC⟩
theorem W5:ak Tryz.prog 77 (av Mc):=ak.tr Mc Za (fn:=Tryz.f77) aC zy mixed (by kernel_rfl) (aA.nil _ _) (fun x=>aB.nil) (fun x=>(by kernel_rfl)) fun x Q=>(by kernel_rfl)
def SG:List (Nat×Ev.Spec):=(77,av Mc)::Jw
theorem Fc:ah Tryz.prog SG:=ah.add (fn:=Tryz.f77) (by kernel_rfl) W5 zy
def Qz (x:Int):Bool:=
 (decide (x<=(0:Int)))
def N0 (_:Int):Prop:=True
def TU (x:Int):Tr Bool false:=
 (.ret (decide (x<=z0)))
abbrev zZ:dS:=⟨(.one yi),(.one Ty.bool),N0,Qz⟩
theorem QA:ak Tryz.prog 78 (av zZ):=ak.tr zZ TU (fn:=Tryz.f78) aC Fc mixed (by kernel_rfl) (aA.nil _ _) (fun x=>aB.nil) (fun x=>(by kernel_rfl)) fun x Q=>(by kernel_rfl)
def Jh:List (Nat×Ev.Spec):=(78,av zZ)::SG
theorem sg:ah Tryz.prog Jh:=ah.add (fn:=Tryz.f78) (by kernel_rfl) QA Fc
def LM (x:(Bool×(List Int))):aI:=⟨[],⟨cA 18 0 [(0,.v (.one (.jS 77 0 []))),(7,.v (.one (.full 0))),(8,.v (.one (.i .i64))),(9,.v (.one (.i .i64)))],[.row yi 0],0,none,[],[0,2],[1],[.i],[.i (x.2.length:Int),.l yi x.2]⟩,[⟨.ret,.ret,⟨cA 18 0 [(4,.v (.one (.b)))],[],0,none,[],[0],[],[],[.b false]⟩⟩,⟨(.exit 0),.normal,⟨cA 18 0 [],[],0,none,[],[],[],[],[]⟩⟩]⟩
def l6 (x:(Bool×(List Int))) (s:Int):Int⊕(Unit⊕Unit):=
 (if (s<(x.2.length:Int)) then
 (ai (DC (List.getD x.2 (Int.toNat s) (0:Int))) fun y=>
 (if ((!y)=true) then
 (Sum.inr (Sum.inl ())) else
 (Sum.inl (ae (s+(1:Int)))))) else
 (Sum.inr (Sum.inr (()))))
def yy (x:(Bool×(List Int))) (s:Int):Prop:=
 ((s<(x.2.length:Int))->
 ((((0:Int)<=s)/\ (s<(x.2.length:Int)))/\
 (((Int.toNat s)<(List.length x.2))/\
 ((Int.toNat s)<(List.length x.2)))))
def DU (x:(Bool×(List Int))) (s:Int):Tr (Int⊕(Unit⊕Unit)) true:=
 (.i10 (s<(nL x.2))
 (.bO s x.2
 (.fn0 Mc (gI x.2 s) trivial fun y=>
 (.fu (!y)
 (.ret (.inr (Sum.inl ())))
 (.ret (.inl (w1 s))))))
 (.ret (.inr (Sum.inr (())))))
def Tt (x:(Bool×(List Int))):Bool:=
 (ai (run (l6 x) (0:Int)) fun r=>
 (Sum.elim (fun a=>
 false) (fun b=>
 true) r))
def AE (x:(Bool×(List Int))):Prop:=
 (Term (l6 x) (yy x) (0:Int))
def Wk (x:(Bool×(List Int))):Tr Bool true:=
 (aI.lp (LM x) (DU x) z0 fun r=>
 (.Hj r (fun a=>
 (.ret false)) (fun b=>
 (.ret true))))
abbrev AB:dS:=⟨(.pair (.jS 77 .none) (.one (Ty.sl yi))),(.one Ty.bool),AE,Tt⟩
theorem LN:ak Tryz.prog 79 (av AB):=ak.tr AB Wk (fn:=Tryz.f79) aC sg mixed (by kernel_rfl) (aA.nil _ _) (fun x=>(aB.tr aC (ah.c8 sg (aA.nil _ _)) mixed 0 (LM x) (DU x) aB.nil (by kernel_rfl) fun g s Q=>(by kernel_rfl))) (fun x=>(by kernel_rfl)) fun x Q=>(by kernel_rfl)
def MI:List (Nat×Ev.Spec):=(79,av AB)::Jh
theorem uP:ah Tryz.prog MI:=ah.add (fn:=Tryz.f79) (by kernel_rfl) LN sg
def LL (x:(Bool×(List Int))):aI:=⟨[],⟨cA 18 0 [(0,.v (.one (.jS 78 0 []))),(7,.v (.one (.full 0))),(8,.v (.one (.i .i64))),(9,.v (.one (.i .i64)))],[.row yi 0],0,none,[],[0,2],[1],[.i],[.i (x.2.length:Int),.l yi x.2]⟩,[⟨.ret,.ret,⟨cA 18 0 [(4,.v (.one (.b)))],[],0,none,[],[0],[],[],[.b false]⟩⟩,⟨(.exit 0),.normal,⟨cA 18 0 [],[],0,none,[],[],[],[],[]⟩⟩]⟩
def l5 (x:(Bool×(List Int))) (s:Int):Int⊕(Unit⊕Unit):=
 (if (s<(x.2.length:Int)) then
 (ai (Qz (List.getD x.2 (Int.toNat s) (0:Int))) fun y=>
 (if ((!y)=true) then
 (Sum.inr (Sum.inl ())) else
 (Sum.inl (ae (s+(1:Int)))))) else
 (Sum.inr (Sum.inr (()))))
def yx (x:(Bool×(List Int))) (s:Int):Prop:=
 ((s<(x.2.length:Int))->
 ((((0:Int)<=s)/\ (s<(x.2.length:Int)))/\
 (((Int.toNat s)<(List.length x.2))/\
 ((Int.toNat s)<(List.length x.2)))))
def DT (x:(Bool×(List Int))) (s:Int):Tr (Int⊕(Unit⊕Unit)) true:=
 (.i10 (s<(nL x.2))
 (.bO s x.2
 (.fn0 zZ (gI x.2 s) trivial fun y=>
 (.fu (!y)
 (.ret (.inr (Sum.inl ())))
 (.ret (.inl (w1 s))))))
 (.ret (.inr (Sum.inr (())))))
def Wi (x:(Bool×(List Int))):Bool:=
 (ai (run (l5 x) (0:Int)) fun r=>
 (Sum.elim (fun a=>
 false) (fun b=>
 true) r))
def AA (x:(Bool×(List Int))):Prop:=
 (Term (l5 x) (yx x) (0:Int))
def Wj (x:(Bool×(List Int))):Tr Bool true:=
 (aI.lp (LL x) (DT x) z0 fun r=>
 (.Hj r (fun a=>
 (.ret false)) (fun b=>
 (.ret true))))
abbrev Az:dS:=⟨(.pair (.jS 78 .none) (.one (Ty.sl yi))),(.one Ty.bool),AA,Wi⟩
theorem Ts:ak Tryz.prog 79 (av Az):=ak.tr Az Wj (fn:=Tryz.f79) aC uP mixed (by kernel_rfl) (aA.nil _ _) (fun x=>(aB.tr aC (ah.c8 uP (aA.nil _ _)) mixed 0 (LL x) (DT x) aB.nil (by kernel_rfl) fun g s Q=>(by kernel_rfl))) (fun x=>(by kernel_rfl)) fun x Q=>(by kernel_rfl)
def MH:List (Nat×Ev.Spec):=(79,vj Az.p (av Az) (av AB))::MI
theorem uO:ah Tryz.prog MH:=ah.add (fn:=Tryz.f79) (by kernel_rfl) (uc Ts (LN)) uP
def Dz (x:(I3×(I3×I9))):(Bool×Int):=
 (ai (cJ [x.1,x.2.1]) fun y=>
 (if ((!y)=true) then
 (false,(5:Int)) else
 (ai (cJ [x.2.2.1,x.2.2.2.1,x.2.2.2.2]) fun aq=>
 (if ((!aq)=true) then
 (false,(5:Int)) else
 (ai (Cn (x.1,x.2.2)) fun y_2=>
 (ai (Cn x.2) fun au=>
 (if ((ae (y_2.1*au.1))>=(0:Int)) then
 (false,(0:Int)) else
 (ai (DO (x.1,(x.2.1,(x.2.2.1,x.2.2.2.1)))) fun aG=>
 (ai (DO (x.1,(x.2.1,x.2.2.2))) fun cu=>
 (ai (DO (x.1,(x.2.1,(x.2.2.2.2,x.2.2.1)))) fun qD=>
 (ai (Tt (false,[aG.1,cu.1,qD.1])) fun oE=>
 (if (oE=true) then
 (true,(0:Int)) else
 (ai (Wi (false,[aG.1,cu.1,qD.1])) fun Ta=>
 (Ta,(0:Int)))))))))))))))
def mO (x:(I3×(I3×I9))):Prop:=
 ((b9 [x.1,x.2.1])/\
 az (cJ [x.1,x.2.1]) fun y=>
 (¬((!y)=true)->
 ((b9 [x.2.2.1,x.2.2.2.1,x.2.2.2.2])/\
 az (cJ [x.2.2.1,x.2.2.2.1,x.2.2.2.2]) fun aq=>
 (¬((!aq)=true)->
 ((tn (x.1,x.2.2))/\
 az (Cn (x.1,x.2.2)) fun y_2=>
 ((tn x.2)/\
 az (Cn x.2) fun au=>
 (¬((ae (y_2.1*au.1))>=(0:Int))->
 ((ng (x.1,(x.2.1,(x.2.2.1,x.2.2.2.1))))/\
 az (DO (x.1,(x.2.1,(x.2.2.1,x.2.2.2.1)))) fun aG=>
 ((ng (x.1,(x.2.1,x.2.2.2)))/\
 az (DO (x.1,(x.2.1,x.2.2.2))) fun cu=>
 ((ng (x.1,(x.2.1,(x.2.2.2.2,x.2.2.1))))/\
 az (DO (x.1,(x.2.1,(x.2.2.2.2,x.2.2.1)))) fun qD=>
 ((AE (false,[aG.1,cu.1,qD.1]))/\
 az (Tt (false,[aG.1,cu.1,qD.1])) fun oE=>
 (¬(oE=true)->
 (AA (false,[aG.1,cu.1,qD.1]))))))))))))))
def WU (x:(I3×(I3×I9))):Tr (Bool×Int) true:=
 (.fn dg [x.1,x.2.1] fun y=>
 (.nY (!y)
 (.ret (false,(5:Int)))
 (.fn dg [x.2.2.1,x.2.2.2.1,x.2.2.2.2] fun aq=>
 (.nY (!aq)
 (.ret (false,(5:Int)))
 (.fn wE (x.1,x.2.2) fun y_2=>
 (.fn wE x.2 fun au=>
 (.Di ((ae (y_2.1*au.1))>=z0)
 (.ret (false,z0))
 (.fn uZ (x.1,(x.2.1,(x.2.2.1,x.2.2.2.1))) fun aG=>
 (.fn uZ (x.1,(x.2.1,x.2.2.2)) fun cu=>
 (.fn uZ (x.1,(x.2.1,(x.2.2.2.2,x.2.2.1))) fun qD=>
 (.fn AB (false,[aG.1,cu.1,qD.1]) fun oE=>
 (.nY oE
 (.ret (true,z0))
 (.fn Az (false,[aG.1,cu.1,qD.1]) fun Ta=>
 (.ret (Ta,z0)))))))))))))))
abbrev Bl:dS:=⟨(.pair (.agg bz) (.pair (.agg bz) (.agg bP))),(.pair (.one Ty.bool) (.one yi)),mO,Dz⟩
theorem TY:ak Tryz.prog 49 (av Bl):=ak.tr Bl WU (fn:=Tryz.f49) aC uO mixed (by kernel_rfl) (aA.nil _ _) (fun x=>(aB.xq aC (ah.c8 uO (aA.nil _ _)) mixed 0 4 aB.nil (by kernel_rfl))) (fun x=>(by kernel_rfl)) fun x Q=>(by kernel_rfl)
def MQ:List (Nat×Ev.Spec):=(49,av Bl)::MH
theorem CC:ah Tryz.prog MQ:=ah.add (fn:=Tryz.f49) (by kernel_rfl) TY uO
end Go.Proofs.YtlkgabjhkfhgaaaGreat
