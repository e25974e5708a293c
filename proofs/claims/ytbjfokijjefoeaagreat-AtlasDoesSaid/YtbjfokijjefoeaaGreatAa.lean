/- Models of functions of layer 17. -/
import Derived.Test.YtbjfokijjefoeaaGreatTt
noncomputable section
set_option linter.unusedSectionVars false
set_option linter.unusedVariables false
set_option linter.unusedSimpArgs false
namespace Go.Proofs.YtbjfokijjefoeaaGreat
open Go Go.Ev Go.Proofs
def I9 (x:(List Int)):aB:=⟨[],⟨bB 18 0 [(5,.v (.one (.full 0))),(6,.v (.one (.i .i64))),(7,.v (.one (.i .i64)))],[.row yi 0],0,none,[],[0,2],[1],[.i],[.i (x.length:Int),.l yi x]⟩,[⟨.ret,.ret,⟨bB 18 0 [(2,.v (.one (.b)))],[],0,none,[],[0],[],[],[.b false]⟩⟩,⟨(.exit 0),.normal,⟨bB 18 0 [],[],0,none,[],[],[],[],[]⟩⟩]⟩
def iw (x:(List Int)) (s:Int):Int⊕(Unit⊕Unit):=
 (if (s<(x.length:Int)) then
 (if ((x.getD s.toNat 0)<1) then
 (Sum.inr (Sum.inl ())) else
 (if ((x.getD s.toNat 0)>256) then
 (Sum.inr (Sum.inl ())) else
 (Sum.inl (az (s+1))))) else
 (Sum.inr (Sum.inr (()))))
def qt (x:(List Int)) (s:Int):Prop:=
 ((s<(x.length:Int))->
 (((0<=s)/\ (s<(x.length:Int)))/\
 ((s.toNat<x.length)/\
 (s.toNat<x.length))))
def Cu (x:(List Int)) (s:Int):Tr (Int⊕(Unit⊕Unit)) true:=
 (.i10 (s<(nL x))
 (.gK s x
 (.o7 ((gI x s)<z1)
 (.ret (.inr (Sum.inl ())))
 (.o7 ((gI x s)>256)
 (.ret (.inr (Sum.inl ())))
 (.ret (.inl (w1 s))))))
 (.ret (.inr (Sum.inr (())))))
def uQ (x:(List Int)):Bool:=
 (ai (run (iw x) 0) fun r=>
 (Sum.elim (fun a=>
 false) (fun b=>
 true) r))
def rf (x:(List Int)):Prop:=
 (Term (iw x) (qt x) 0)
def Xs (x:(List Int)):Tr Bool true:=
 (aB.lp (I9 x) (Cu x) z0 fun r=>
 (.xW r (fun a=>
 (.ret false)) (fun b=>
 (.ret true))))
abbrev sX:cC:=⟨(.one (Ty.sl yi)),(.one Ty.bool),rf,uQ⟩
theorem Tv:ah Tryz.prog 47 (aj sX):=ah.tr sX Xs (fn:=Tryz.f47) ay (ae.nil _) mixed (by kernel_rfl) (av.nil _ _) (fun x=>(au.tr ay (ae.bS (ae.nil _) (av.nil _ _)) mixed 0 (I9 x) (Cu x) au.nil (by kernel_rfl) fun g s Q=>(by kernel_rfl))) (fun x=>(by kernel_rfl)) fun x Q=>(by kernel_rfl)
def IZ:List (Nat×Ev.Spec):=(47,aj sX):: []
theorem rV:ae Tryz.prog IZ:=ae.add (fn:=Tryz.f47) (by kernel_rfl) Tv (ae.nil _)
def T9 (x:(List Int)):aB:=⟨[],⟨bB 25 0 [(0,.v (.one (.full 0))),(3,.v (.one (.i .i64))),(4,.v (.one (.i .i64)))],[.row yi 0],0,none,[],[2],[0,1],[.i,.i],[.l yi x]⟩,[⟨(.exit 0),.normal,⟨bB 25 0 [(3,.v (.one (.i .i64)))],[],0,none,[],[],[0],[.i],[]⟩⟩]⟩
def lF (x:(List Int)) (s:I2):I2⊕Int:=
 (if (s.2<(x.length:Int)) then
 (Sum.inl ((bp s.1 (x.getD s.2.toNat 0)),(az (s.2+1)))) else
 (Sum.inr (s.1)))
def qN (x:(List Int)) (s:I2):Prop:=
 ((s.2<(x.length:Int))->
 (((0<=s.2)/\ (s.2<(x.length:Int)))/\
 ((s.2.toNat<x.length)/\
 (s.2.toNat<x.length))))
def KL (x:(List Int)) (s:I2):Tr (I2⊕Int) true:=
 (.i10 (s.2<(nL x))
 (.gK s.2 x
 (.ret (.inl ((bp s.1 (gI x s.2)),(w1 s.2)))))
 (.ret (.inr (s.1))))
def Wf (x:(List Int)):Int:=
 (if ((x.length:Int)<1) then
 default else
 (ai (run (lF x) ((x.getD 0 0),1)) fun r=>
 r))
def v8 (x:(List Int)):Prop:=
 ((((x.length:Int)<1)->
 False)/\
 (¬((x.length:Int)<1)->
 ((0<(x.length:Int))/\
 ((0<x.length)/\
 ((0<x.length)/\
 (Term (lF x) (qN x) ((x.getD 0 0),1)))))))
def aek (x:(List Int)):Tr Int true:=
 (.i11 ((nL x)<z1)
 (.og false False False.elim (.ret default))
 (.og (true&&(decide (z0<(nL x)))) (z0<(nL x)) (fun h=>(cX rfl (decide_eq_true h)))
 (.od (0<x.length)
 (.od (0<x.length)
 (aB.lp (T9 x) (KL x) ((x.getD 0 z0),z1) fun r=>
 (.ret r))))))
abbrev M4:cC:=⟨(.one (Ty.sl yi)),(.one yi),v8,Wf⟩
theorem abN:ah Tryz.prog 76 (aj M4):=ah.tr M4 aek (fn:=Tryz.f76) ay rV mixed (by kernel_rfl) (av.nil _ _) (fun x=>(au.tr ay (ae.bS rV (av.nil _ _)) mixed 0 (T9 x) (KL x) au.nil (by kernel_rfl) fun g s Q=>(by kernel_rfl))) (fun x=>(by kernel_rfl)) fun x Q=>(by kernel_rfl)
def UM:List (Nat×Ev.Spec):=(76,aj M4)::IZ
theorem zV:ae Tryz.prog UM:=ae.add (fn:=Tryz.f76) (by kernel_rfl) abN rV
def Qd (x:(List Int×I3)):aB:=⟨[],⟨bB 55 0 [(0,.v (.one (.full 0))),(1,.v (.one (.i .i64))),(2,.v (.one (.i .i64))),(3,.v (.one (.i .i64))),(11,.v (.one (.i .i64))),(12,.v (.one (.i .i64))),(13,.v (.one (.b))),(21,.v (.one (.i .i64))),(22,.v (.one (.i .i64)))],[.row yi 0],0,none,[],[0,1,2,6,8],[3,4,5,7],[.i,.i,.b,.i],[.i x.2.1,.i x.2.2.1,.i x.2.2.2,.i (bp (az ((az ((x.1.length:Int)- x.2.1))+1)) 0),.l yi x.1]⟩,[⟨(.exit 0),.normal,⟨bB 55 0 [(11,.v (.one (.i .i64))),(12,.v (.one (.i .i64))),(13,.v (.one (.b)))],[],0,none,[],[],[0,1,2],[.i,.i,.b],[]⟩⟩]⟩
def iJ (x:(List Int×I3)) (s:(Int×Int×Bool×Int)):(Int×Int×Bool×Int)⊕(Int×Int×Bool):=
 (if (s.2.2.2<(bp (az ((az ((x.1.length:Int)- x.2.1))+1)) 0)) then
 (ai (Wf (List.take ((Int.toNat (az (s.2.2.2+x.2.1)))- s.2.2.2.toNat) (List.drop s.2.2.2.toNat x.1))) fun y=>
 (if ((az (y+x.2.2.1))<=x.2.2.2) then
 (if ((!s.2.2.1)=true) then
 (Sum.inl (s.2.2.2,y,true,(az (s.2.2.2+1)))) else
 (if (y<s.2.1) then
 (Sum.inl (s.2.2.2,y,true,(az (s.2.2.2+1)))) else
 (Sum.inl (s.1,s.2.1,s.2.2.1,(az (s.2.2.2+1)))))) else
 (Sum.inl (s.1,s.2.1,s.2.2.1,(az (s.2.2.2+1)))))) else
 (Sum.inr ((s.1,s.2.1,s.2.2.1))))
def pF (x:(List Int×I3)) (s:(Int×Int×Bool×Int)):Prop:=
 ((s.2.2.2<(bp (az ((az ((x.1.length:Int)- x.2.1))+1)) 0))->
 (((0<=(az (s.2.2.2+x.2.1)))/\ ((az (s.2.2.2+x.2.1))<=(x.1.length:Int)))/\
 (((0<=(az (s.2.2.2+x.2.1)))/\ ((az (s.2.2.2+x.2.1))<=(((Int.toNat (az (s.2.2.2+x.2.1))):Nat):Int)))/\
 (((0<=s.2.2.2)/\ (s.2.2.2<=(((Int.toNat (az (s.2.2.2+x.2.1))):Nat):Int)))/\
 (v8 (List.take ((Int.toNat (az (s.2.2.2+x.2.1)))- s.2.2.2.toNat) (List.drop s.2.2.2.toNat x.1)))))))
def Iz (x:(List Int×I3)) (s:(Int×Int×Bool×Int)):Tr ((Int×Int×Bool×Int)⊕(Int×Int×Bool)) true:=
 (.i10 (s.2.2.2<(bp (w1 (az ((nL x.1)- x.2.1))) z0))
 (.og ((decide (z0<=(az (s.2.2.2+x.2.1))))&&(decide ((az (s.2.2.2+x.2.1))<=(nL x.1)))) ((z0<=(az (s.2.2.2+x.2.1)))/\ ((az (s.2.2.2+x.2.1))<=(nL x.1))) (fun h=>(cX (decide_eq_true h.1) (decide_eq_true h.2)))
 (.og ((decide (z0<=(az (s.2.2.2+x.2.1))))&&(decide ((az (s.2.2.2+x.2.1))<=(((tN (az (s.2.2.2+x.2.1))):Nat):Int)))) ((z0<=(az (s.2.2.2+x.2.1)))/\ ((az (s.2.2.2+x.2.1))<=(((tN (az (s.2.2.2+x.2.1))):Nat):Int))) (fun h=>(cX (decide_eq_true h.1) (decide_eq_true h.2)))
 (.og ((decide (z0<=s.2.2.2))&&(decide (s.2.2.2<=(((tN (az (s.2.2.2+x.2.1))):Nat):Int)))) ((z0<=s.2.2.2)/\ (s.2.2.2<=(((tN (az (s.2.2.2+x.2.1))):Nat):Int))) (fun h=>(cX (decide_eq_true h.1) (decide_eq_true h.2)))
 (.fn M4 (List.take ((tN (az (s.2.2.2+x.2.1)))- (tN s.2.2.2)) (List.drop (tN s.2.2.2) x.1)) fun y=>
 (.o7 ((az (y+x.2.2.1))<=x.2.2.2)
 (.nT (!s.2.2.1)
 (.ret (.inl (s.2.2.2,y,true,(w1 s.2.2.2))))
 (.o7 (y<s.2.1)
 (.ret (.inl (s.2.2.2,y,true,(w1 s.2.2.2))))
 (.ret (.inl (s.1,s.2.1,s.2.2.1,(w1 s.2.2.2))))))
 (.ret (.inl (s.1,s.2.1,s.2.2.1,(w1 s.2.2.2)))))))))
 (.ret (.inr ((s.1,s.2.1,s.2.2.1)))))
def BN (x:(List Int×I3)):(Int×Int×Bool):=
 (ai (run (iJ x) (0,0,false,0)) fun r=>
 r)
def xZ (x:(List Int×I3)):Prop:=
 (Term (iJ x) (pF x) (0,0,false,0))
def acr (x:(List Int×I3)):Tr (Int×Int×Bool) true:=
 (aB.lp (Qd x) (Iz x) (z0,z0,false,z0) fun r=>
 (.ret r))
abbrev FN:cC:=⟨(.pair (.one (Ty.sl yi)) (.pair (.one yi) (.pair (.one yi) (.one yi)))),(.pair (.one yi) (.pair (.one yi) (.one Ty.bool))),xZ,BN⟩
theorem aaj:ah Tryz.prog 49 (aj FN):=ah.tr FN acr (fn:=Tryz.f49) ay zV mixed (by kernel_rfl) (av.nil _ _) (fun x=>(au.tr ay (ae.bS zV (av.nil _ _)) mixed 0 (Qd x) (Iz x) au.nil (by kernel_rfl) fun g s Q=>(by kernel_rfl))) (fun x=>(by kernel_rfl)) fun x Q=>(by kernel_rfl)
def Qx:List (Nat×Ev.Spec):=(49,aj FN)::UM
theorem wV:ae Tryz.prog Qx:=ae.add (fn:=Tryz.f49) (by kernel_rfl) aaj zV
def I1 (x:(List Int×I3)):aB:=⟨[.env],⟨bB 20 0 [(0,.v (.one (.full 0))),(1,.v (.one (.i .i64))),(3,.v (.one (.i .i64))),(9,.v (.one (.i .i64))),(10,.v (.one (.i .i64)))],[.row yi 1,.gU 1],2,none,[5],[0,1,2],[4,3],[(.l yi),.i],[.i x.2.1,.i x.2.2.2,.i x.2.2.1]⟩,[⟨(.exit 0),.normal,⟨bB 20 0 [],[.row yi 1,.gU 1],2,none,[1],[],[0],[(.l yi)],[]⟩⟩]⟩
def eW (x:(List Int×I3)) (s:(List Int×Int)):(List Int×Int)⊕(List Int):=
 (if (s.2<x.2.2.1) then
 (ai (List.set s.1 (Int.toNat (az (x.2.1+s.2))) x.2.2.2) fun y=>
 (Sum.inl (y,(az (s.2+1))))) else
 (Sum.inr (s.1)))
def mu (x:(List Int×I3)) (s:(List Int×Int)):Prop:=
 ((s.2<x.2.2.1)->
 (((0<=(az (x.2.1+s.2)))/\ ((az (x.2.1+s.2))<(s.1.length:Int)))/\
 (((Int.toNat (az (x.2.1+s.2)))<s.1.length)/\
 ((Int.toNat (az (x.2.1+s.2)))<s.1.length))))
def Co (x:(List Int×I3)) (s:(List Int×Int)):Tr ((List Int×Int)⊕(List Int)) true:=
 (.i10 (s.2<x.2.2.1)
 (.gK (az (x.2.1+s.2)) s.1
 (.lt (List.set s.1 (tN (az (x.2.1+s.2))) x.2.2.2) fun y=>
 (.ret (.inl (y,(w1 s.2))))))
 (.ret (.inr (s.1))))
def Me (x:(List Int×I3)):(Bool×List Int×Bool×Bool×Bool):=
 (ai (run (eW x) (x.1,0)) fun r=>
 (false,r,false,false,false))
def x7 (x:(List Int×I3)):Prop:=
 (Term (eW x) (mu x) (x.1,0)/\
 aA (run (eW x) (x.1,0)) fun r=>
 (r.length=x.1.length))
def acz (x:(List Int×I3)):Tr (Bool×List Int×Bool×Bool×Bool) true:=
 (aB.lp (I1 x) (Co x) (x.1,z0) fun r=>
 (.pn 0 1
 (.og ((decide (r.length=x.1.length))&&true) (r.length=x.1.length) (fun h=>(cX (decide_eq_true h) rfl))
 (.ret (false,r,false,false,false)))))
abbrev FQ:FnW:=⟨(.pair (.row yi) (.pair (.val (.one yi)) (.pair (.val (.one yi)) (.val (.one yi))))),.none,x7,Me⟩
theorem aax:ah Tryz.prog 50 (lq FQ):=ah.trW FQ acz (fn:=Tryz.f50) ay wV mixed (by kernel_rfl) (av.nil _ _) (fun x=>(au.tr ay (ae.bS wV (av.nil _ _)) mixed 0 (I1 x) (Co x) au.nil (by kernel_rfl) fun g s Q=>(by kernel_rfl))) (fun x=>(by kernel_rfl)) fun x r0 Q=>(by kernel_rfl)
def QA:List (Nat×Ev.Spec):=(50,lq FQ)::Qx
theorem EZ:ae Tryz.prog QA:=ae.add (fn:=Tryz.f50) (by kernel_rfl) aax wV
def Hx (x:I2):Bool:=
 (ai (uQ [x.1,x.2]) fun y=>
 (!y))
def Dd (x:I2):Prop:=
 (rf [x.1,x.2])
def ab4 (x:I2):Tr Bool true:=
 (.fn sX [x.1,x.2] fun y=>
 (.ret (!y)))
abbrev FH:cC:=⟨(.agg aS),(.one Ty.bool),Dd,Hx⟩
theorem Zz:ah Tryz.prog 46 (aj FH):=ah.tr FH ab4 (fn:=Tryz.f46) ay EZ mixed (by kernel_rfl) (av.nil _ _) (fun x=>au.nil) (fun x=>(by kernel_rfl)) fun x Q=>(by kernel_rfl)
def Qp:List (Nat×Ev.Spec):=(46,aj FH)::QA
theorem wO:ae Tryz.prog Qp:=ae.add (fn:=Tryz.f46) (by kernel_rfl) Zz EZ
def Kt (x:(List I2×Bool)):aB:=⟨[],⟨bB 19 0 [(0,.v (.one (.full 0))),(1,.v (.one (.mB 46 0 []))),(7,.v (.one (.i .i64))),(8,.v (.one (.i .i64)))],[.row aS 0],0,none,[],[0,2],[1],[.i],[.i (x.1.length:Int),.l aS x.1]⟩,[⟨.ret,.ret,⟨bB 19 0 [(4,.v (.one (.i .i64)))],[],0,none,[],[],[0],[.i],[]⟩⟩,⟨(.exit 0),.normal,⟨bB 19 0 [],[],0,none,[],[],[],[],[]⟩⟩]⟩
def iX (x:(List I2×Bool)) (s:Int):Int⊕(Int⊕Unit):=
 (if (s<(x.1.length:Int)) then
 (ai (Hx (x.1.getD s.toNat (0,0))) fun y=>
 (if (y=true) then
 (Sum.inr (Sum.inl s)) else
 (Sum.inl (az (s+1))))) else
 (Sum.inr (Sum.inr (()))))
def rH (x:(List I2×Bool)) (s:Int):Prop:=
 ((s<(x.1.length:Int))->
 (((0<=s)/\ (s<(x.1.length:Int)))/\
 ((s.toNat<x.1.length)/\
 ((s.toNat<x.1.length)/\
 (Dd (x.1.getD s.toNat (0,0)))))))
def DQ (x:(List I2×Bool)) (s:Int):Tr (Int⊕(Int⊕Unit)) true:=
 (.i10 (s<(nL x.1))
 (.gK s x.1
 (.fn FH (gT x.1 s iR) fun y=>
 (.nT y
 (.ret (.inr (Sum.inl s)))
 (.ret (.inl (w1 s))))))
 (.ret (.inr (Sum.inr (())))))
def RJ (x:(List I2×Bool)):Int:=
 (ai (run (iX x) 0) fun r=>
 (Sum.elim (fun a=>
 a) (fun b=>
 (-1)) r))
def GO (x:(List I2×Bool)):Prop:=
 (Term (iX x) (rH x) 0)
def YR (x:(List I2×Bool)):Tr Int true:=
 (aB.lp (Kt x) (DQ x) z0 fun r=>
 (.xW r (fun a=>
 (.ret a)) (fun b=>
 (.ret (-1)))))
abbrev AL:cC:=⟨(.pair (.one (Ty.sl aS)) (.mB 46 .none)),(.one yi),GO,RJ⟩
theorem VU:ah Tryz.prog 75 (aj AL):=ah.tr AL YR (fn:=Tryz.f75) ay wO mixed (by kernel_rfl) (av.nil _ _) (fun x=>(au.tr ay (ae.bS wO (av.nil _ _)) mixed 0 (Kt x) (DQ x) au.nil (by kernel_rfl) fun g s Q=>(by kernel_rfl))) (fun x=>(by kernel_rfl)) fun x Q=>(by kernel_rfl)
def LJ:List (Nat×Ev.Spec):=(75,aj AL)::Qp
theorem BZ:ae Tryz.prog LJ:=ae.add (fn:=Tryz.f75) (by kernel_rfl) VU wO
def pL (x:(List I2×Bool)):Bool:=
 (ai (RJ (x.1,false)) fun y=>
 (decide (y>=0)))
def rz (x:(List I2×Bool)):Prop:=
 (GO (x.1,false))
def Od (x:(List I2×Bool)):Tr Bool true:=
 (.fn AL (x.1,false) fun y=>
 (.ret (decide (y>=z0))))
abbrev qC:cC:=⟨(.pair (.one (Ty.sl aS)) (.mB 46 .none)),(.one Ty.bool),rz,pL⟩
theorem MA:ah Tryz.prog 48 (aj qC):=ah.tr qC Od (fn:=Tryz.f48) ay BZ mixed (by kernel_rfl) (av.nil _ _) (fun x=>au.nil) (fun x=>(by kernel_rfl)) fun x Q=>(by kernel_rfl)
def BV:List (Nat×Ev.Spec):=(48,aj qC)::LJ
theorem oJ:ae Tryz.prog BV:=ae.add (fn:=Tryz.f48) (by kernel_rfl) MA BZ
def Um (x:(Int×Int×List I2)):aB:=⟨[],⟨bB 68 0 [(1,.v (.one (.i .i64))),(9,.v (.one (.full 0))),(10,.v (.one (.full 1))),(28,.v (.one (.full 2))),(29,.v (.one (.i .i64))),(30,.v (.one (.i .i64)))],[.row yi 2,.row (Ty.prod yi cq) 2,.row aS 0],0,none,[],[0,1,5],[3,4,2],[(.l yi),(.l (Ty.prod yi cq)),.i],[.i x.2.1,.i (x.2.2.length:Int),.l aS x.2.2]⟩,[⟨.ret,.ret,⟨bB 68 0 [(6,.v (.one (.raw))),(7,.v (.one (.i .i64)))],[],0,none,[],[0,1],[],[],[.v (.slice none 0 0),.i 9]⟩⟩,⟨(.exit 0),.normal,⟨bB 68 0 [(10,.v (.one (.full 0)))],[.row (Ty.prod yi cq) 2],0,none,[],[],[0],[(.l (Ty.prod yi cq))],[]⟩⟩]⟩
def jy (x:(Int×Int×List I2)) (s:(List Int×List (Int×I3)×Int)):(List Int×List (Int×I3)×Int)⊕(Unit⊕(List (Int×I3))):=
 (if (s.2.2<(x.2.2.length:Int)) then
 (ai (BN (s.1,(x.2.2.getD s.2.2.toNat (0,0)).1,(x.2.2.getD s.2.2.toNat (0,0)).2,x.2.1)) fun y=>
 (if ((!y.2.2)=true) then
 (Sum.inr (Sum.inl ())) else
 (ai (Me (s.1,y.1,(x.2.2.getD s.2.2.toNat (0,0)).1,(az (y.2.1+(x.2.2.getD s.2.2.toNat (0,0)).2)))) fun aO=>
 (Sum.inl (aO.2.1,(s.2.1++ [(y.1,y.2.1,(x.2.2.getD s.2.2.toNat (0,0)))]),(az (s.2.2+1))))))) else
 (Sum.inr (Sum.inr (s.2.1))))
def nZ (x:(Int×Int×List I2)) (s:(List Int×List (Int×I3)×Int)):Prop:=
 ((s.2.2<(x.2.2.length:Int))->
 (((0<=s.2.2)/\ (s.2.2<(x.2.2.length:Int)))/\
 ((s.2.2.toNat<x.2.2.length)/\
 ((s.2.2.toNat<x.2.2.length)/\
 ((xZ (s.1,(x.2.2.getD s.2.2.toNat (0,0)).1,(x.2.2.getD s.2.2.toNat (0,0)).2,x.2.1))/\
 aA (BN (s.1,(x.2.2.getD s.2.2.toNat (0,0)).1,(x.2.2.getD s.2.2.toNat (0,0)).2,x.2.1)) fun y=>
 (¬((!y.2.2)=true)->
 ((x7 (s.1,y.1,(x.2.2.getD s.2.2.toNat (0,0)).1,(az (y.2.1+(x.2.2.getD s.2.2.toNat (0,0)).2))))/\
 aA (Me (s.1,y.1,(x.2.2.getD s.2.2.toNat (0,0)).1,(az (y.2.1+(x.2.2.getD s.2.2.toNat (0,0)).2)))) fun aO=>
 ((s.2.1.length+1)<1099511627776))))))))
def KY (x:(Int×Int×List I2)) (s:(List Int×List (Int×I3)×Int)):Tr ((List Int×List (Int×I3)×Int)⊕(Unit⊕(List (Int×I3)))) true:=
 (.i10 (s.2.2<(nL x.2.2))
 (.gK s.2.2 x.2.2
 (.fn FN (s.1,(gT x.2.2 s.2.2 iR).1,(gT x.2.2 s.2.2 iR).2,x.2.1) fun y=>
 (.iK (!y.2.2)
 (.ret (.inr (Sum.inl ())))
 (.fnW FQ (s.1,y.1,(gT x.2.2 s.2.2 iR).1,(az (y.2.1+(gT x.2.2 s.2.2 iR).2))) fun aO=>
 (.od ((s.2.1.length+1)<1099511627776)
 (.ret (.inl (aO.2.1,(s.2.1++ [(y.1,y.2.1,(gT x.2.2 s.2.2 iR))]),(w1 s.2.2)))))))))
 (.ret (.inr (Sum.inr (s.2.1)))))
def pack (x:(Int×Int×List I2)):(List (Int×I3)×Int):=
 (ai (uQ [x.1,x.2.1]) fun y=>
 (if ((!y)=true) then
 ([],1) else
 (ai (pL (x.2.2,false)) fun aO=>
 (if (aO=true) then
 ([],1) else
 (ai (run (jy x) ((List.replicate x.1.toNat (0:Int)),[],(0:Int))) fun r=>
 (Sum.elim (fun a=>
 ([],9)) (fun b=>
 (b,0)) r))))))
def A9 (x:(Int×Int×List I2)):Prop:=
 ((rf [x.1,x.2.1])/\
 aA (uQ [x.1,x.2.1]) fun y=>
 (¬((!y)=true)->
 ((rz (x.2.2,false))/\
 aA (pL (x.2.2,false)) fun aO=>
 (¬(aO=true)->
 ((((0<=x.1)/\ (x.1<=x.1))/\ (x.1.toNat<1099511627776))/\
 (Term (jy x) (nZ x) ((List.replicate x.1.toNat (0:Int)),[],(0:Int))))))))
def aex (x:(Int×Int×List I2)):Tr (List (Int×I3)×Int) true:=
 (.fn sX [x.1,x.2.1] fun y=>
 (.iK (!y)
 (.ret ([],z1))
 (.fn qC (x.2.2,false) fun aO=>
 (.iK aO
 (.ret ([],z1))
 (.og (((decide (z0<=x.1))&&(decide (x.1<=x.1)))&&(decide ((tN x.1)<1099511627776))) (((z0<=x.1)/\ (x.1<=x.1))/\ ((tN x.1)<1099511627776)) (fun h=>(cX (cX (decide_eq_true h.1.1) (decide_eq_true h.1.2)) (decide_eq_true h.2)))
 (aB.lp (Um x) (KY x) ((List.replicate (tN x.1) z0),[],z0) fun r=>
 (.xW r (fun a=>
 (.ret ([],9))) (fun b=>
 (.ret (b,z0))))))))))
abbrev Hs:cC:=⟨(.pair (.one yi) (.pair (.one yi) (.one (Ty.sl aS)))),(.pair (.one (Ty.sl (Ty.prod yi cq))) (.one yi)),A9,pack⟩
theorem Un:ah Tryz.prog 26 (aj Hs):=ah.tr Hs aex (fn:=Tryz.f26) ay oJ mixed (by kernel_rfl) (av.nil _ _) (fun x=>(au.tr ay (ae.bS oJ (av.nil _ _)) mixed 0 (Um x) (KY x) au.nil (by kernel_rfl) fun g s Q=>(by kernel_rfl))) (fun x=>(by kernel_rfl)) fun x Q=>(by kernel_rfl)
def UQ:List (Nat×Ev.Spec):=(26,aj Hs)::BV
theorem II:ae Tryz.prog UQ:=ae.add (fn:=Tryz.f26) (by kernel_rfl) Un oJ
def behind (x:I3):Bool:=
 (if (x.2.2>=x.1) then
 (decide ((IntKind.wrap IntKind.u64 ((IntKind.wrap IntKind.u64 x.2.2)- (IntKind.wrap IntKind.u64 x.1)))>=(IntKind.wrap IntKind.u64 x.2.1))) else
 false)
def QZ (_:I3):Prop:=True
def XR (x:I3):Tr Bool false:=
 (.o7 (x.2.2>=x.1)
 (.ret (decide ((IntKind.wrap IntKind.u64 ((IntKind.wrap IntKind.u64 x.2.2)- (IntKind.wrap IntKind.u64 x.1)))>=(IntKind.wrap IntKind.u64 x.2.1))))
 (.ret false))
abbrev vq:cC:=⟨(.pair (.one yi) (.pair (.one yi) (.one yi))),(.one Ty.bool),QZ,behind⟩
theorem Vf:ah Tryz.prog 98 (aj vq):=ah.tr vq XR (fn:=Tryz.f98) ay II mixed (by kernel_rfl) (av.nil _ _) (fun x=>au.nil) (fun x=>(by kernel_rfl)) fun x Q=>(by kernel_rfl)
def LB:List (Nat×Ev.Spec):=(98,aj vq)::UQ
theorem BS:ae Tryz.prog LB:=ae.add (fn:=Tryz.f98) (by kernel_rfl) Vf II
def Uy (x:(Int×I3)):Bool:=
 (if (x.2.1<=0) then
 true else
 (if (x.2.2.2<=0) then
 true else
 (ai (behind (x.1,x.2.1,x.2.2.1)) fun y=>
 (if (y=true) then
 true else
 (ai (behind (x.2.2.1,x.2.2.2,x.1)) fun aO=>
 aO)))))
def Xl (_:(Int×I3)):Prop:=True
def acs (x:(Int×I3)):Tr Bool false:=
 (.o7 (x.2.1<=z0)
 (.ret true)
 (.o7 (x.2.2.2<=z0)
 (.ret true)
 (.fn0 vq (x.1,x.2.1,x.2.2.1) trivial fun y=>
 (.nT y
 (.ret true)
 (.fn0 vq (x.2.2.1,x.2.2.2,x.1) trivial fun aO=>
 (.ret aO))))))
abbrev BO:cC:=⟨(.pair (.one yi) (.pair (.one yi) (.pair (.one yi) (.one yi)))),(.one Ty.bool),Xl,Uy⟩
theorem aak:ah Tryz.prog 97 (aj BO):=ah.tr BO acs (fn:=Tryz.f97) ay BS mixed (by kernel_rfl) (av.nil _ _) (fun x=>au.nil) (fun x=>(by kernel_rfl)) fun x Q=>(by kernel_rfl)
def Qy:List (Nat×Ev.Spec):=(97,aj BO)::LB
theorem EW:ae Tryz.prog Qy:=ae.add (fn:=Tryz.f97) (by kernel_rfl) aak BS
def NL (x:((Int×I3)×Int×I3)):Bool:=
 (ai (Uy (x.1.1,x.1.2.2.1,x.2.1,x.2.2.2.1)) fun y=>
 (if (y=true) then
 true else
 (ai (Uy (x.1.2.1,x.1.2.2.2,x.2.2.1,x.2.2.2.2)) fun aO=>
 aO)))
def S7 (_:((Int×I3)×Int×I3)):Prop:=True
def aah (x:((Int×I3)×Int×I3)):Tr Bool false:=
 (.fn0 BO (x.1.1,x.1.2.2.1,x.2.1,x.2.2.2.1) trivial fun y=>
 (.nT y
 (.ret true)
 (.fn0 BO (x.1.2.1,x.1.2.2.2,x.2.2.1,x.2.2.2.2) trivial fun aO=>
 (.ret aO))))
abbrev BJ:cC:=⟨(.pair (.agg (Ty.prod yi cq)) (.agg (Ty.prod yi cq))),(.one Ty.bool),S7,NL⟩
theorem Xj:ah Tryz.prog 66 (aj BJ):=ah.tr BJ aah (fn:=Tryz.f66) ay EW mixed (by kernel_rfl) (av.nil _ _) (fun x=>au.nil) (fun x=>(by kernel_rfl)) fun x Q=>(by kernel_rfl)
def Mb:List (Nat×Ev.Spec):=(66,aj BJ)::Qy
theorem Cm:ae Tryz.prog Mb:=ae.add (fn:=Tryz.f66) (by kernel_rfl) Xj EW
def O6 (x:((Int×I3)×Int×I3)):Bool:=
 (ai (NL x) fun y=>
 (!y))
def Zo (_:((Int×I3)×Int×I3)):Prop:=True
def aer (x:((Int×I3)×Int×I3)):Tr Bool false:=
 (.fn0 BJ x trivial fun y=>
 (.ret (!y)))
abbrev M9:cC:=⟨(.pair (.agg (Ty.prod yi cq)) (.ptr (.prod (.int .i64) (.prod (.int .i64) (.prod (.int .i64) (.int .i64)))))),(.one Ty.bool),Zo,O6⟩
theorem abS:ah Tryz.prog 65 (aj M9):=ah.tr M9 aer (fn:=Tryz.f65) ay Cm mixed (by kernel_rfl) (av.nil _ _) (fun x=>au.nil) (fun x=>(by kernel_rfl)) fun x Q=>(by kernel_rfl)
def UO:List (Nat×Ev.Spec):=(65,aj M9)::Mb
theorem zX:ae Tryz.prog UO:=ae.add (fn:=Tryz.f65) (by kernel_rfl) abS Cm
def Ku (x:(List (Int×I3)×Int×I3)):aB:=⟨[],⟨bB 19 0 [(0,.v (.one (.full 0))),(1,.v (.one (.mB 65 0 [.elem 1]))),(7,.v (.one (.i .i64))),(8,.v (.one (.i .i64)))],[.row (Ty.prod yi cq) 0,.row (Ty.prod yi cq) 0],0,none,[],[0,1,3,4],[2],[.i],[.n 0,.i (x.1.length:Int),.l (Ty.prod yi cq) x.1,.l (Ty.prod yi cq) [x.2]]⟩,[⟨.ret,.ret,⟨bB 19 0 [(4,.v (.one (.i .i64)))],[],0,none,[],[],[0],[.i],[]⟩⟩,⟨(.exit 0),.normal,⟨bB 19 0 [],[],0,none,[],[],[],[],[]⟩⟩]⟩
def iY (x:(List (Int×I3)×Int×I3)) (s:Int):Int⊕(Int⊕Unit):=
 (if (s<(x.1.length:Int)) then
 (ai (O6 ((x.1.getD s.toNat (0,0,0,0)),x.2)) fun y=>
 (if (y=true) then
 (Sum.inr (Sum.inl s)) else
 (Sum.inl (az (s+1))))) else
 (Sum.inr (Sum.inr (()))))
def rI (x:(List (Int×I3)×Int×I3)) (s:Int):Prop:=
 ((s<(x.1.length:Int))->
 (((0<=s)/\ (s<(x.1.length:Int)))/\
 ((s.toNat<x.1.length)/\
 (s.toNat<x.1.length))))
def DR (x:(List (Int×I3)×Int×I3)) (s:Int):Tr (Int⊕(Int⊕Unit)) true:=
 (.i10 (s<(nL x.1))
 (.gK s x.1
 (.fn0 M9 ((gT x.1 s (z0,rX)),x.2) trivial fun y=>
 (.nT y
 (.ret (.inr (Sum.inl s)))
 (.ret (.inl (w1 s))))))
 (.ret (.inr (Sum.inr (())))))
def RK (x:(List (Int×I3)×Int×I3)):Int:=
 (ai (run (iY x) 0) fun r=>
 (Sum.elim (fun a=>
 a) (fun b=>
 (-1)) r))
def GQ (x:(List (Int×I3)×Int×I3)):Prop:=
 (Term (iY x) (rI x) 0)
def YS (x:(List (Int×I3)×Int×I3)):Tr Int true:=
 (aB.lp (Ku x) (DR x) z0 fun r=>
 (.xW r (fun a=>
 (.ret a)) (fun b=>
 (.ret (-1)))))
abbrev AN:cC:=⟨(.pair (.one (Ty.sl (Ty.prod yi cq))) (.mB 65 (.ptr (.prod (.int .i64) (.prod (.int .i64) (.prod (.int .i64) (.int .i64))))))),(.one yi),GQ,RK⟩
theorem VV:ah Tryz.prog 96 (aj AN):=ah.tr AN YS (fn:=Tryz.f96) ay zX mixed (by kernel_rfl) (av.nil _ _) (fun x=>(au.tr ay (ae.bS zX (av.nil _ _)) mixed 0 (Ku x) (DR x) au.nil (by kernel_rfl) fun g s Q=>(by kernel_rfl))) (fun x=>(by kernel_rfl)) fun x Q=>(by kernel_rfl)
def LK:List (Nat×Ev.Spec):=(96,aj AN)::UO
theorem B0:ae Tryz.prog LK:=ae.add (fn:=Tryz.f96) (by kernel_rfl) VV zX
def xb (x:(List (Int×I3)×Int×I3)):Bool:=
 (ai (RK x) fun y=>
 (decide (y>=0)))
def rA (x:(List (Int×I3)×Int×I3)):Prop:=
 (GQ x)
def Oe (x:(List (Int×I3)×Int×I3)):Tr Bool true:=
 (.fn AN x fun y=>
 (.ret (decide (y>=z0))))
abbrev qD:cC:=⟨(.pair (.one (Ty.sl (Ty.prod yi cq))) (.mB 65 (.ptr (.prod (.int .i64) (.prod (.int .i64) (.prod (.int .i64) (.int .i64))))))),(.one Ty.bool),rA,xb⟩
theorem MB:ah Tryz.prog 64 (aj qD):=ah.tr qD Oe (fn:=Tryz.f64) ay B0 mixed (by kernel_rfl) (av.nil _ _) (fun x=>au.nil) (fun x=>(by kernel_rfl)) fun x Q=>(by kernel_rfl)
def NP:List (Nat×Ev.Spec):=(64,aj qD)::LK
theorem uZ:ae Tryz.prog NP:=ae.add (fn:=Tryz.f64) (by kernel_rfl) MB B0
def Uz (x:(Int×Int×List (Int×I3))):aB:=⟨[],⟨bB 66 0 [(0,.v (.one (.i .i64))),(1,.v (.one (.i .i64))),(2,.v (.one (.full 0))),(9,.v (.one (.full 0))),(10,.v (.one (.i .i64))),(11,.v (.one (.i .i64)))],[.row (Ty.prod yi cq) 0],0,none,[],[0,1,2,4],[3],[.i],[.i x.1,.i x.2.1,.i (x.2.2.length:Int),.l (Ty.prod yi cq) x.2.2]⟩,[⟨.ret,.ret,⟨bB 66 0 [(6,.v (.one (.b)))],[],0,none,[],[0],[],[],[.b false]⟩⟩,⟨(.exit 0),.normal,⟨bB 66 0 [],[],0,none,[],[],[],[],[]⟩⟩]⟩
def mb (x:(Int×Int×List (Int×I3))) (s:Int):Int⊕(Unit⊕Unit):=
 (if (s<(x.2.2.length:Int)) then
 (if ((bG (x.2.2.getD s.toNat (0,0,0,0)).2.2.1 (x.2.2.getD s.toNat (0,0,0,0)).2.2.2)<1) then
 (Sum.inr (Sum.inl ())) else
 (if ((bG (x.2.2.getD s.toNat (0,0,0,0)).1 (x.2.2.getD s.toNat (0,0,0,0)).2.1)<0) then
 (Sum.inr (Sum.inl ())) else
 (if ((x.2.2.getD s.toNat (0,0,0,0)).2.2.1>x.1) then
 (Sum.inr (Sum.inl ())) else
 (if ((x.2.2.getD s.toNat (0,0,0,0)).2.2.2>x.2.1) then
 (Sum.inr (Sum.inl ())) else
 (if ((x.2.2.getD s.toNat (0,0,0,0)).1>(az (x.1- (x.2.2.getD s.toNat (0,0,0,0)).2.2.1))) then
 (Sum.inr (Sum.inl ())) else
 (if ((x.2.2.getD s.toNat (0,0,0,0)).2.1>(az (x.2.1- (x.2.2.getD s.toNat (0,0,0,0)).2.2.2))) then
 (Sum.inr (Sum.inl ())) else
 (ai (xb ((List.take s.toNat x.2.2),(x.2.2.getD s.toNat (0,0,0,0)))) fun y=>
 (if (y=true) then
 (Sum.inr (Sum.inl ())) else
 (Sum.inl (az (s+1))))))))))) else
 (Sum.inr (Sum.inr (()))))
def q7 (x:(Int×Int×List (Int×I3))) (s:Int):Prop:=
 ((s<(x.2.2.length:Int))->
 (((0<=s)/\ (s<(x.2.2.length:Int)))/\
 ((s.toNat<x.2.2.length)/\
 ((s.toNat<x.2.2.length)/\
 (¬((bG (x.2.2.getD s.toNat (0,0,0,0)).2.2.1 (x.2.2.getD s.toNat (0,0,0,0)).2.2.2)<1)->
 (¬((bG (x.2.2.getD s.toNat (0,0,0,0)).1 (x.2.2.getD s.toNat (0,0,0,0)).2.1)<0)->
 (¬((x.2.2.getD s.toNat (0,0,0,0)).2.2.1>x.1)->
 (¬((x.2.2.getD s.toNat (0,0,0,0)).2.2.2>x.2.1)->
 (¬((x.2.2.getD s.toNat (0,0,0,0)).1>(az (x.1- (x.2.2.getD s.toNat (0,0,0,0)).2.2.1)))->
 (¬((x.2.2.getD s.toNat (0,0,0,0)).2.1>(az (x.2.1- (x.2.2.getD s.toNat (0,0,0,0)).2.2.2)))->
 (((0<=s)/\ (s<=(x.2.2.length:Int)))/\
 (rA ((List.take s.toNat x.2.2),(x.2.2.getD s.toNat (0,0,0,0)))))))))))))))
def Lx (x:(Int×Int×List (Int×I3))) (s:Int):Tr (Int⊕(Unit⊕Unit)) true:=
 (.i10 (s<(nL x.2.2))
 (.gK s x.2.2
 (.zu ((bG (gT x.2.2 s (z0,rX)).2.2.1 (gT x.2.2 s (z0,rX)).2.2.2)<z1)
 (.ret (.inr (Sum.inl ())))
 (.zu ((bG (gT x.2.2 s (z0,rX)).1 (gT x.2.2 s (z0,rX)).2.1)<z0)
 (.ret (.inr (Sum.inl ())))
 (.zu ((gT x.2.2 s (z0,rX)).2.2.1>x.1)
 (.ret (.inr (Sum.inl ())))
 (.zu ((gT x.2.2 s (z0,rX)).2.2.2>x.2.1)
 (.ret (.inr (Sum.inl ())))
 (.zu ((gT x.2.2 s (z0,rX)).1>(az (x.1- (gT x.2.2 s (z0,rX)).2.2.1)))
 (.ret (.inr (Sum.inl ())))
 (.zu ((gT x.2.2 s (z0,rX)).2.1>(az (x.2.1- (gT x.2.2 s (z0,rX)).2.2.2)))
 (.ret (.inr (Sum.inl ())))
 (.og ((decide (z0<=s))&&(decide (s<=(nL x.2.2)))) ((z0<=s)/\ (s<=(nL x.2.2))) (fun h=>(cX (decide_eq_true h.1) (decide_eq_true h.2)))
 (.fn qD ((List.take (tN s) x.2.2),(gT x.2.2 s (z0,rX))) fun y=>
 (.nT y
 (.ret (.inr (Sum.inl ())))
 (.ret (.inl (w1 s)))))))))))))
 (.ret (.inr (Sum.inr (())))))
def aal (x:(Int×Int×List (Int×I3))):Bool:=
 (ai (run (mb x) 0) fun r=>
 (Sum.elim (fun a=>
 false) (fun b=>
 true) r))
def IA (x:(Int×Int×List (Int×I3))):Prop:=
 (Term (mb x) (q7 x) 0)
def aeE (x:(Int×Int×List (Int×I3))):Tr Bool true:=
 (aB.lp (Uz x) (Lx x) z0 fun r=>
 (.xW r (fun a=>
 (.ret false)) (fun b=>
 (.ret true))))
abbrev NN:cC:=⟨(.pair (.one yi) (.pair (.one yi) (.one (Ty.sl (Ty.prod yi cq))))),(.one Ty.bool),IA,aal⟩
theorem acu:ah Tryz.prog 42 (aj NN):=ah.tr NN aeE (fn:=Tryz.f42) ay uZ mixed (by kernel_rfl) (av.nil _ _) (fun x=>(au.tr ay (ae.bS uZ (av.nil _ _)) mixed 0 (Uz x) (Lx x) au.nil (by kernel_rfl) fun g s Q=>(by kernel_rfl))) (fun x=>(by kernel_rfl)) fun x Q=>(by kernel_rfl)
end Go.Proofs.YtbjfokijjefoeaaGreat
