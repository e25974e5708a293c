/- Models of functions of layers 4, 9, 12: hits. -/
import Derived.Test.YtngdehlpoomaiaaGreatSa
noncomputable section
set_option linter.unusedSectionVars false
set_option linter.unusedVariables false
set_option linter.unusedSimpArgs false
namespace Go.Proofs.YtngdehlpoomaiaaGreat
open Go Go.Ev Go.Proofs
def QL (x:(List Int)):aK:=⟨[],⟨di 18 0 [(5,.v (.one (.full 0))),(6,.v (.one (.i .i64))),(7,.v (.one (.i .i64)))],[.row yi 0],0,none,[],[0,2],[1],[.i],[.i (x.length:Int),.l yi x]⟩,[⟨.ret,.ret,⟨di 18 0 [(2,.v (.one (.b)))],[],0,none,[],[0],[],[],[.b false]⟩⟩,⟨(.exit 0),.normal,⟨di 18 0 [],[],0,none,[],[],[],[],[]⟩⟩]⟩
def lX (x:(List Int)) (s:Int):Int⊕(Unit⊕Unit):=
 (if (s<(x.length:Int)) then
 (if ((x.getD s.toNat 0)<(-1048576)) then
 (Sum.inr (Sum.inl ())) else
 (if ((x.getD s.toNat 0)>1048576) then
 (Sum.inr (Sum.inl ())) else
 (Sum.inl (av (s+1))))) else
 (Sum.inr (Sum.inr (()))))
def Bb (x:(List Int)) (s:Int):Prop:=
 ((s<(x.length:Int))->
 (((0<=s)/\ (s<(x.length:Int)))/\
 ((s.toNat<x.length)/\
 (s.toNat<x.length))))
def HX (x:(List Int)) (s:Int):Tr (Int⊕(Unit⊕Unit)) true:=
 (.i10 (s<(nL x))
 (.mS s x
 (.tF ((gI x s)<(-1048576))
 (.ret (.inr (Sum.inl ())))
 (.tF ((gI x s)>1048576)
 (.ret (.inr (Sum.inl ())))
 (.ret (.inl (w1 s))))))
 (.ret (.inr (Sum.inr (())))))
def QK (x:(List Int)):Bool:=
 (aq (run (lX x) 0) fun r=>
 (Sum.elim (fun a=>
 false) (fun b=>
 true) r))
def Cl (x:(List Int)):Prop:=
 (Term (lX x) (Bb x) 0)
def afl (x:(List Int)):Tr Bool true:=
 (aK.lp (QL x) (HX x) z0 fun r=>
 (.MK r (fun a=>
 (.ret false)) (fun b=>
 (.ret true))))
abbrev Eo:bY:=⟨(.one (Ty.sl yi)),(.one Ty.bool),Cl,QK⟩
theorem ace:ai Tryz.prog 123 (ak Eo):=ai.tr Eo afl (fn:=Tryz.f123) aA sQ mixed (by kernel_rfl) (ax.nil _ _) (fun x=>(ay.tr aA (ah.dX sQ (ax.nil _ _)) mixed 0 (QL x) (HX x) ay.nil (by kernel_rfl) fun g s Q=>(by kernel_rfl))) (fun x=>(by kernel_rfl)) fun x Q=>(by kernel_rfl)
def Qm:List (Nat×Ev.Spec):=(123,ak Eo)::KU
theorem vI:ah Tryz.prog Qm:=ah.add (fn:=Tryz.f123) (by kernel_rfl) ace sQ
def T5 (x:(List I3)):aK:=⟨[],⟨di 21 0 [(5,.v (.one (.full 0))),(6,.v (.one (.i .i64))),(7,.v (.one (.i .i64)))],[.row aM 0],0,none,[],[0,2],[1],[.i],[.i (x.length:Int),.l aM x]⟩,[⟨.ret,.ret,⟨di 21 0 [(2,.v (.one (.b)))],[],0,none,[],[0],[],[],[.b false]⟩⟩,⟨(.exit 0),.normal,⟨di 21 0 [],[],0,none,[],[],[],[],[]⟩⟩]⟩
def iU (x:(List I3)) (s:Int):Int⊕(Unit⊕Unit):=
 (if (s<(x.length:Int)) then
 (aq (QK [(x.getD s.toNat (0,0,0)).1,(x.getD s.toNat (0,0,0)).2.1,(x.getD s.toNat (0,0,0)).2.2]) fun y=>
 (if ((!y)=true) then
 (Sum.inr (Sum.inl ())) else
 (Sum.inl (av (s+1))))) else
 (Sum.inr (Sum.inr (()))))
def uO (x:(List I3)) (s:Int):Prop:=
 ((s<(x.length:Int))->
 (((0<=s)/\ (s<(x.length:Int)))/\
 ((s.toNat<x.length)/\
 ((s.toNat<x.length)/\
 (Cl [(x.getD s.toNat (0,0,0)).1,(x.getD s.toNat (0,0,0)).2.1,(x.getD s.toNat (0,0,0)).2.2])))))
def JJ (x:(List I3)) (s:Int):Tr (Int⊕(Unit⊕Unit)) true:=
 (.i10 (s<(nL x))
 (.mS s x
 (.fn Eo [(gT x s bX).1,(gT x s bX).2.1,(gT x s bX).2.2] fun y=>
 (.qH (!y)
 (.ret (.inr (Sum.inl ())))
 (.ret (.inl (w1 s))))))
 (.ret (.inr (Sum.inr (())))))
def Mj (x:(List I3)):Bool:=
 (aq (run (iU x) 0) fun r=>
 (Sum.elim (fun a=>
 false) (fun b=>
 true) r))
def oC (x:(List I3)):Prop:=
 (Term (iU x) (uO x) 0)
def ahB (x:(List I3)):Tr Bool true:=
 (aK.lp (T5 x) (JJ x) z0 fun r=>
 (.MK r (fun a=>
 (.ret false)) (fun b=>
 (.ret true))))
abbrev BP:bY:=⟨(.one (Ty.sl aM)),(.one Ty.bool),oC,Mj⟩
theorem aes:ai Tryz.prog 98 (ak BP):=ai.tr BP ahB (fn:=Tryz.f98) aA vI mixed (by kernel_rfl) (ax.nil _ _) (fun x=>(ay.tr aA (ah.dX vI (ax.nil _ _)) mixed 0 (T5 x) (JJ x) ay.nil (by kernel_rfl) fun g s Q=>(by kernel_rfl))) (fun x=>(by kernel_rfl)) fun x Q=>(by kernel_rfl)
def UU:List (Nat×Ev.Spec):=(98,ak BP)::Qm
theorem G7:ah Tryz.prog UU:=ah.add (fn:=Tryz.f98) (by kernel_rfl) aes vI
def fV (x:I3):I3:=
 x
def QM (_:I3):Prop:=True
def XR (x:I3):Tr I3 false:=
 (.ret x)
abbrev gP:bY:=⟨(.agg aM),(.agg aM),QM,fV⟩
theorem S5:ai Tryz.prog 99 (ak gP):=ai.tr gP XR (fn:=Tryz.f99) aA G7 mixed (by kernel_rfl) (ax.nil _ _) (fun x=>ay.nil) (fun x=>(by kernel_rfl)) fun x Q=>(by kernel_rfl)
def Hq:List (Nat×Ev.Spec):=(99,ak gP)::UU
theorem xL:ah Tryz.prog Hq:=ah.add (fn:=Tryz.f99) (by kernel_rfl) S5 G7
def Bc (x:I3):I3:=
 x
def QN (_:I3):Prop:=True
def XS (x:I3):Tr I3 false:=
 (.ret x)
abbrev rA:bY:=⟨(.agg aM),(.agg aM),QN,Bc⟩
theorem S6:ai Tryz.prog 146 (ak rA):=ai.tr rA XS (fn:=Tryz.f146) aA xL mixed (by kernel_rfl) (ax.nil _ _) (fun x=>ay.nil) (fun x=>(by kernel_rfl)) fun x Q=>(by kernel_rfl)
def Hr:List (Nat×Ev.Spec):=(146,ak rA)::Hq
theorem qC:ah Tryz.prog Hr:=ah.add (fn:=Tryz.f146) (by kernel_rfl) S6 xL
def Dl (x:(I3×I3)):I3:=
 (aq (Mj [x.1,x.2]) fun y=>
 (if ((!y)=true) then
 (0,0,0) else
 (aq (fV x.1) fun aB=>
 (aq (fV x.2) fun y_2=>
 (aq (Bc ((av (aB.1- y_2.1)),(av (aB.2.1- y_2.2.1)),(av (aB.2.2- y_2.2.2)))) fun bk=>
 bk)))))
def ry (x:(I3×I3)):Prop:=
 (oC [x.1,x.2])
def ae9 (x:(I3×I3)):Tr I3 true:=
 (.fn BP [x.1,x.2] fun y=>
 (.qH (!y)
 (.ret bX)
 (.fn0 gP x.1 trivial fun aB=>
 (.fn0 gP x.2 trivial fun y_2=>
 (.fn0 rA ((av (aB.1- y_2.1)),(av (aB.2.1- y_2.2.1)),(av (aB.2.2- y_2.2.2))) trivial fun bk=>
 (.ret bk))))))
abbrev wU:bY:=⟨(.pair (.agg aM) (.agg aM)),(.agg aM),ry,Dl⟩
theorem abT:ai Tryz.prog 132 (ak wU):=ai.tr wU ae9 (fn:=Tryz.f132) aA qC mixed (by kernel_rfl) (ax.nil _ _) (fun x=>(ay.nH aA (ah.dX qC (ax.nil _ _)) mixed 0 4 ay.nil (by kernel_rfl))) (fun x=>(by kernel_rfl)) fun x Q=>(by kernel_rfl)
def Qj:List (Nat×Ev.Spec):=(132,ak wU)::Hr
theorem vG:ah Tryz.prog Qj:=ah.add (fn:=Tryz.f132) (by kernel_rfl) abT qC
def pH (x:(I3×I3)):(I3×Int):=
 (aq (Mj [x.1,x.2]) fun y=>
 (if ((!y)=true) then
 ((0,0,0),5) else
 (aq (fV x.1) fun aB=>
 (aq (fV x.2) fun y_2=>
 (aq (Bc ((av ((av (aB.2.1*y_2.2.2))- (av (aB.2.2*y_2.2.1)))),(av ((av (aB.2.2*y_2.1))- (av (aB.1*y_2.2.2)))),(av ((av (aB.1*y_2.2.1))- (av (aB.2.1*y_2.1)))))) fun bk=>
 (bk,0))))))
def l6 (x:(I3×I3)):Prop:=
 (oC [x.1,x.2])
def VH (x:(I3×I3)):Tr (I3×Int) true:=
 (.fn BP [x.1,x.2] fun y=>
 (.qH (!y)
 (.ret (bX,5))
 (.fn0 gP x.1 trivial fun aB=>
 (.fn0 gP x.2 trivial fun y_2=>
 (.fn0 rA ((av ((av (aB.2.1*y_2.2.2))- (av (aB.2.2*y_2.2.1)))),(av ((av (aB.2.2*y_2.1))- (av (aB.1*y_2.2.2)))),(av ((av (aB.1*y_2.2.1))- (av (aB.2.1*y_2.1))))) trivial fun bk=>
 (.ret (bk,z0)))))))
abbrev nO:bY:=⟨(.pair (.agg aM) (.agg aM)),(.pair (.agg aM) (.one yi)),l6,pH⟩
theorem Rk:ai Tryz.prog 130 (ak nO):=ai.tr nO VH (fn:=Tryz.f130) aA vG mixed (by kernel_rfl) (ax.nil _ _) (fun x=>(ay.nH aA (ah.dX vG (ax.nil _ _)) mixed 0 4 ay.nil (by kernel_rfl))) (fun x=>(by kernel_rfl)) fun x Q=>(by kernel_rfl)
def GN:List (Nat×Ev.Spec):=(130,ak nO)::Qj
theorem xA:ah Tryz.prog GN:=ah.add (fn:=Tryz.f130) (by kernel_rfl) Rk vG
def Un (x:I9):(I3×Int):=
 (aq (dR [x.1,x.2.1,x.2.2]) fun y=>
 (if ((!y)=true) then
 ((0,0,0),5) else
 (aq (Dl (x.2.1,x.1)) fun aB=>
 (aq (Dl (x.2.2,x.1)) fun y_2=>
 (aq (pH (aB,y_2)) fun bk=>
 bk)))))
def wF (x:I9):Prop:=
 ((ct [x.1,x.2.1,x.2.2])/\
 aC (dR [x.1,x.2.1,x.2.2]) fun y=>
 (¬((!y)=true)->
 ((ry (x.2.1,x.1))/\
 aC (Dl (x.2.1,x.1)) fun aB=>
 ((ry (x.2.2,x.1))/\
 aC (Dl (x.2.2,x.1)) fun y_2=>
 (l6 (aB,y_2))))))
def aeK (x:I9):Tr (I3×Int) true:=
 (.fn dS [x.1,x.2.1,x.2.2] fun y=>
 (.nM (!y)
 (.ret (bX,5))
 (.fn wU (x.2.1,x.1) fun aB=>
 (.fn wU (x.2.2,x.1) fun y_2=>
 (.fn nO (aB,y_2) fun bk=>
 (.ret bk))))))
abbrev Ec:bY:=⟨(.agg dF),(.pair (.agg aM) (.one yi)),wF,Un⟩
theorem aaS:ai Tryz.prog 105 (ak Ec):=ai.tr Ec aeK (fn:=Tryz.f105) aA xA mixed (by kernel_rfl) (ax.nil _ _) (fun x=>ay.nil) (fun x=>(by kernel_rfl)) fun x Q=>(by kernel_rfl)
def Qd:List (Nat×Ev.Spec):=(105,ak Ec)::GN
theorem Dc:ah Tryz.prog Qd:=ah.add (fn:=Tryz.f105) (by kernel_rfl) aaS xA
def ni (x:I9):(I3×Int):=
 (aq (Un x) fun y=>
 y)
def iE (x:I9):Prop:=
 (wF x)
def W2 (x:I9):Tr (I3×Int) true:=
 (.fn Ec x fun y=>
 (.ret y))
abbrev q7:bY:=⟨(.pair (.agg aM) (.pair (.agg aM) (.agg aM))),(.pair (.agg aM) (.one yi)),iE,ni⟩
theorem Sl:ai Tryz.prog 77 (ak q7):=ai.tr q7 W2 (fn:=Tryz.f77) aA Dc mixed (by kernel_rfl) (ax.nil _ _) (fun x=>ay.nil) (fun x=>(by kernel_rfl)) fun x Q=>(by kernel_rfl)
def Hg:List (Nat×Ev.Spec):=(77,ak q7)::Qd
theorem xJ:ah Tryz.prog Hg:=ah.add (fn:=Tryz.f77) (by kernel_rfl) Sl Dc
def IT (x:(I3×I9)):I2:=
 (aq (ni (x.1,x.2.1,x.2.2.1)) fun y=>
 (if ((y.2 !=0)=true) then
 (0,5) else
 (aq (dR [x.2.2.2]) fun aB=>
 (if ((!aB)=true) then
 (0,5) else
 (aq (Dl (x.2.2.2,x.1)) fun y_2=>
 ((av ((av ((av (y.1.1*y_2.1))+(av (y.1.2.1*y_2.2.1))))+(av (y.1.2.2*y_2.2.2)))),0))))))
def oU (x:(I3×I9)):Prop:=
 ((iE (x.1,x.2.1,x.2.2.1))/\
 aC (ni (x.1,x.2.1,x.2.2.1)) fun y=>
 (¬((y.2 !=0)=true)->
 ((ct [x.2.2.2])/\
 aC (dR [x.2.2.2]) fun aB=>
 (¬((!aB)=true)->
 (ry (x.2.2.2,x.1))))))
def aid (x:(I3×I9)):Tr I2 true:=
 (.fn q7 (x.1,x.2.1,x.2.2.1) fun y=>
 (.nM (y.2 !=z0)
 (.ret (z0,5))
 (.fn dS [x.2.2.2] fun aB=>
 (.nM (!aB)
 (.ret (z0,5))
 (.fn wU (x.2.2.2,x.1) fun y_2=>
 (.ret ((av ((av ((av (y.1.1*y_2.1))+(av (y.1.2.1*y_2.2.1))))+(av (y.1.2.2*y_2.2.2)))),z0)))))))
abbrev yO:bY:=⟨(.pair (.agg aM) (.pair (.agg aM) (.pair (.agg aM) (.agg aM)))),(.pair (.one yi) (.one yi)),oU,IT⟩
theorem afm:ai Tryz.prog 191 (ak yO):=ai.tr yO aid (fn:=Tryz.f191) aA xJ mixed (by kernel_rfl) (ax.nil _ _) (fun x=>ay.nil) (fun x=>(by kernel_rfl)) fun x Q=>(by kernel_rfl)
def U6:List (Nat×Ev.Spec):=(191,ak yO)::Hg
theorem Hp:ah Tryz.prog U6:=ah.add (fn:=Tryz.f191) (by kernel_rfl) afm xJ
def GF (x:(I3×I9)):I2:=
 (aq (IT (x.2.1,x.2.2.1,x.2.2.2,x.1)) fun y=>
 (aq (compare (y.1,0)) fun aB=>
 (aB,y.2)))
def wS (x:(I3×I9)):Prop:=
 (oU (x.2.1,x.2.2.1,x.2.2.2,x.1))
def ae4 (x:(I3×I9)):Tr I2 true:=
 (.fn yO (x.2.1,x.2.2.1,x.2.2.2,x.1) fun y=>
 (.fn0 ek (y.1,z0) trivial fun aB=>
 (.ret (aB,y.2))))
abbrev Ak:bY:=⟨(.pair (.agg aM) (.agg dF)),(.pair (.one yi) (.one yi)),wS,GF⟩
theorem abt:ai Tryz.prog 190 (ak Ak):=ai.tr Ak ae4 (fn:=Tryz.f190) aA Hp mixed (by kernel_rfl) (ax.nil _ _) (fun x=>ay.nil) (fun x=>(by kernel_rfl)) fun x Q=>(by kernel_rfl)
def Qg:List (Nat×Ev.Spec):=(190,ak Ak)::U6
theorem Dg:ah Tryz.prog Qg:=ah.add (fn:=Tryz.f190) (by kernel_rfl) abt Hp
def IA (x:Int):Bool:=
 (decide (x>=0))
def aen (_:Int):Prop:=True
def ajV (x:Int):Tr Bool false:=
 (.ret (decide (x>=z0)))
abbrev TY:bY:=⟨(.one yi),(.one Ty.bool),aen,IA⟩
theorem ahp:ai Tryz.prog 192 (ak TY):=ai.tr TY ajV (fn:=Tryz.f192) aA Dg mixed (by kernel_rfl) (ax.nil _ _) (fun x=>ay.nil) (fun x=>(by kernel_rfl)) fun x Q=>(by kernel_rfl)
def abI:List (Nat×Ev.Spec):=(192,ak TY)::Qg
theorem KI:ah Tryz.prog abI:=ah.add (fn:=Tryz.f192) (by kernel_rfl) ahp Dg
def ZM (x:Int):Bool:=
 (decide (x<=0))
def Wj (_:Int):Prop:=True
def adZ (x:Int):Tr Bool false:=
 (.ret (decide (x<=z0)))
abbrev D1:bY:=⟨(.one yi),(.one Ty.bool),Wj,ZM⟩
theorem ZN:ai Tryz.prog 193 (ak D1):=ai.tr D1 adZ (fn:=Tryz.f193) aA KI mixed (by kernel_rfl) (ax.nil _ _) (fun x=>ay.nil) (fun x=>(by kernel_rfl)) fun x Q=>(by kernel_rfl)
def P6:List (Nat×Ev.Spec):=(193,ak D1)::abI
theorem vA:ah Tryz.prog P6:=ah.add (fn:=Tryz.f193) (by kernel_rfl) ZN KI
def Tn (x:(Bool×List Int)):aK:=⟨[],⟨di 18 0 [(0,.v (.one (.iP 192 0 []))),(7,.v (.one (.full 0))),(8,.v (.one (.i .i64))),(9,.v (.one (.i .i64)))],[.row yi 0],0,none,[],[0,2],[1],[.i],[.i (x.2.length:Int),.l yi x.2]⟩,[⟨.ret,.ret,⟨di 18 0 [(4,.v (.one (.b)))],[],0,none,[],[0],[],[],[.b false]⟩⟩,⟨(.exit 0),.normal,⟨di 18 0 [],[],0,none,[],[],[],[],[]⟩⟩]⟩
def mX (x:(Bool×List Int)) (s:Int):Int⊕(Unit⊕Unit):=
 (if (s<(x.2.length:Int)) then
 (aq (IA (x.2.getD s.toNat 0)) fun y=>
 (if ((!y)=true) then
 (Sum.inr (Sum.inl ())) else
 (Sum.inl (av (s+1))))) else
 (Sum.inr (Sum.inr (()))))
def Cs (x:(Bool×List Int)) (s:Int):Prop:=
 ((s<(x.2.length:Int))->
 (((0<=s)/\ (s<(x.2.length:Int)))/\
 ((s.toNat<x.2.length)/\
 (s.toNat<x.2.length))))
def IZ (x:(Bool×List Int)) (s:Int):Tr (Int⊕(Unit⊕Unit)) true:=
 (.i10 (s<(nL x.2))
 (.mS s x.2
 (.fn0 TY (gI x.2 s) trivial fun y=>
 (.qH (!y)
 (.ret (.inr (Sum.inl ())))
 (.ret (.inl (w1 s))))))
 (.ret (.inr (Sum.inr (())))))
def ac5 (x:(Bool×List Int)):Bool:=
 (aq (run (mX x) 0) fun r=>
 (Sum.elim (fun a=>
 false) (fun b=>
 true) r))
def EM (x:(Bool×List Int)):Prop:=
 (Term (mX x) (Cs x) 0)
def agt (x:(Bool×List Int)):Tr Bool true:=
 (aK.lp (Tn x) (IZ x) z0 fun r=>
 (.MK r (fun a=>
 (.ret false)) (fun b=>
 (.ret true))))
abbrev EL:bY:=⟨(.pair (.iP 192 .none) (.one (Ty.sl yi))),(.one Ty.bool),EM,ac5⟩
theorem Tp:ai Tryz.prog 194 (ak EL):=ai.tr EL agt (fn:=Tryz.f194) aA vA mixed (by kernel_rfl) (ax.nil _ _) (fun x=>(ay.tr aA (ah.dX vA (ax.nil _ _)) mixed 0 (Tn x) (IZ x) ay.nil (by kernel_rfl) fun g s Q=>(by kernel_rfl))) (fun x=>(by kernel_rfl)) fun x Q=>(by kernel_rfl)
def UJ:List (Nat×Ev.Spec):=(194,ak EL)::P6
theorem yA:ah Tryz.prog UJ:=ah.add (fn:=Tryz.f194) (by kernel_rfl) Tp vA
def Tm (x:(Bool×List Int)):aK:=⟨[],⟨di 18 0 [(0,.v (.one (.iP 193 0 []))),(7,.v (.one (.full 0))),(8,.v (.one (.i .i64))),(9,.v (.one (.i .i64)))],[.row yi 0],0,none,[],[0,2],[1],[.i],[.i (x.2.length:Int),.l yi x.2]⟩,[⟨.ret,.ret,⟨di 18 0 [(4,.v (.one (.b)))],[],0,none,[],[0],[],[],[.b false]⟩⟩,⟨(.exit 0),.normal,⟨di 18 0 [],[],0,none,[],[],[],[],[]⟩⟩]⟩
def mW (x:(Bool×List Int)) (s:Int):Int⊕(Unit⊕Unit):=
 (if (s<(x.2.length:Int)) then
 (aq (ZM (x.2.getD s.toNat 0)) fun y=>
 (if ((!y)=true) then
 (Sum.inr (Sum.inl ())) else
 (Sum.inl (av (s+1))))) else
 (Sum.inr (Sum.inr (()))))
def Cr (x:(Bool×List Int)) (s:Int):Prop:=
 ((s<(x.2.length:Int))->
 (((0<=s)/\ (s<(x.2.length:Int)))/\
 ((s.toNat<x.2.length)/\
 (s.toNat<x.2.length))))
def IY (x:(Bool×List Int)) (s:Int):Tr (Int⊕(Unit⊕Unit)) true:=
 (.i10 (s<(nL x.2))
 (.mS s x.2
 (.fn0 D1 (gI x.2 s) trivial fun y=>
 (.qH (!y)
 (.ret (.inr (Sum.inl ())))
 (.ret (.inl (w1 s))))))
 (.ret (.inr (Sum.inr (())))))
def agr (x:(Bool×List Int)):Bool:=
 (aq (run (mW x) 0) fun r=>
 (Sum.elim (fun a=>
 false) (fun b=>
 true) r))
def EI (x:(Bool×List Int)):Prop:=
 (Term (mW x) (Cr x) 0)
def ags (x:(Bool×List Int)):Tr Bool true:=
 (aK.lp (Tm x) (IY x) z0 fun r=>
 (.MK r (fun a=>
 (.ret false)) (fun b=>
 (.ret true))))
abbrev EH:bY:=⟨(.pair (.iP 193 .none) (.one (Ty.sl yi))),(.one Ty.bool),EI,agr⟩
theorem ac4:ai Tryz.prog 194 (ak EH):=ai.tr EH ags (fn:=Tryz.f194) aA yA mixed (by kernel_rfl) (ax.nil _ _) (fun x=>(ay.tr aA (ah.dX yA (ax.nil _ _)) mixed 0 (Tm x) (IY x) ay.nil (by kernel_rfl) fun g s Q=>(by kernel_rfl))) (fun x=>(by kernel_rfl)) fun x Q=>(by kernel_rfl)
def UI:List (Nat×Ev.Spec):=(194,vT EH.p (ak EH) (ak EL))::UJ
theorem yz:ah Tryz.prog UI:=ah.add (fn:=Tryz.f194) (by kernel_rfl) (rG ac4 (Tp)) yA
def ZS (x:(I3×I3×I9)):(Bool×Int):=
 (aq (dR [x.1,x.2.1]) fun y=>
 (if ((!y)=true) then
 (false,5) else
 (aq (dR [x.2.2.1,x.2.2.2.1,x.2.2.2.2]) fun aB=>
 (if ((!aB)=true) then
 (false,5) else
 (aq (GF (x.1,x.2.2)) fun y_2=>
 (aq (GF x.2) fun bk=>
 (if ((av (y_2.1*bk.1))>=0) then
 (false,0) else
 (aq (IT (x.1,x.2.1,x.2.2.1,x.2.2.2.1)) fun bQ=>
 (aq (IT (x.1,x.2.1,x.2.2.2)) fun jt=>
 (aq (IT (x.1,x.2.1,x.2.2.2.2,x.2.2.1)) fun nI=>
 (aq (ac5 (false,[bQ.1,jt.1,nI.1])) fun Nk=>
 (if (Nk=true) then
 (true,0) else
 (aq (agr (false,[bQ.1,jt.1,nI.1])) fun y_8=>
 (y_8,0))))))))))))))
def zx (x:(I3×I3×I9)):Prop:=
 ((ct [x.1,x.2.1])/\
 aC (dR [x.1,x.2.1]) fun y=>
 (¬((!y)=true)->
 ((ct [x.2.2.1,x.2.2.2.1,x.2.2.2.2])/\
 aC (dR [x.2.2.1,x.2.2.2.1,x.2.2.2.2]) fun aB=>
 (¬((!aB)=true)->
 ((wS (x.1,x.2.2))/\
 aC (GF (x.1,x.2.2)) fun y_2=>
 ((wS x.2)/\
 aC (GF x.2) fun bk=>
 (¬((av (y_2.1*bk.1))>=0)->
 ((oU (x.1,x.2.1,x.2.2.1,x.2.2.2.1))/\
 aC (IT (x.1,x.2.1,x.2.2.1,x.2.2.2.1)) fun bQ=>
 ((oU (x.1,x.2.1,x.2.2.2))/\
 aC (IT (x.1,x.2.1,x.2.2.2)) fun jt=>
 ((oU (x.1,x.2.1,x.2.2.2.2,x.2.2.1))/\
 aC (IT (x.1,x.2.1,x.2.2.2.2,x.2.2.1)) fun nI=>
 ((EM (false,[bQ.1,jt.1,nI.1]))/\
 aC (ac5 (false,[bQ.1,jt.1,nI.1])) fun Nk=>
 (¬(Nk=true)->
 (EI (false,[bQ.1,jt.1,nI.1]))))))))))))))
def ahb (x:(I3×I3×I9)):Tr (Bool×Int) true:=
 (.fn dS [x.1,x.2.1] fun y=>
 (.nM (!y)
 (.ret (false,5))
 (.fn dS [x.2.2.1,x.2.2.2.1,x.2.2.2.2] fun aB=>
 (.nM (!aB)
 (.ret (false,5))
 (.fn Ak (x.1,x.2.2) fun y_2=>
 (.fn Ak x.2 fun bk=>
 (.FN ((av (y_2.1*bk.1))>=z0)
 (.ret (false,z0))
 (.fn yO (x.1,x.2.1,x.2.2.1,x.2.2.2.1) fun bQ=>
 (.fn yO (x.1,x.2.1,x.2.2.2) fun jt=>
 (.fn yO (x.1,x.2.1,x.2.2.2.2,x.2.2.1) fun nI=>
 (.fn EL (false,[bQ.1,jt.1,nI.1]) fun Nk=>
 (.nM Nk
 (.ret (true,z0))
 (.fn EH (false,[bQ.1,jt.1,nI.1]) fun y_8=>
 (.ret (y_8,z0)))))))))))))))
abbrev Ma:bY:=⟨(.pair (.agg aM) (.pair (.agg aM) (.agg dF))),(.pair (.one Ty.bool) (.one yi)),zx,ZS⟩
theorem ad7:ai Tryz.prog 174 (ak Ma):=ai.tr Ma ahb (fn:=Tryz.f174) aA yz mixed (by kernel_rfl) (ax.nil _ _) (fun x=>(ay.nH aA (ah.dX yz (ax.nil _ _)) mixed 0 4 ay.nil (by kernel_rfl))) (fun x=>(by kernel_rfl)) fun x Q=>(by kernel_rfl)
def US:List (Nat×Ev.Spec):=(174,ak Ma)::UI
theorem G4:ah Tryz.prog US:=ah.add (fn:=Tryz.f174) (by kernel_rfl) ad7 yz
end Go.Proofs.YtngdehlpoomaiaaGreat
