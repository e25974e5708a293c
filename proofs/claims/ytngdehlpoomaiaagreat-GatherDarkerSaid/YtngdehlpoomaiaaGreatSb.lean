/- Models of functions of layers 4, 9, 12: hits. -/
import Derived.Test.YtngdehlpoomaiaaGreatSa
noncomputable section
set_option linter.unusedSectionVars false
set_option linter.unusedVariables false
set_option linter.unusedSimpArgs false
namespace Go.Proofs.YtngdehlpoomaiaaGreat
open Go Go.Ev Go.Proofs
def PU (x:(List Int)):aL:=⟨[],⟨dL 18 0 [(5,.v (.one (.full 0))),(6,.v (.one (.i .i64))),(7,.v (.one (.i .i64)))],[.row yi 0],0,none,[],[0,2],[1],[.i],[.i (x.length:Int),.l yi x]⟩,[⟨.ret,.ret,⟨dL 18 0 [(2,.v (.one (.b)))],[],0,none,[],[0],[],[],[.b false]⟩⟩,⟨(.exit 0),.normal,⟨dL 18 0 [],[],0,none,[],[],[],[],[]⟩⟩]⟩
def lU (x:(List Int)) (s:Int):Int⊕(Unit⊕Unit):=
 (if (s<(x.length:Int)) then
 (if ((x.getD s.toNat 0)<(-1048576)) then
 (Sum.inr (Sum.inl ())) else
 (if ((x.getD s.toNat 0)>1048576) then
 (Sum.inr (Sum.inl ())) else
 (Sum.inl (au (s+1))))) else
 (Sum.inr (Sum.inr (()))))
def AP (x:(List Int)) (s:Int):Prop:=
 ((s<(x.length:Int))->
 (((0<=s)/\ (s<(x.length:Int)))/\
 ((s.toNat<x.length)/\
 (s.toNat<x.length))))
def Hr (x:(List Int)) (s:Int):Tr (Int⊕(Unit⊕Unit)) true:=
 (.i10 (s<(nL x))
 (.nc s x
 (.oq ((gI x s)<(-1048576))
 (.ret (.inr (Sum.inl ())))
 (.oq ((gI x s)>1048576)
 (.ret (.inr (Sum.inl ())))
 (.ret (.inl (w1 s))))))
 (.ret (.inr (Sum.inr (())))))
def PT (x:(List Int)):Bool:=
 (aj (run (lU x) 0) fun r=>
 (Sum.elim (fun a=>
 false) (fun b=>
 true) r))
def BX (x:(List Int)):Prop:=
 (Term (lU x) (AP x) 0)
def aec (x:(List Int)):Tr Bool true:=
 (aL.lp (PU x) (Hr x) z0 fun r=>
 (.OD r (fun a=>
 (.ret false)) (fun b=>
 (.ret true))))
abbrev D0:cf:=⟨(.one (Ty.sl yi)),(.one Ty.bool),BX,PT⟩
theorem abg:ah Tryz.prog 123 (ak D0):=ah.tr D0 aec (fn:=Tryz.f123) az sE mixed (by kernel_rfl) (av.nil _ _) (fun x=>(ax.tr az (af.eA sE (av.nil _ _)) mixed 0 (PU x) (Hr x) ax.nil (by kernel_rfl) fun g s Q=>(by kernel_rfl))) (fun x=>(by kernel_rfl)) fun x Q=>(by kernel_rfl)
def Pk:List (Nat×Ev.Spec):=(123,ak D0)::Kg
theorem vn:af Tryz.prog Pk:=af.add (fn:=Tryz.f123) (by kernel_rfl) abg sE
def S9 (x:(List I3)):aL:=⟨[],⟨dL 21 0 [(5,.v (.one (.full 0))),(6,.v (.one (.i .i64))),(7,.v (.one (.i .i64)))],[.row aO 0],0,none,[],[0,2],[1],[.i],[.i (x.length:Int),.l aO x]⟩,[⟨.ret,.ret,⟨dL 21 0 [(2,.v (.one (.b)))],[],0,none,[],[0],[],[],[.b false]⟩⟩,⟨(.exit 0),.normal,⟨dL 21 0 [],[],0,none,[],[],[],[],[]⟩⟩]⟩
def iY (x:(List I3)) (s:Int):Int⊕(Unit⊕Unit):=
 (if (s<(x.length:Int)) then
 (aj (PT [(x.getD s.toNat (0,0,0)).1,(x.getD s.toNat (0,0,0)).2.1,(x.getD s.toNat (0,0,0)).2.2]) fun y=>
 (if ((!y)=true) then
 (Sum.inr (Sum.inl ())) else
 (Sum.inl (au (s+1))))) else
 (Sum.inr (Sum.inr (()))))
def uv (x:(List I3)) (s:Int):Prop:=
 ((s<(x.length:Int))->
 (((0<=s)/\ (s<(x.length:Int)))/\
 ((s.toNat<x.length)/\
 ((s.toNat<x.length)/\
 (BX [(x.getD s.toNat (0,0,0)).1,(x.getD s.toNat (0,0,0)).2.1,(x.getD s.toNat (0,0,0)).2.2])))))
def Jd (x:(List I3)) (s:Int):Tr (Int⊕(Unit⊕Unit)) true:=
 (.i10 (s<(nL x))
 (.nc s x
 (.fn D0 [(gT x s bH).1,(gT x s bH).2.1,(gT x s bH).2.2] fun y=>
 (.iQ (!y)
 (.ret (.inr (Sum.inl ())))
 (.ret (.inl (w1 s))))))
 (.ret (.inr (Sum.inr (())))))
def LF (x:(List I3)):Bool:=
 (aj (run (iY x) 0) fun r=>
 (Sum.elim (fun a=>
 false) (fun b=>
 true) r))
def ou (x:(List I3)):Prop:=
 (Term (iY x) (uv x) 0)
def ags (x:(List I3)):Tr Bool true:=
 (aL.lp (S9 x) (Jd x) z0 fun r=>
 (.OD r (fun a=>
 (.ret false)) (fun b=>
 (.ret true))))
abbrev Bq:cf:=⟨(.one (Ty.sl aO)),(.one Ty.bool),ou,LF⟩
theorem adh:ah Tryz.prog 98 (ak Bq):=ah.tr Bq ags (fn:=Tryz.f98) az vn mixed (by kernel_rfl) (av.nil _ _) (fun x=>(ax.tr az (af.eA vn (av.nil _ _)) mixed 0 (S9 x) (Jd x) ax.nil (by kernel_rfl) fun g s Q=>(by kernel_rfl))) (fun x=>(by kernel_rfl)) fun x Q=>(by kernel_rfl)
def T8:List (Nat×Ev.Spec):=(98,ak Bq)::Pk
theorem Gu:af Tryz.prog T8:=af.add (fn:=Tryz.f98) (by kernel_rfl) adh vn
def ga (x:I3):I3:=
 x
def PW (_:I3):Prop:=True
def W7 (x:I3):Tr I3 false:=
 (.ret x)
abbrev gX:cf:=⟨(.agg aO),(.agg aO),PW,ga⟩
theorem Sj:ah Tryz.prog 99 (ak gX):=ah.tr gX W7 (fn:=Tryz.f99) az Gu mixed (by kernel_rfl) (av.nil _ _) (fun x=>ax.nil) (fun x=>(by kernel_rfl)) fun x Q=>(by kernel_rfl)
def GI:List (Nat×Ev.Spec):=(99,ak gX)::T8
theorem xu:af Tryz.prog GI:=af.add (fn:=Tryz.f99) (by kernel_rfl) Sj Gu
def AQ (x:I3):I3:=
 x
def PY (_:I3):Prop:=True
def W8 (x:I3):Tr I3 false:=
 (.ret x)
abbrev rf:cf:=⟨(.agg aO),(.agg aO),PY,AQ⟩
theorem Sk:ah Tryz.prog 146 (ak rf):=ah.tr rf W8 (fn:=Tryz.f146) az xu mixed (by kernel_rfl) (av.nil _ _) (fun x=>ax.nil) (fun x=>(by kernel_rfl)) fun x Q=>(by kernel_rfl)
def GJ:List (Nat×Ev.Spec):=(146,ak rf)::GI
theorem qq:af Tryz.prog GJ:=af.add (fn:=Tryz.f146) (by kernel_rfl) Sk xu
def CZ (x:(I3×I3)):I3:=
 (aj (LF [x.1,x.2]) fun y=>
 (if ((!y)=true) then
 (0,0,0) else
 (aj (ga x.1) fun aA=>
 (aj (ga x.2) fun y_2=>
 (aj (AQ ((au (aA.1- y_2.1)),(au (aA.2.1- y_2.2.1)),(au (aA.2.2- y_2.2.2)))) fun bg=>
 bg)))))
def q7 (x:(I3×I3)):Prop:=
 (ou [x.1,x.2])
def adZ (x:(I3×I3)):Tr I3 true:=
 (.fn Bq [x.1,x.2] fun y=>
 (.iQ (!y)
 (.ret bH)
 (.fn0 gX x.1 trivial fun aA=>
 (.fn0 gX x.2 trivial fun y_2=>
 (.fn0 rf ((au (aA.1- y_2.1)),(au (aA.2.1- y_2.2.1)),(au (aA.2.2- y_2.2.2))) trivial fun bg=>
 (.ret bg))))))
abbrev wE:cf:=⟨(.pair (.agg aO) (.agg aO)),(.agg aO),q7,CZ⟩
theorem aaV:ah Tryz.prog 132 (ak wE):=ah.tr wE adZ (fn:=Tryz.f132) az qq mixed (by kernel_rfl) (av.nil _ _) (fun x=>(ax.nD az (af.eA qq (av.nil _ _)) mixed 0 4 ax.nil (by kernel_rfl))) (fun x=>(by kernel_rfl)) fun x Q=>(by kernel_rfl)
def Pg:List (Nat×Ev.Spec):=(132,ak wE)::GJ
theorem vl:af Tryz.prog Pg:=af.add (fn:=Tryz.f132) (by kernel_rfl) aaV qq
def o9 (x:(I3×I3)):(I3×Int):=
 (aj (LF [x.1,x.2]) fun y=>
 (if ((!y)=true) then
 ((0,0,0),5) else
 (aj (ga x.1) fun aA=>
 (aj (ga x.2) fun y_2=>
 (aj (AQ ((au ((au (aA.2.1*y_2.2.2))- (au (aA.2.2*y_2.2.1)))),(au ((au (aA.2.2*y_2.1))- (au (aA.1*y_2.2.2)))),(au ((au (aA.1*y_2.2.1))- (au (aA.2.1*y_2.1)))))) fun bg=>
 (bg,0))))))
def l5 (x:(I3×I3)):Prop:=
 (ou [x.1,x.2])
def UU (x:(I3×I3)):Tr (I3×Int) true:=
 (.fn Bq [x.1,x.2] fun y=>
 (.iQ (!y)
 (.ret (bH,5))
 (.fn0 gX x.1 trivial fun aA=>
 (.fn0 gX x.2 trivial fun y_2=>
 (.fn0 rf ((au ((au (aA.2.1*y_2.2.2))- (au (aA.2.2*y_2.2.1)))),(au ((au (aA.2.2*y_2.1))- (au (aA.1*y_2.2.2)))),(au ((au (aA.1*y_2.2.1))- (au (aA.2.1*y_2.1))))) trivial fun bg=>
 (.ret (bg,z0)))))))
abbrev nJ:cf:=⟨(.pair (.agg aO) (.agg aO)),(.pair (.agg aO) (.one yi)),l5,o9⟩
theorem Qr:ah Tryz.prog 130 (ak nJ):=ah.tr nJ UU (fn:=Tryz.f130) az vl mixed (by kernel_rfl) (av.nil _ _) (fun x=>(ax.nD az (af.eA vl (av.nil _ _)) mixed 0 4 ax.nil (by kernel_rfl))) (fun x=>(by kernel_rfl)) fun x Q=>(by kernel_rfl)
def Gf:List (Nat×Ev.Spec):=(130,ak nJ)::Pg
theorem xg:af Tryz.prog Gf:=af.add (fn:=Tryz.f130) (by kernel_rfl) Qr vl
def Z0 (x:I9):(I3×Int):=
 (aj (ef [x.1,x.2.1,x.2.2]) fun y=>
 (if ((!y)=true) then
 ((0,0,0),5) else
 (aj (CZ (x.2.1,x.1)) fun aA=>
 (aj (CZ (x.2.2,x.1)) fun y_2=>
 (aj (o9 (aA,y_2)) fun bg=>
 bg)))))
def BA (x:I9):Prop:=
 ((cA [x.1,x.2.1,x.2.2])/\
 aB (ef [x.1,x.2.1,x.2.2]) fun y=>
 (¬((!y)=true)->
 ((q7 (x.2.1,x.1))/\
 aB (CZ (x.2.1,x.1)) fun aA=>
 ((q7 (x.2.2,x.1))/\
 aB (CZ (x.2.2,x.1)) fun y_2=>
 (l5 (aA,y_2))))))
def ady (x:I9):Tr (I3×Int) true:=
 (.fn ej [x.1,x.2.1,x.2.2] fun y=>
 (.kO (!y)
 (.ret (bH,5))
 (.fn wE (x.2.1,x.1) fun aA=>
 (.fn wE (x.2.2,x.1) fun y_2=>
 (.fn nJ (aA,y_2) fun bg=>
 (.ret bg))))))
abbrev DN:cf:=⟨(.agg ff),(.pair (.agg aO) (.one yi)),BA,Z0⟩
theorem Z1:ah Tryz.prog 105 (ak DN):=ah.tr DN ady (fn:=Tryz.f105) az xg mixed (by kernel_rfl) (av.nil _ _) (fun x=>ax.nil) (fun x=>(by kernel_rfl)) fun x Q=>(by kernel_rfl)
def Pa:List (Nat×Ev.Spec):=(105,ak DN)::Gf
theorem CQ:af Tryz.prog Pa:=af.add (fn:=Tryz.f105) (by kernel_rfl) Z1 xg
def r8 (x:I9):(I3×Int):=
 (aj (Z0 x) fun y=>
 y)
def my (x:I9):Prop:=
 (BA x)
def Wg (x:I9):Tr (I3×Int) true:=
 (.fn DN x fun y=>
 (.ret y))
abbrev qS:cf:=⟨(.pair (.agg aO) (.pair (.agg aO) (.agg aO))),(.pair (.agg aO) (.one yi)),my,r8⟩
theorem Ry:ah Tryz.prog 77 (ak qS):=ah.tr qS Wg (fn:=Tryz.f77) az CQ mixed (by kernel_rfl) (av.nil _ _) (fun x=>ax.nil) (fun x=>(by kernel_rfl)) fun x Q=>(by kernel_rfl)
def Gz:List (Nat×Ev.Spec):=(77,ak qS)::Pa
theorem xp:af Tryz.prog Gz:=af.add (fn:=Tryz.f77) (by kernel_rfl) Ry CQ
def Ic (x:(I3×I9)):I2:=
 (aj (r8 (x.1,x.2.1,x.2.2.1)) fun y=>
 (if ((y.2 !=0)=true) then
 (0,5) else
 (aj (ef [x.2.2.2]) fun aA=>
 (if ((!aA)=true) then
 (0,5) else
 (aj (CZ (x.2.2.2,x.1)) fun y_2=>
 ((au ((au ((au (y.1.1*y_2.1))+(au (y.1.2.1*y_2.2.1))))+(au (y.1.2.2*y_2.2.2)))),0))))))
def oI (x:(I3×I9)):Prop:=
 ((my (x.1,x.2.1,x.2.2.1))/\
 aB (r8 (x.1,x.2.1,x.2.2.1)) fun y=>
 (¬((y.2 !=0)=true)->
 ((cA [x.2.2.2])/\
 aB (ef [x.2.2.2]) fun aA=>
 (¬((!aA)=true)->
 (q7 (x.2.2.2,x.1))))))
def ag5 (x:(I3×I9)):Tr I2 true:=
 (.fn qS (x.1,x.2.1,x.2.2.1) fun y=>
 (.kO (y.2 !=z0)
 (.ret (z0,5))
 (.fn ej [x.2.2.2] fun aA=>
 (.kO (!aA)
 (.ret (z0,5))
 (.fn wE (x.2.2.2,x.1) fun y_2=>
 (.ret ((au ((au ((au (y.1.1*y_2.1))+(au (y.1.2.1*y_2.2.1))))+(au (y.1.2.2*y_2.2.2)))),z0)))))))
abbrev yy:cf:=⟨(.pair (.agg aO) (.pair (.agg aO) (.pair (.agg aO) (.agg aO)))),(.pair (.one yi) (.one yi)),oI,Ic⟩
theorem aed:ah Tryz.prog 191 (ak yy):=ah.tr yy ag5 (fn:=Tryz.f191) az xp mixed (by kernel_rfl) (av.nil _ _) (fun x=>ax.nil) (fun x=>(by kernel_rfl)) fun x Q=>(by kernel_rfl)
def Ug:List (Nat×Ev.Spec):=(191,ak yy)::Gz
theorem GH:af Tryz.prog Ug:=af.add (fn:=Tryz.f191) (by kernel_rfl) aed xp
def F8 (x:(I3×I9)):I2:=
 (aj (Ic (x.2.1,x.2.2.1,x.2.2.2,x.1)) fun y=>
 (aj (compare (y.1,0)) fun aA=>
 (aA,y.2)))
def wC (x:(I3×I9)):Prop:=
 (oI (x.2.1,x.2.2.1,x.2.2.2,x.1))
def adU (x:(I3×I9)):Tr I2 true:=
 (.fn yy (x.2.1,x.2.2.1,x.2.2.2,x.1) fun y=>
 (.fn0 eL (y.1,z0) trivial fun aA=>
 (.ret (aA,y.2))))
abbrev zZ:cf:=⟨(.pair (.agg aO) (.agg ff)),(.pair (.one yi) (.one yi)),wC,F8⟩
theorem aav:ah Tryz.prog 190 (ak zZ):=ah.tr zZ adU (fn:=Tryz.f190) az GH mixed (by kernel_rfl) (av.nil _ _) (fun x=>ax.nil) (fun x=>(by kernel_rfl)) fun x Q=>(by kernel_rfl)
def Pd:List (Nat×Ev.Spec):=(190,ak zZ)::Ug
theorem CU:af Tryz.prog Pd:=af.add (fn:=Tryz.f190) (by kernel_rfl) aav GH
def HW (x:Int):Bool:=
 (decide (x>=0))
def ada (_:Int):Prop:=True
def aiM (x:Int):Tr Bool false:=
 (.ret (decide (x>=z0)))
abbrev S8:cf:=⟨(.one yi),(.one Ty.bool),ada,HW⟩
theorem agh:ah Tryz.prog 192 (ak S8):=ah.tr S8 aiM (fn:=Tryz.f192) az CU mixed (by kernel_rfl) (av.nil _ _) (fun x=>ax.nil) (fun x=>(by kernel_rfl)) fun x Q=>(by kernel_rfl)
def aaK:List (Nat×Ev.Spec):=(192,ak S8)::Pd
theorem J3:af Tryz.prog aaK:=af.add (fn:=Tryz.f192) (by kernel_rfl) agh CU
def Y2 (x:Int):Bool:=
 (decide (x<=0))
def Vw (_:Int):Prop:=True
def acP (x:Int):Tr Bool false:=
 (.ret (decide (x<=z0)))
abbrev DC:cf:=⟨(.one yi),(.one Ty.bool),Vw,Y2⟩
theorem Y3:ah Tryz.prog 193 (ak DC):=ah.tr DC acP (fn:=Tryz.f193) az J3 mixed (by kernel_rfl) (av.nil _ _) (fun x=>ax.nil) (fun x=>(by kernel_rfl)) fun x Q=>(by kernel_rfl)
def O3:List (Nat×Ev.Spec):=(193,ak DC)::aaK
theorem ve:af Tryz.prog O3:=af.add (fn:=Tryz.f193) (by kernel_rfl) Y3 J3
def SG (x:(Bool×List Int)):aL:=⟨[],⟨dL 18 0 [(0,.v (.one (.iT 192 0 []))),(7,.v (.one (.full 0))),(8,.v (.one (.i .i64))),(9,.v (.one (.i .i64)))],[.row yi 0],0,none,[],[0,2],[1],[.i],[.i (x.2.length:Int),.l yi x.2]⟩,[⟨.ret,.ret,⟨dL 18 0 [(4,.v (.one (.b)))],[],0,none,[],[0],[],[],[.b false]⟩⟩,⟨(.exit 0),.normal,⟨dL 18 0 [],[],0,none,[],[],[],[],[]⟩⟩]⟩
def mX (x:(Bool×List Int)) (s:Int):Int⊕(Unit⊕Unit):=
 (if (s<(x.2.length:Int)) then
 (aj (HW (x.2.getD s.toNat 0)) fun y=>
 (if ((!y)=true) then
 (Sum.inr (Sum.inl ())) else
 (Sum.inl (au (s+1))))) else
 (Sum.inr (Sum.inr (()))))
def B5 (x:(Bool×List Int)) (s:Int):Prop:=
 ((s<(x.2.length:Int))->
 (((0<=s)/\ (s<(x.2.length:Int)))/\
 ((s.toNat<x.2.length)/\
 (s.toNat<x.2.length))))
def Ik (x:(Bool×List Int)) (s:Int):Tr (Int⊕(Unit⊕Unit)) true:=
 (.i10 (s<(nL x.2))
 (.nc s x.2
 (.fn0 S8 (gI x.2 s) trivial fun y=>
 (.iQ (!y)
 (.ret (.inr (Sum.inl ())))
 (.ret (.inl (w1 s))))))
 (.ret (.inr (Sum.inr (())))))
def abZ (x:(Bool×List Int)):Bool:=
 (aj (run (mX x) 0) fun r=>
 (Sum.elim (fun a=>
 false) (fun b=>
 true) r))
def Ek (x:(Bool×List Int)):Prop:=
 (Term (mX x) (B5 x) 0)
def afg (x:(Bool×List Int)):Tr Bool true:=
 (aL.lp (SG x) (Ik x) z0 fun r=>
 (.OD r (fun a=>
 (.ret false)) (fun b=>
 (.ret true))))
abbrev Ej:cf:=⟨(.pair (.iT 192 .none) (.one (Ty.sl yi))),(.one Ty.bool),Ek,abZ⟩
theorem SH:ah Tryz.prog 194 (ak Ej):=ah.tr Ej afg (fn:=Tryz.f194) az ve mixed (by kernel_rfl) (av.nil _ _) (fun x=>(ax.tr az (af.eA ve (av.nil _ _)) mixed 0 (SG x) (Ik x) ax.nil (by kernel_rfl) fun g s Q=>(by kernel_rfl))) (fun x=>(by kernel_rfl)) fun x Q=>(by kernel_rfl)
def TP:List (Nat×Ev.Spec):=(194,ak Ej)::O3
theorem yh:af Tryz.prog TP:=af.add (fn:=Tryz.f194) (by kernel_rfl) SH ve
def SF (x:(Bool×List Int)):aL:=⟨[],⟨dL 18 0 [(0,.v (.one (.iT 193 0 []))),(7,.v (.one (.full 0))),(8,.v (.one (.i .i64))),(9,.v (.one (.i .i64)))],[.row yi 0],0,none,[],[0,2],[1],[.i],[.i (x.2.length:Int),.l yi x.2]⟩,[⟨.ret,.ret,⟨dL 18 0 [(4,.v (.one (.b)))],[],0,none,[],[0],[],[],[.b false]⟩⟩,⟨(.exit 0),.normal,⟨dL 18 0 [],[],0,none,[],[],[],[],[]⟩⟩]⟩
def mW (x:(Bool×List Int)) (s:Int):Int⊕(Unit⊕Unit):=
 (if (s<(x.2.length:Int)) then
 (aj (Y2 (x.2.getD s.toNat 0)) fun y=>
 (if ((!y)=true) then
 (Sum.inr (Sum.inl ())) else
 (Sum.inl (au (s+1))))) else
 (Sum.inr (Sum.inr (()))))
def B4 (x:(Bool×List Int)) (s:Int):Prop:=
 ((s<(x.2.length:Int))->
 (((0<=s)/\ (s<(x.2.length:Int)))/\
 ((s.toNat<x.2.length)/\
 (s.toNat<x.2.length))))
def Ij (x:(Bool×List Int)) (s:Int):Tr (Int⊕(Unit⊕Unit)) true:=
 (.i10 (s<(nL x.2))
 (.nc s x.2
 (.fn0 DC (gI x.2 s) trivial fun y=>
 (.iQ (!y)
 (.ret (.inr (Sum.inl ())))
 (.ret (.inl (w1 s))))))
 (.ret (.inr (Sum.inr (())))))
def afe (x:(Bool×List Int)):Bool:=
 (aj (run (mW x) 0) fun r=>
 (Sum.elim (fun a=>
 false) (fun b=>
 true) r))
def Eg (x:(Bool×List Int)):Prop:=
 (Term (mW x) (B4 x) 0)
def aff (x:(Bool×List Int)):Tr Bool true:=
 (aL.lp (SF x) (Ij x) z0 fun r=>
 (.OD r (fun a=>
 (.ret false)) (fun b=>
 (.ret true))))
abbrev Ef:cf:=⟨(.pair (.iT 193 .none) (.one (Ty.sl yi))),(.one Ty.bool),Eg,afe⟩
theorem abY:ah Tryz.prog 194 (ak Ef):=ah.tr Ef aff (fn:=Tryz.f194) az yh mixed (by kernel_rfl) (av.nil _ _) (fun x=>(ax.tr az (af.eA yh (av.nil _ _)) mixed 0 (SF x) (Ij x) ax.nil (by kernel_rfl) fun g s Q=>(by kernel_rfl))) (fun x=>(by kernel_rfl)) fun x Q=>(by kernel_rfl)
def TO:List (Nat×Ev.Spec):=(194,vA Ef.p (ak Ef) (ak Ej))::TP
theorem yg:af Tryz.prog TO:=af.add (fn:=Tryz.f194) (by kernel_rfl) (ry abY (SH)) yh
def Y8 (x:(I3×I3×I9)):(Bool×Int):=
 (aj (ef [x.1,x.2.1]) fun y=>
 (if ((!y)=true) then
 (false,5) else
 (aj (ef [x.2.2.1,x.2.2.2.1,x.2.2.2.2]) fun aA=>
 (if ((!aA)=true) then
 (false,5) else
 (aj (F8 (x.1,x.2.2)) fun y_2=>
 (aj (F8 x.2) fun bg=>
 (if ((au (y_2.1*bg.1))>=0) then
 (false,0) else
 (aj (Ic (x.1,x.2.1,x.2.2.1,x.2.2.2.1)) fun bW=>
 (aj (Ic (x.1,x.2.1,x.2.2.2)) fun cC=>
 (aj (Ic (x.1,x.2.1,x.2.2.2.2,x.2.2.1)) fun fP=>
 (aj (abZ (false,[bW.1,cC.1,fP.1])) fun ig=>
 (if (ig=true) then
 (true,0) else
 (aj (afe (false,[bW.1,cC.1,fP.1])) fun wN=>
 (wN,0))))))))))))))
def zc (x:(I3×I3×I9)):Prop:=
 ((cA [x.1,x.2.1])/\
 aB (ef [x.1,x.2.1]) fun y=>
 (¬((!y)=true)->
 ((cA [x.2.2.1,x.2.2.2.1,x.2.2.2.2])/\
 aB (ef [x.2.2.1,x.2.2.2.1,x.2.2.2.2]) fun aA=>
 (¬((!aA)=true)->
 ((wC (x.1,x.2.2))/\
 aB (F8 (x.1,x.2.2)) fun y_2=>
 ((wC x.2)/\
 aB (F8 x.2) fun bg=>
 (¬((au (y_2.1*bg.1))>=0)->
 ((oI (x.1,x.2.1,x.2.2.1,x.2.2.2.1))/\
 aB (Ic (x.1,x.2.1,x.2.2.1,x.2.2.2.1)) fun bW=>
 ((oI (x.1,x.2.1,x.2.2.2))/\
 aB (Ic (x.1,x.2.1,x.2.2.2)) fun cC=>
 ((oI (x.1,x.2.1,x.2.2.2.2,x.2.2.1))/\
 aB (Ic (x.1,x.2.1,x.2.2.2.2,x.2.2.1)) fun fP=>
 ((Ek (false,[bW.1,cC.1,fP.1]))/\
 aB (abZ (false,[bW.1,cC.1,fP.1])) fun ig=>
 (¬(ig=true)->
 (Eg (false,[bW.1,cC.1,fP.1]))))))))))))))
def af4 (x:(I3×I3×I9)):Tr (Bool×Int) true:=
 (.fn ej [x.1,x.2.1] fun y=>
 (.kO (!y)
 (.ret (false,5))
 (.fn ej [x.2.2.1,x.2.2.2.1,x.2.2.2.2] fun aA=>
 (.kO (!aA)
 (.ret (false,5))
 (.fn zZ (x.1,x.2.2) fun y_2=>
 (.fn zZ x.2 fun bg=>
 (.HX ((au (y_2.1*bg.1))>=z0)
 (.ret (false,z0))
 (.fn yy (x.1,x.2.1,x.2.2.1,x.2.2.2.1) fun bW=>
 (.fn yy (x.1,x.2.1,x.2.2.2) fun cC=>
 (.fn yy (x.1,x.2.1,x.2.2.2.2,x.2.2.1) fun fP=>
 (.fn Ej (false,[bW.1,cC.1,fP.1]) fun ig=>
 (.kO ig
 (.ret (true,z0))
 (.fn Ef (false,[bW.1,cC.1,fP.1]) fun wN=>
 (.ret (wN,z0)))))))))))))))
abbrev Lu:cf:=⟨(.pair (.agg aO) (.pair (.agg aO) (.agg ff))),(.pair (.one Ty.bool) (.one yi)),zc,Y8⟩
theorem acV:ah Tryz.prog 174 (ak Lu):=ah.tr Lu af4 (fn:=Tryz.f174) az yg mixed (by kernel_rfl) (av.nil _ _) (fun x=>(ax.nD az (af.eA yg (av.nil _ _)) mixed 0 4 ax.nil (by kernel_rfl))) (fun x=>(by kernel_rfl)) fun x Q=>(by kernel_rfl)
def T6:List (Nat×Ev.Spec):=(174,ak Lu)::TO
theorem Gr:af Tryz.prog T6:=af.add (fn:=Tryz.f174) (by kernel_rfl) acV yg
end Go.Proofs.YtngdehlpoomaiaaGreat
