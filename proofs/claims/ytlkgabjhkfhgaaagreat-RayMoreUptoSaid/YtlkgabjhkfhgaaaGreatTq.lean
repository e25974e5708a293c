/- Models of tree's functions: split. -/
import Derived.Test.YtlkgabjhkfhgaaaGreatTp
noncomputable section
set_option linter.unusedSectionVars false
set_option linter.unusedVariables false
set_option linter.unusedSimpArgs false
namespace Go.Proofs.YtlkgabjhkfhgaaaGreat
open Go Go.Ev Go.Proofs
def FH (x:(Int×(List Int))):aI:=⟨[],⟨cA 23 0 [(0,.v (.one (.i .i64))),(7,.v (.one (.full 0))),(8,.v (.one (.i .i64))),(9,.v (.one (.i .i64)))],[.row yi 0],0,none,[],[0,1,3],[2],[.i],[.i x.1,.i (x.2.length:Int),.l yi x.2]⟩,[⟨.ret,.ret,⟨cA 23 0 [(4,.v (.one (.b)))],[],0,none,[],[0],[],[],[.b false]⟩⟩,⟨(.exit 0),.normal,⟨cA 23 0 [],[],0,none,[],[],[],[],[]⟩⟩]⟩
def jO (x:(Int×(List Int))) (s:Int):Int⊕(Unit⊕Unit):=
 (if (s<(x.2.length:Int)) then
 (if ((List.getD x.2 (Int.toNat s) (0:Int))<(ae ((0:Int)- x.1))) then
 (Sum.inr (Sum.inl ())) else
 (if ((List.getD x.2 (Int.toNat s) (0:Int))>x.1) then
 (Sum.inr (Sum.inl ())) else
 (Sum.inl (ae (s+(1:Int)))))) else
 (Sum.inr (Sum.inr (()))))
def tW (x:(Int×(List Int))) (s:Int):Prop:=
 ((s<(x.2.length:Int))->
 ((((0:Int)<=s)/\ (s<(x.2.length:Int)))/\
 (((Int.toNat s)<(List.length x.2))/\
 ((Int.toNat s)<(List.length x.2)))))
def zE (x:(Int×(List Int))) (s:Int):Tr (Int⊕(Unit⊕Unit)) true:=
 (.i10 (s<(nL x.2))
 (.bO s x.2
 (.tu ((gI x.2 s)<(ae (z0- x.1)))
 (.ret (.inr (Sum.inl ())))
 (.tu ((gI x.2 s)>x.1)
 (.ret (.inr (Sum.inl ())))
 (.ret (.inl (w1 s))))))
 (.ret (.inr (Sum.inr (())))))
def within (x:(Int×(List Int))):Bool:=
 (ai (run (jO x) (0:Int)) fun r=>
 (Sum.elim (fun a=>
 false) (fun b=>
 true) r))
def u5 (x:(Int×(List Int))):Prop:=
 (Term (jO x) (tW x) (0:Int))
def S4 (x:(Int×(List Int))):Tr Bool true:=
 (aI.lp (FH x) (zE x) z0 fun r=>
 (.Hj r (fun a=>
 (.ret false)) (fun b=>
 (.ret true))))
abbrev xy:dS:=⟨(.pair (.one yi) (.one (Ty.sl yi))),(.one Ty.bool),u5,within⟩
theorem Pt:ak Tryz.prog 50 (av xy):=ak.tr xy S4 (fn:=Tryz.f50) aC so mixed (by kernel_rfl) (aA.nil _ _) (fun x=>(aB.tr aC (ah.c8 so (aA.nil _ _)) mixed 0 (FH x) (zE x) aB.nil (by kernel_rfl) fun g s Q=>(by kernel_rfl))) (fun x=>(by kernel_rfl)) fun x Q=>(by kernel_rfl)
def FB:List (Nat×Ev.Spec):=(50,av xy)::Jy
theorem ql:ah Tryz.prog FB:=ah.add (fn:=Tryz.f50) (by kernel_rfl) Pt so
def E5 (x:(List I3)):aI:=⟨[],⟨cA 21 0 [(5,.v (.one (.full 0))),(6,.v (.one (.i .i64))),(7,.v (.one (.i .i64)))],[.row bz 0],0,none,[],[0,2],[1],[.i],[.i (x.length:Int),.l bz x]⟩,[⟨.ret,.ret,⟨cA 21 0 [(2,.v (.one (.b)))],[],0,none,[],[0],[],[],[.b false]⟩⟩,⟨(.exit 0),.normal,⟨cA 21 0 [],[],0,none,[],[],[],[],[]⟩⟩]⟩
def jM (x:(List I3)) (s:Int):Int⊕(Unit⊕Unit):=
 (if (s<(x.length:Int)) then
 (ai (within ((16384:Int),[(List.getD x (Int.toNat s) ((0:Int),((0:Int),(0:Int)))).1,(List.getD x (Int.toNat s) ((0:Int),((0:Int),(0:Int)))).2.1,(List.getD x (Int.toNat s) ((0:Int),((0:Int),(0:Int)))).2.2])) fun y=>
 (if ((!y)=true) then
 (Sum.inr (Sum.inl ())) else
 (Sum.inl (ae (s+(1:Int)))))) else
 (Sum.inr (Sum.inr (()))))
def tP (x:(List I3)) (s:Int):Prop:=
 ((s<(x.length:Int))->
 ((((0:Int)<=s)/\ (s<(x.length:Int)))/\
 (((Int.toNat s)<(List.length x))/\
 (((Int.toNat s)<(List.length x))/\
 (u5 ((16384:Int),[(List.getD x (Int.toNat s) ((0:Int),((0:Int),(0:Int)))).1,(List.getD x (Int.toNat s) ((0:Int),((0:Int),(0:Int)))).2.1,(List.getD x (Int.toNat s) ((0:Int),((0:Int),(0:Int)))).2.2]))))))
def zi (x:(List I3)) (s:Int):Tr (Int⊕(Unit⊕Unit)) true:=
 (.i10 (s<(nL x))
 (.bO s x
 (.fn xy ((16384:Int),[(gT x s eE).1,(gT x s eE).2.1,(gT x s eE).2.2]) fun y=>
 (.fu (!y)
 (.ret (.inr (Sum.inl ())))
 (.ret (.inl (w1 s))))))
 (.ret (.inr (Sum.inr (())))))
def cJ (x:(List I3)):Bool:=
 (ai (run (jM x) (0:Int)) fun r=>
 (Sum.elim (fun a=>
 false) (fun b=>
 true) r))
def b9 (x:(List I3)):Prop:=
 (Term (jM x) (tP x) (0:Int))
def Sy (x:(List I3)):Tr Bool true:=
 (aI.lp (E5 x) (zi x) z0 fun r=>
 (.Hj r (fun a=>
 (.ret false)) (fun b=>
 (.ret true))))
abbrev dg:dS:=⟨(.one (Ty.sl bz)),(.one Ty.bool),b9,cJ⟩
theorem Pd:ak Tryz.prog 26 (av dg):=ak.tr dg Sy (fn:=Tryz.f26) aC ql mixed (by kernel_rfl) (aA.nil _ _) (fun x=>(aB.tr aC (ah.c8 ql (aA.nil _ _)) mixed 0 (E5 x) (zi x) aB.nil (by kernel_rfl) fun g s Q=>(by kernel_rfl))) (fun x=>(by kernel_rfl)) fun x Q=>(by kernel_rfl)
def Fx:List (Nat×Ev.Spec):=(26,av dg)::FB
theorem xe:ah Tryz.prog Fx:=ah.add (fn:=Tryz.f26) (by kernel_rfl) Pd ql
def yg (x:I9):Bool:=
 (ai (cJ [x.1,x.2.1,x.2.2]) fun y=>
 (!y))
def uN (x:I9):Prop:=
 (b9 [x.1,x.2.1,x.2.2])
def SA (x:I9):Tr Bool true:=
 (.fn dg [x.1,x.2.1,x.2.2] fun y=>
 (.ret (!y)))
abbrev wK:dS:=⟨(.agg bP),(.one Ty.bool),uN,yg⟩
theorem Pf:ak Tryz.prog 70 (av wK):=ak.tr wK SA (fn:=Tryz.f70) aC xe mixed (by kernel_rfl) (aA.nil _ _) (fun x=>aB.nil) (fun x=>(by kernel_rfl)) fun x Q=>(by kernel_rfl)
def Fz:List (Nat×Ev.Spec):=(70,av wK)::Fx
theorem qk:ah Tryz.prog Fz:=ah.add (fn:=Tryz.f70) (by kernel_rfl) Pf xe
def Er (x:((List I9)×Bool)):aI:=⟨[],⟨cA 19 0 [(0,.v (.one (.full 0))),(1,.v (.one (.jS 70 0 []))),(7,.v (.one (.i .i64))),(8,.v (.one (.i .i64)))],[.row bP 0],0,none,[],[0,2],[1],[.i],[.i (x.1.length:Int),.l bP x.1]⟩,[⟨.ret,.ret,⟨cA 19 0 [(4,.v (.one (.i .i64)))],[],0,none,[],[],[0],[.i],[]⟩⟩,⟨(.exit 0),.normal,⟨cA 19 0 [],[],0,none,[],[],[],[],[]⟩⟩]⟩
def gS (x:((List I9)×Bool)) (s:Int):Int⊕(Int⊕Unit):=
 (if (s<(x.1.length:Int)) then
 (ai (yg (List.getD x.1 (Int.toNat s) (((0:Int),((0:Int),(0:Int))),(((0:Int),((0:Int),(0:Int))),((0:Int),((0:Int),(0:Int))))))) fun y=>
 (if (y=true) then
 (Sum.inr (Sum.inl s)) else
 (Sum.inl (ae (s+(1:Int)))))) else
 (Sum.inr (Sum.inr (()))))
def oo (x:((List I9)×Bool)) (s:Int):Prop:=
 ((s<(x.1.length:Int))->
 ((((0:Int)<=s)/\ (s<(x.1.length:Int)))/\
 (((Int.toNat s)<(List.length x.1))/\
 (((Int.toNat s)<(List.length x.1))/\
 (uN (List.getD x.1 (Int.toNat s) (((0:Int),((0:Int),(0:Int))),(((0:Int),((0:Int),(0:Int))),((0:Int),((0:Int),(0:Int)))))))))))
def yQ (x:((List I9)×Bool)) (s:Int):Tr (Int⊕(Int⊕Unit)) true:=
 (.i10 (s<(nL x.1))
 (.bO s x.1
 (.fn wK (gT x.1 s G5) fun y=>
 (.fu y
 (.ret (.inr (Sum.inl s)))
 (.ret (.inl (w1 s))))))
 (.ret (.inr (Sum.inr (())))))
def KG (x:((List I9)×Bool)):Int:=
 (ai (run (gS x) (0:Int)) fun r=>
 (Sum.elim (fun a=>
 a) (fun b=>
 (-1:Int)) r))
def Bs (x:((List I9)×Bool)):Prop:=
 (Term (gS x) (oo x) (0:Int))
def Q8 (x:((List I9)×Bool)):Tr Int true:=
 (aI.lp (Er x) (yQ x) z0 fun r=>
 (.Hj r (fun a=>
 (.ret a)) (fun b=>
 (.ret (-1:Int)))))
abbrev vF:dS:=⟨(.pair (.one (Ty.sl bP)) (.jS 70 .none)),(.one yi),Bs,KG⟩
theorem Ob:ak Tryz.prog 101 (av vF):=ak.tr vF Q8 (fn:=Tryz.f101) aC qk mixed (by kernel_rfl) (aA.nil _ _) (fun x=>(aB.tr aC (ah.c8 qk (aA.nil _ _)) mixed 0 (Er x) (yQ x) aB.nil (by kernel_rfl) fun g s Q=>(by kernel_rfl))) (fun x=>(by kernel_rfl)) fun x Q=>(by kernel_rfl)
def Fi:List (Nat×Ev.Spec):=(101,av vF)::Fz
theorem wZ:ah Tryz.prog Fi:=ah.add (fn:=Tryz.f101) (by kernel_rfl) Ob qk
def xK (x:((List I9)×Bool)):Bool:=
 (ai (KG (x.1,false)) fun y=>
 (decide (y>=(0:Int))))
def tF (x:((List I9)×Bool)):Prop:=
 (Bs (x.1,false))
def HM (x:((List I9)×Bool)):Tr Bool true:=
 (.fn vF (x.1,false) fun y=>
 (.ret (decide (y>=z0))))
abbrev nC:dS:=⟨(.pair (.one (Ty.sl bP)) (.jS 70 .none)),(.one Ty.bool),tF,xK⟩
theorem F0:ak Tryz.prog 69 (av nC):=ak.tr nC HM (fn:=Tryz.f69) aC wZ mixed (by kernel_rfl) (aA.nil _ _) (fun x=>aB.nil) (fun x=>(by kernel_rfl)) fun x Q=>(by kernel_rfl)
def wS:List (Nat×Ev.Spec):=(69,av nC)::Fi
theorem qx:ah Tryz.prog wS:=ah.add (fn:=Tryz.f69) (by kernel_rfl) F0 wZ
def yf (x:(List I9)):Bool:=
 (ai (xK (x,false)) fun y=>
 (!y))
def uL (x:(List I9)):Prop:=
 (tF (x,false))
def Sz (x:(List I9)):Tr Bool true:=
 (.fn nC (x,false) fun y=>
 (.ret (!y)))
abbrev wJ:dS:=⟨(.one (Ty.sl bP)),(.one Ty.bool),uL,yf⟩
theorem Pe:ak Tryz.prog 44 (av wJ):=ak.tr wJ Sz (fn:=Tryz.f44) aC qx mixed (by kernel_rfl) (aA.nil _ _) (fun x=>aB.nil) (fun x=>(by kernel_rfl)) fun x Q=>(by kernel_rfl)
def Fy:List (Nat×Ev.Spec):=(44,av wJ)::wS
theorem xg:ah Tryz.prog Fy:=ah.add (fn:=Tryz.f44) (by kernel_rfl) Pe qx
def qO (x:(List Int)):(List Int):=
 ((List.replicate 0 (0:Int))++x)
def jY (x:(List Int)):Prop:=
 (∀b:Bool,((0<(List.length x))->(b=false))->(((if (b=true) then
 [] else
 ((List.replicate 0 (0:Int))++x))=((List.replicate 0 (0:Int))++x))/\ (¬(b=true)->
 ((0+(List.length x))<1099511627776))))
def P7 (x:(List Int)):Tr (List Int) true:=
 (.nil (fun b=>((0<(List.length x))->(b=false))) fun b=>
 (.nY b
 (.ret [])
 (.od ((0+(List.length x))<1099511627776)
 (.ret ((List.replicate 0 z0)++x)))))
abbrev vm:dS:=⟨(.one (Ty.sl yi)),(.one (Ty.sl yi)),jY,qO⟩
theorem Ns:ak Tryz.prog 47 (av vm):=ak.tr vm P7 (fn:=Tryz.f47) aC xg mixed (by kernel_rfl) (aA.dead 47 (fn:=Tryz.f47) (by kernel_rfl)) (fun x=>aB.nil) (fun x=>(by kernel_rfl)) fun x Q=>(by kernel_rfl)
def E7:List (Nat×Ev.Spec):=(47,av vm)::Fy
theorem wN:ah Tryz.prog E7:=ah.add (fn:=Tryz.f47) (by kernel_rfl) Ns xg
def Mz (x:I3):I3:=
 x
def OX (_:I3):Prop:=True
def U6 (x:I3):Tr I3 false:=
 (.ret x)
abbrev wg:dS:=⟨(.agg bz),(.agg bz),OX,Mz⟩
theorem R8:ak Tryz.prog 102 (av wg):=ak.tr wg U6 (fn:=Tryz.f102) aC wN mixed (by kernel_rfl) (aA.nil _ _) (fun x=>aB.nil) (fun x=>(by kernel_rfl)) fun x Q=>(by kernel_rfl)
def Jv:List (Nat×Ev.Spec):=(102,av wg)::E7
theorem zx:ah Tryz.prog Jv:=ah.add (fn:=Tryz.f102) (by kernel_rfl) R8 wN
def parts (x:I3):I3:=
 x
def OV (_:I3):Prop:=True
def UU (x:I3):Tr I3 false:=
 (.ret x)
abbrev fN:dS:=⟨(.agg bz),(.agg bz),OV,parts⟩
theorem RX:ak Tryz.prog 90 (av fN):=ak.tr fN UU (fn:=Tryz.f90) aC zx mixed (by kernel_rfl) (aA.nil _ _) (fun x=>aB.nil) (fun x=>(by kernel_rfl)) fun x Q=>(by kernel_rfl)
def Ju:List (Nat×Ev.Spec):=(90,av fN)::Jv
theorem sk:ah Tryz.prog Ju:=ah.add (fn:=Tryz.f90) (by kernel_rfl) RX zx
def hasB (x:((I3×I3)×I3)):Bool:=
 (ai (parts x.1.1) fun y=>
 (ai (parts x.1.2) fun aq=>
 (ai (parts x.2) fun y_2=>
 (if (y_2.1<y.1) then
 false else
 (if (y_2.1>aq.1) then
 false else
 (if (y_2.2.1<y.2.1) then
 false else
 (if (y_2.2.1>aq.2.1) then
 false else
 (if (y_2.2.2<y.2.2) then
 false else
 (if (y_2.2.2>aq.2.2) then
 false else
 true)))))))))
def Qv (_:((I3×I3)×I3)):Prop:=True
def WJ (x:((I3×I3)×I3)):Tr Bool false:=
 (.fn0 fN x.1.1 trivial fun y=>
 (.fn0 fN x.1.2 trivial fun aq=>
 (.fn0 fN x.2 trivial fun y_2=>
 (.tu (y_2.1<y.1)
 (.ret false)
 (.tu (y_2.1>aq.1)
 (.ret false)
 (.tu (y_2.2.1<y.2.1)
 (.ret false)
 (.tu (y_2.2.1>aq.2.1)
 (.ret false)
 (.tu (y_2.2.2<y.2.2)
 (.ret false)
 (.tu (y_2.2.2>aq.2.2)
 (.ret false)
 (.ret true))))))))))
abbrev A8:dS:=⟨(.pair (.agg (Ty.prod bz bz)) (.agg bz)),(.one Ty.bool),Qv,hasB⟩
theorem TP:ak Tryz.prog 115 (av A8):=ak.tr A8 WJ (fn:=Tryz.f115) aC sk mixed (by kernel_rfl) (aA.nil _ _) (fun x=>(aB.xq aC (ah.c8 sk (aA.nil _ _)) mixed 0 4 aB.nil (by kernel_rfl))) (fun x=>(by kernel_rfl)) fun x Q=>(by kernel_rfl)
def MN:List (Nat×Ev.Spec):=(115,av A8)::Ju
theorem Cz:ah Tryz.prog MN:=ah.add (fn:=Tryz.f115) (by kernel_rfl) TP sk
def ov (x:(I3×I3)):Bool:=
 (ai (cJ [x.1,x.2]) fun y=>
 (if (y=true) then
 (ai (hasB (x,x.1)) fun aq=>
 aq) else
 false))
def m0 (x:(I3×I3)):Prop:=
 (b9 [x.1,x.2])
def Ss (x:(I3×I3)):Tr Bool true:=
 (.fn dg [x.1,x.2] fun y=>
 (.fu y
 (.fn0 A8 (x,x.1) trivial fun aq=>
 (.ret aq))
 (.ret false)))
abbrev oU:dS:=⟨(.agg (Ty.prod bz bz)),(.one Ty.bool),m0,ov⟩
theorem Pb:ak Tryz.prog 87 (av oU):=ak.tr oU Ss (fn:=Tryz.f87) aC Cz mixed (by kernel_rfl) (aA.nil _ _) (fun x=>aB.nil) (fun x=>(by kernel_rfl)) fun x Q=>(by kernel_rfl)
def Fv:List (Nat×Ev.Spec):=(87,av oU)::MN
theorem my:ah Tryz.prog Fv:=ah.add (fn:=Tryz.f87) (by kernel_rfl) Pb Cz
def E4 (x:(List I3)):aI:=⟨[],⟨cA 64 0 [(2,.v (.one (.ptr 0 0))),(4,.v (.one (.ptr 1 0))),(5,.v (.one (.ptr 2 0))),(8,.v (.one (.ptr 3 0))),(28,.v (.one (.full 4))),(29,.v (.one (.i .i64))),(30,.v (.one (.i .i64))),(36,.v (.one (.i .i64)))],[.cells [.i .i64,.i .i64,.i .i64,.i .i64,.i .i64,.i .i64] 66,.cells [.i .i64,.i .i64,.i .i64] 138,.cells [.i .i64,.i .i64,.i .i64] 138,.cells [.i .i64,.i .i64,.i .i64] 138,.row bz 0],0,none,[],[0,3,4,5,6,7,8,18],[9,10,11,12,13,14,15,16,17,1,2],[.i,.i,.i,.i,.i,.i,.i,.i,.i,.i,.i],[.i (x.length:Int),.i (0:Int),.i (0:Int),.i (0:Int),.i (0:Int),.i (0:Int),.i (0:Int),.l bz x]⟩,[⟨(.exit 3),.normal,⟨cA 64 0 [(2,.v (.one (.ptr 0 0))),(4,.v (.one (.ptr 1 0))),(5,.v (.one (.ptr 2 0))),(28,.v (.one (.full 3))),(29,.v (.one (.i .i64))),(30,.v (.one (.i .i64)))],[.cells [.i .i64,.i .i64,.i .i64,.i .i64,.i .i64,.i .i64] 66,.cells [.i .i64,.i .i64,.i .i64] 138,.cells [.i .i64,.i .i64,.i .i64] 138,.row bz 0],0,none,[],[0,2,3,4,5,6,7,14],[8,9,10,11,12,13,1],[.i,.i,.i,.i,.i,.i,.i],[.i (x.length:Int),.i (0:Int),.i (0:Int),.i (0:Int),.i (0:Int),.i (0:Int),.i (0:Int),.l bz x]⟩⟩]⟩
def m7 (x:(List I3)) (s:(Int×(Int×(Int×(Int×(Int×(Int×(Int×(Int×I3))))))))):(Int×(Int×(Int×(Int×(Int×(Int×(Int×(Int×I3))))))))⊕(Int×(Int×(Int×(Int×I3)))):=
 (if (s.2.2.2.2.2.2.2.2.2.2<(3:Int)) then
 (Sum.inl ((cond (Nat.beq (0+((Int.toNat s.2.2.2.2.2.2.2.2.2.2)*1)) 0) (fe (List.getD [s.1,s.2.1,s.2.2.1] (0+((Int.toNat s.2.2.2.2.2.2.2.2.2.2)*1)) (0:Int)) (List.getD [s.2.2.2.2.2.2.1,s.2.2.2.2.2.2.2.1,s.2.2.2.2.2.2.2.2.1] (0+((Int.toNat s.2.2.2.2.2.2.2.2.2.2)*1)) (0:Int))) s.1),((cond (Nat.beq (0+((Int.toNat s.2.2.2.2.2.2.2.2.2.2)*1)) 1) (fe (List.getD [s.1,s.2.1,s.2.2.1] (0+((Int.toNat s.2.2.2.2.2.2.2.2.2.2)*1)) (0:Int)) (List.getD [s.2.2.2.2.2.2.1,s.2.2.2.2.2.2.2.1,s.2.2.2.2.2.2.2.2.1] (0+((Int.toNat s.2.2.2.2.2.2.2.2.2.2)*1)) (0:Int))) s.2.1),((cond (Nat.beq (0+((Int.toNat s.2.2.2.2.2.2.2.2.2.2)*1)) 2) (fe (List.getD [s.1,s.2.1,s.2.2.1] (0+((Int.toNat s.2.2.2.2.2.2.2.2.2.2)*1)) (0:Int)) (List.getD [s.2.2.2.2.2.2.1,s.2.2.2.2.2.2.2.1,s.2.2.2.2.2.2.2.2.1] (0+((Int.toNat s.2.2.2.2.2.2.2.2.2.2)*1)) (0:Int))) s.2.2.1),((cond (Nat.beq (0+((Int.toNat s.2.2.2.2.2.2.2.2.2.2)*1)) 0) (eI (List.getD [s.2.2.2.1,s.2.2.2.2.1,s.2.2.2.2.2.1] (0+((Int.toNat s.2.2.2.2.2.2.2.2.2.2)*1)) (0:Int)) (List.getD [s.2.2.2.2.2.2.1,s.2.2.2.2.2.2.2.1,s.2.2.2.2.2.2.2.2.1] (0+((Int.toNat s.2.2.2.2.2.2.2.2.2.2)*1)) (0:Int))) s.2.2.2.1),((cond (Nat.beq (0+((Int.toNat s.2.2.2.2.2.2.2.2.2.2)*1)) 1) (eI (List.getD [s.2.2.2.1,s.2.2.2.2.1,s.2.2.2.2.2.1] (0+((Int.toNat s.2.2.2.2.2.2.2.2.2.2)*1)) (0:Int)) (List.getD [s.2.2.2.2.2.2.1,s.2.2.2.2.2.2.2.1,s.2.2.2.2.2.2.2.2.1] (0+((Int.toNat s.2.2.2.2.2.2.2.2.2.2)*1)) (0:Int))) s.2.2.2.2.1),((cond (Nat.beq (0+((Int.toNat s.2.2.2.2.2.2.2.2.2.2)*1)) 2) (eI (List.getD [s.2.2.2.1,s.2.2.2.2.1,s.2.2.2.2.2.1] (0+((Int.toNat s.2.2.2.2.2.2.2.2.2.2)*1)) (0:Int)) (List.getD [s.2.2.2.2.2.2.1,s.2.2.2.2.2.2.2.1,s.2.2.2.2.2.2.2.2.1] (0+((Int.toNat s.2.2.2.2.2.2.2.2.2.2)*1)) (0:Int))) s.2.2.2.2.2.1),(s.2.2.2.2.2.2.1,(s.2.2.2.2.2.2.2.1,(s.2.2.2.2.2.2.2.2.1,(s.2.2.2.2.2.2.2.2.2.1,(ae (s.2.2.2.2.2.2.2.2.2.2+(1:Int)))))))))))))) else
 (Sum.inr ((s.1,(s.2.1,(s.2.2.1,(s.2.2.2.1,(s.2.2.2.2.1,(s.2.2.2.2.2.1,s.2.2.2.2.2.2.2.2.2.1)))))))))
def gy (x:(List I3)) (s:(Int×(Int×(Int×(Int×(Int×(Int×(Int×(Int×I3))))))))):Prop:=
 ((s.2.2.2.2.2.2.2.2.2.2<(3:Int))->
 ((((0:Int)<=s.2.2.2.2.2.2.2.2.2.2)/\ (s.2.2.2.2.2.2.2.2.2.2<(3:Int)))/\
 ((((0+((Int.toNat s.2.2.2.2.2.2.2.2.2.2)*1))+1)<=3)/\
 ((((0:Int)<=s.2.2.2.2.2.2.2.2.2.2)/\ (s.2.2.2.2.2.2.2.2.2.2<(3:Int)))/\
 ((((0+((Int.toNat s.2.2.2.2.2.2.2.2.2.2)*1))+1)<=3)/\
 ((((0:Int)<=s.2.2.2.2.2.2.2.2.2.2)/\ (s.2.2.2.2.2.2.2.2.2.2<(3:Int)))/\
 ((((0+((Int.toNat s.2.2.2.2.2.2.2.2.2.2)*1))+1)<=3)/\
 ((((0:Int)<=s.2.2.2.2.2.2.2.2.2.2)/\ (s.2.2.2.2.2.2.2.2.2.2<(3:Int)))/\
 ((((0+((Int.toNat s.2.2.2.2.2.2.2.2.2.2)*1))+1)<=3)/\
 ((((0:Int)<=s.2.2.2.2.2.2.2.2.2.2)/\ (s.2.2.2.2.2.2.2.2.2.2<(3:Int)))/\
 ((((0+((Int.toNat s.2.2.2.2.2.2.2.2.2.2)*1))+1)<=3)/\
 ((((0:Int)<=s.2.2.2.2.2.2.2.2.2.2)/\ (s.2.2.2.2.2.2.2.2.2.2<(3:Int)))/\
 (((0+((Int.toNat s.2.2.2.2.2.2.2.2.2.2)*1))+1)<=3)))))))))))))
def zg (x:(List I3)) (s:(Int×(Int×(Int×(Int×(Int×(Int×(Int×(Int×I3))))))))):Tr ((Int×(Int×(Int×(Int×(Int×(Int×(Int×(Int×I3))))))))⊕(Int×(Int×(Int×(Int×I3))))) true:=
 (.i10 (s.2.2.2.2.2.2.2.2.2.2<(3:Int))
 (.oR s.2.2.2.2.2.2.2.2.2.2 (3:Int)
 (.od (((0+((tN s.2.2.2.2.2.2.2.2.2.2)*1))+1)<=3)
 (.oR s.2.2.2.2.2.2.2.2.2.2 (3:Int)
 (.od (((0+((tN s.2.2.2.2.2.2.2.2.2.2)*1))+1)<=3)
 (.oR s.2.2.2.2.2.2.2.2.2.2 (3:Int)
 (.od (((0+((tN s.2.2.2.2.2.2.2.2.2.2)*1))+1)<=3)
 (.oR s.2.2.2.2.2.2.2.2.2.2 (3:Int)
 (.od (((0+((tN s.2.2.2.2.2.2.2.2.2.2)*1))+1)<=3)
 (.oR s.2.2.2.2.2.2.2.2.2.2 (3:Int)
 (.od (((0+((tN s.2.2.2.2.2.2.2.2.2.2)*1))+1)<=3)
 (.oR s.2.2.2.2.2.2.2.2.2.2 (3:Int)
 (.od (((0+((tN s.2.2.2.2.2.2.2.2.2.2)*1))+1)<=3)
 (.ret (.inl ((cond (Nat.beq (0+((tN s.2.2.2.2.2.2.2.2.2.2)*1)) 0) (fe (List.getD [s.1,s.2.1,s.2.2.1] (0+((tN s.2.2.2.2.2.2.2.2.2.2)*1)) z0) (List.getD [s.2.2.2.2.2.2.1,s.2.2.2.2.2.2.2.1,s.2.2.2.2.2.2.2.2.1] (0+((tN s.2.2.2.2.2.2.2.2.2.2)*1)) z0)) s.1),((cond (Nat.beq (0+((tN s.2.2.2.2.2.2.2.2.2.2)*1)) 1) (fe (List.getD [s.1,s.2.1,s.2.2.1] (0+((tN s.2.2.2.2.2.2.2.2.2.2)*1)) z0) (List.getD [s.2.2.2.2.2.2.1,s.2.2.2.2.2.2.2.1,s.2.2.2.2.2.2.2.2.1] (0+((tN s.2.2.2.2.2.2.2.2.2.2)*1)) z0)) s.2.1),((cond (Nat.beq (0+((tN s.2.2.2.2.2.2.2.2.2.2)*1)) 2) (fe (List.getD [s.1,s.2.1,s.2.2.1] (0+((tN s.2.2.2.2.2.2.2.2.2.2)*1)) z0) (List.getD [s.2.2.2.2.2.2.1,s.2.2.2.2.2.2.2.1,s.2.2.2.2.2.2.2.2.1] (0+((tN s.2.2.2.2.2.2.2.2.2.2)*1)) z0)) s.2.2.1),((cond (Nat.beq (0+((tN s.2.2.2.2.2.2.2.2.2.2)*1)) 0) (eI (List.getD [s.2.2.2.1,s.2.2.2.2.1,s.2.2.2.2.2.1] (0+((tN s.2.2.2.2.2.2.2.2.2.2)*1)) z0) (List.getD [s.2.2.2.2.2.2.1,s.2.2.2.2.2.2.2.1,s.2.2.2.2.2.2.2.2.1] (0+((tN s.2.2.2.2.2.2.2.2.2.2)*1)) z0)) s.2.2.2.1),((cond (Nat.beq (0+((tN s.2.2.2.2.2.2.2.2.2.2)*1)) 1) (eI (List.getD [s.2.2.2.1,s.2.2.2.2.1,s.2.2.2.2.2.1] (0+((tN s.2.2.2.2.2.2.2.2.2.2)*1)) z0) (List.getD [s.2.2.2.2.2.2.1,s.2.2.2.2.2.2.2.1,s.2.2.2.2.2.2.2.2.1] (0+((tN s.2.2.2.2.2.2.2.2.2.2)*1)) z0)) s.2.2.2.2.1),((cond (Nat.beq (0+((tN s.2.2.2.2.2.2.2.2.2.2)*1)) 2) (eI (List.getD [s.2.2.2.1,s.2.2.2.2.1,s.2.2.2.2.2.1] (0+((tN s.2.2.2.2.2.2.2.2.2.2)*1)) z0) (List.getD [s.2.2.2.2.2.2.1,s.2.2.2.2.2.2.2.1,s.2.2.2.2.2.2.2.2.1] (0+((tN s.2.2.2.2.2.2.2.2.2.2)*1)) z0)) s.2.2.2.2.2.1),(s.2.2.2.2.2.2.1,(s.2.2.2.2.2.2.2.1,(s.2.2.2.2.2.2.2.2.1,(s.2.2.2.2.2.2.2.2.2.1,(w1 s.2.2.2.2.2.2.2.2.2.2)))))))))))))))))))))))))
 (.ret (.inr ((s.1,(s.2.1,(s.2.2.1,(s.2.2.2.1,(s.2.2.2.2.1,(s.2.2.2.2.2.1,s.2.2.2.2.2.2.2.2.2.1))))))))))
def E3 (x:(List I3)):aI:=⟨[],⟨cA 64 0 [(2,.v (.one (.ptr 0 0))),(4,.v (.one (.ptr 1 0))),(5,.v (.one (.ptr 2 0))),(28,.v (.one (.full 3))),(29,.v (.one (.i .i64))),(30,.v (.one (.i .i64)))],[.cells [.i .i64,.i .i64,.i .i64,.i .i64,.i .i64,.i .i64] 66,.cells [.i .i64,.i .i64,.i .i64] 138,.cells [.i .i64,.i .i64,.i .i64] 138,.row bz 0],0,none,[],[0,2,3,4,5,6,7,14],[8,9,10,11,12,13,1],[.i,.i,.i,.i,.i,.i,.i],[.i (x.length:Int),.i (0:Int),.i (0:Int),.i (0:Int),.i (0:Int),.i (0:Int),.i (0:Int),.l bz x]⟩,[⟨(.exit 1),.normal,⟨cA 64 0 [(2,.v (.one (.ptr 0 0))),(4,.v (.one (.ptr 1 0))),(5,.v (.one (.ptr 2 0)))],[.cells [.i .i64,.i .i64,.i .i64,.i .i64,.i .i64,.i .i64] 66,.cells [.i .i64,.i .i64,.i .i64] 138,.cells [.i .i64,.i .i64,.i .i64] 138],0,none,[],[0,1,2,3,4,5],[6,7,8,9,10,11],[.i,.i,.i,.i,.i,.i],[.i (0:Int),.i (0:Int),.i (0:Int),.i (0:Int),.i (0:Int),.i (0:Int)]⟩⟩]⟩
def hO (x:(List I3)) (s:(Int×(Int×(Int×(Int×I3))))):(Int×(Int×(Int×(Int×I3))))⊕(Int×(Int×(Int×I3))):=
 (if (s.2.2.2.2.2.2<(x.length:Int)) then
 (ai (parts (List.getD x (Int.toNat s.2.2.2.2.2.2) ((0:Int),((0:Int),(0:Int))))) fun y=>
 (ai (run (m7 x) (s.1,(s.2.1,(s.2.2.1,(s.2.2.2.1,(s.2.2.2.2.1,(s.2.2.2.2.2.1,(y.1,(y.2.1,(y.2.2,(s.2.2.2.2.2.2,(0:Int)))))))))))) fun r=>
 (Sum.inl (r.1,(r.2.1,(r.2.2.1,(r.2.2.2.1,(r.2.2.2.2.1,(r.2.2.2.2.2.1,(ae (r.2.2.2.2.2.2+(1:Int)))))))))))) else
 (Sum.inr ((s.1,(s.2.1,(s.2.2.1,(s.2.2.2.1,(s.2.2.2.2.1,s.2.2.2.2.2.1))))))))
def kP (x:(List I3)) (s:(Int×(Int×(Int×(Int×I3))))):Prop:=
 ((s.2.2.2.2.2.2<(x.length:Int))->
 ((((0:Int)<=s.2.2.2.2.2.2)/\ (s.2.2.2.2.2.2<(x.length:Int)))/\
 (((Int.toNat s.2.2.2.2.2.2)<(List.length x))/\
 (((Int.toNat s.2.2.2.2.2.2)<(List.length x))/\
 (az (parts (List.getD x (Int.toNat s.2.2.2.2.2.2) ((0:Int),((0:Int),(0:Int))))) fun y=>
 (Term (m7 x) (gy x) (s.1,(s.2.1,(s.2.2.1,(s.2.2.2.1,(s.2.2.2.2.1,(s.2.2.2.2.2.1,(y.1,(y.2.1,(y.2.2,(s.2.2.2.2.2.2,(0:Int)))))))))))))))))
def zf (x:(List I3)) (s:(Int×(Int×(Int×(Int×I3))))):Tr ((Int×(Int×(Int×(Int×I3))))⊕(Int×(Int×(Int×I3)))) true:=
 (.i10 (s.2.2.2.2.2.2<(nL x))
 (.bO s.2.2.2.2.2.2 x
 (.fn0 fN (gT x s.2.2.2.2.2.2 eE) trivial fun y=>
 (aI.lp (E4 x) (zg x) (s.1,(s.2.1,(s.2.2.1,(s.2.2.2.1,(s.2.2.2.2.1,(s.2.2.2.2.2.1,(y.1,(y.2.1,(y.2.2,(s.2.2.2.2.2.2,z0)))))))))) fun r=>
 (.ret (.inl (r.1,(r.2.1,(r.2.2.1,(r.2.2.2.1,(r.2.2.2.2.1,(r.2.2.2.2.2.1,(w1 r.2.2.2.2.2.2))))))))))))
 (.ret (.inr ((s.1,(s.2.1,(s.2.2.1,(s.2.2.2.1,(s.2.2.2.2.1,s.2.2.2.2.2.1)))))))))
def rZ (x:(List I3)):((I3×I3)×Int):=
 (if (((x.length:Int)==(0:Int))=true) then
 ((((0:Int),((0:Int),(0:Int))),((0:Int),((0:Int),(0:Int)))),(1:Int)) else
 (ai (cJ x) fun y=>
 (if ((!y)=true) then
 ((((0:Int),((0:Int),(0:Int))),((0:Int),((0:Int),(0:Int)))),(5:Int)) else
 (ai (parts (List.getD x 0 ((0:Int),((0:Int),(0:Int))))) fun aq=>
 (ai (parts (List.getD x 0 ((0:Int),((0:Int),(0:Int))))) fun y_2=>
 (ai (run (hO x) (aq.1,(aq.2.1,(aq.2.2,(y_2.1,(y_2.2.1,(y_2.2.2,(0:Int)))))))) fun r=>
 (ai (Mz (r.1,(r.2.1,r.2.2.1))) fun au=>
 (ai (Mz r.2.2.2) fun aG=>
 ((au,aG),(0:Int))))))))))
def qe (x:(List I3)):Prop:=
 (¬(((x.length:Int)==(0:Int))=true)->
 ((b9 x)/\
 az (cJ x) fun y=>
 (¬((!y)=true)->
 (((0:Int)<(x.length:Int))/\
 ((0<(List.length x))/\
 ((0<(List.length x))/\
 (az (parts (List.getD x 0 ((0:Int),((0:Int),(0:Int))))) fun aq=>
 (((0:Int)<(x.length:Int))/\
 ((0<(List.length x))/\
 ((0<(List.length x))/\
 (az (parts (List.getD x 0 ((0:Int),((0:Int),(0:Int))))) fun y_2=>
 (Term (hO x) (kP x) (aq.1,(aq.2.1,(aq.2.2,(y_2.1,(y_2.2.1,(y_2.2.2,(0:Int)))))))))))))))))))
def Sv (x:(List I3)):Tr ((I3×I3)×Int) true:=
 (.nY ((nL x)==z0)
 (.ret ((eE,eE),z1))
 (.fn dg x fun y=>
 (.nY (!y)
 (.ret ((eE,eE),(5:Int)))
 (.og (true&&(decide (z0<(nL x)))) (z0<(nL x)) (fun h=>(c7 rfl (decide_eq_true h)))
 (.od (0<(List.length x))
 (.od (0<(List.length x))
 (.fn0 fN (List.getD x 0 eE) trivial fun aq=>
 (.og (true&&(decide (z0<(nL x)))) (z0<(nL x)) (fun h=>(c7 rfl (decide_eq_true h)))
 (.od (0<(List.length x))
 (.od (0<(List.length x))
 (.fn0 fN (List.getD x 0 eE) trivial fun y_2=>
 (aI.lp (E3 x) (zf x) (aq.1,(aq.2.1,(aq.2.2,(y_2.1,(y_2.2.1,(y_2.2.2,z0)))))) fun r=>
 (.fn0 wg (r.1,(r.2.1,r.2.2.1)) trivial fun au=>
 (.fn0 wg r.2.2.2 trivial fun aG=>
 (.ret ((au,aG),z0))))))))))))))))
abbrev wH:dS:=⟨(.one (Ty.sl bz)),(.pair (.agg (Ty.prod bz bz)) (.one yi)),qe,rZ⟩
theorem Pc:ak Tryz.prog 71 (av wH):=ak.tr wH Sv (fn:=Tryz.f71) aC my mixed (by kernel_rfl) (aA.nil _ _) (fun x=>(aB.tr aC (ah.c8 my (aA.nil _ _)) mixed 1 (E3 x) (zf x) (aB.tr aC (ah.c8 my (aA.nil _ _)) mixed 3 (E4 x) (zg x) aB.nil (by kernel_rfl) fun g s Q=>(by kernel_rfl)) (by kernel_rfl) fun g s Q=>(by kernel_rfl))) (fun x=>(by kernel_rfl)) fun x Q=>(by kernel_rfl)
def Fw:List (Nat×Ev.Spec):=(71,av wH)::Fv
theorem qj:ah Tryz.prog Fw:=ah.add (fn:=Tryz.f71) (by kernel_rfl) Pc my
def BI (x:(I3×I3)):aI:=⟨[],⟨cA 38 0 [(4,.v (.one (.ptr 0 0))),(5,.v (.one (.ptr 1 0))),(6,.v (.one (.i .i64))),(17,.v (.one (.i .i64)))],[.cells [.i .i64,.i .i64,.i .i64] 138,.cells [.i .i64,.i .i64,.i .i64] 138],0,none,[],[],[2,3,4,5,6,7,0,1],[.i,.i,.i,.i,.i,.i,.i,.i],[]⟩,[⟨(.exit 0),.normal,⟨cA 38 0 [(6,.v (.one (.i .i64)))],[],0,none,[],[],[0],[.i],[]⟩⟩]⟩
def fU (x:(I3×I3)) (s:(Int×(Int×(Int×(Int×(Int×I3)))))):(Int×(Int×(Int×(Int×(Int×I3)))))⊕Int:=
 (if (s.2.2.2.2.2.2.2<(3:Int)) then
 (if ((ae ((List.getD [s.2.2.2.1,s.2.2.2.2.1,s.2.2.2.2.2.1] (0+((Int.toNat s.2.2.2.2.2.2.2)*1)) (0:Int))- (List.getD [s.1,s.2.1,s.2.2.1] (0+((Int.toNat s.2.2.2.2.2.2.2)*1)) (0:Int))))>(ae ((List.getD [s.2.2.2.1,s.2.2.2.2.1,s.2.2.2.2.2.1] (0+((Int.toNat s.2.2.2.2.2.2.1)*1)) (0:Int))- (List.getD [s.1,s.2.1,s.2.2.1] (0+((Int.toNat s.2.2.2.2.2.2.1)*1)) (0:Int))))) then
 (Sum.inl (s.1,(s.2.1,(s.2.2.1,(s.2.2.2.1,(s.2.2.2.2.1,(s.2.2.2.2.2.1,(s.2.2.2.2.2.2.2,(ae (s.2.2.2.2.2.2.2+(1:Int))))))))))) else
 (Sum.inl (s.1,(s.2.1,(s.2.2.1,(s.2.2.2.1,(s.2.2.2.2.1,(s.2.2.2.2.2.1,(s.2.2.2.2.2.2.1,(ae (s.2.2.2.2.2.2.2+(1:Int)))))))))))) else
 (Sum.inr (s.2.2.2.2.2.2.1)))
def jB (x:(I3×I3)) (s:(Int×(Int×(Int×(Int×(Int×I3)))))):Prop:=
 ((s.2.2.2.2.2.2.2<(3:Int))->
 ((((0:Int)<=s.2.2.2.2.2.2.2)/\ (s.2.2.2.2.2.2.2<(3:Int)))/\
 ((((0+((Int.toNat s.2.2.2.2.2.2.2)*1))+1)<=3)/\
 ((((0:Int)<=s.2.2.2.2.2.2.2)/\ (s.2.2.2.2.2.2.2<(3:Int)))/\
 ((((0+((Int.toNat s.2.2.2.2.2.2.2)*1))+1)<=3)/\
 ((((0:Int)<=s.2.2.2.2.2.2.1)/\ (s.2.2.2.2.2.2.1<(3:Int)))/\
 ((((0+((Int.toNat s.2.2.2.2.2.2.1)*1))+1)<=3)/\
 ((((0:Int)<=s.2.2.2.2.2.2.1)/\ (s.2.2.2.2.2.2.1<(3:Int)))/\
 (((0+((Int.toNat s.2.2.2.2.2.2.1)*1))+1)<=3)))))))))
def vO (x:(I3×I3)) (s:(Int×(Int×(Int×(Int×(Int×I3)))))):Tr ((Int×(Int×(Int×(Int×(Int×I3)))))⊕Int) true:=
 (.i10 (s.2.2.2.2.2.2.2<(3:Int))
 (.oR s.2.2.2.2.2.2.2 (3:Int)
 (.od (((0+((tN s.2.2.2.2.2.2.2)*1))+1)<=3)
 (.oR s.2.2.2.2.2.2.2 (3:Int)
 (.od (((0+((tN s.2.2.2.2.2.2.2)*1))+1)<=3)
 (.oR s.2.2.2.2.2.2.1 (3:Int)
 (.od (((0+((tN s.2.2.2.2.2.2.1)*1))+1)<=3)
 (.oR s.2.2.2.2.2.2.1 (3:Int)
 (.od (((0+((tN s.2.2.2.2.2.2.1)*1))+1)<=3)
 (.tu ((ae ((List.getD [s.2.2.2.1,s.2.2.2.2.1,s.2.2.2.2.2.1] (0+((tN s.2.2.2.2.2.2.2)*1)) z0)- (List.getD [s.1,s.2.1,s.2.2.1] (0+((tN s.2.2.2.2.2.2.2)*1)) z0)))>(ae ((List.getD [s.2.2.2.1,s.2.2.2.2.1,s.2.2.2.2.2.1] (0+((tN s.2.2.2.2.2.2.1)*1)) z0)- (List.getD [s.1,s.2.1,s.2.2.1] (0+((tN s.2.2.2.2.2.2.1)*1)) z0))))
 (.ret (.inl (s.1,(s.2.1,(s.2.2.1,(s.2.2.2.1,(s.2.2.2.2.1,(s.2.2.2.2.2.1,(s.2.2.2.2.2.2.2,(w1 s.2.2.2.2.2.2.2))))))))))
 (.ret (.inl (s.1,(s.2.1,(s.2.2.1,(s.2.2.2.1,(s.2.2.2.2.1,(s.2.2.2.2.2.1,(s.2.2.2.2.2.2.1,(w1 s.2.2.2.2.2.2.2)))))))))))))))))))
 (.ret (.inr (s.2.2.2.2.2.2.1))))
def mb (x:(I3×I3)):I2:=
 (ai (ov x) fun y=>
 (if ((!y)=true) then
 ((0:Int),(1:Int)) else
 (ai (parts x.1) fun aq=>
 (ai (parts x.2) fun y_2=>
 (ai (run (fU x) (aq.1,(aq.2.1,(aq.2.2,(y_2.1,(y_2.2.1,(y_2.2.2,((0:Int),(0:Int))))))))) fun r=>
 (r,(0:Int)))))))
def lA (x:(I3×I3)):Prop:=
 ((m0 x)/\
 az (ov x) fun y=>
 (¬((!y)=true)->
 (az (parts x.1) fun aq=>
 (az (parts x.2) fun y_2=>
 (Term (fU x) (jB x) (aq.1,(aq.2.1,(aq.2.2,(y_2.1,(y_2.2.1,(y_2.2.2,((0:Int),(0:Int)))))))))))))
def Oz (x:(I3×I3)):Tr I2 true:=
 (.fn oU x fun y=>
 (.nY (!y)
 (.ret (z0,z1))
 (.fn0 fN x.1 trivial fun aq=>
 (.fn0 fN x.2 trivial fun y_2=>
 (aI.lp (BI x) (vO x) (aq.1,(aq.2.1,(aq.2.2,(y_2.1,(y_2.2.1,(y_2.2.2,Tj)))))) fun r=>
 (.ret (r,z0)))))))
abbrev xW:dS:=⟨(.agg (Ty.prod bz bz)),(.pair (.one yi) (.one yi)),lA,mb⟩
theorem KX:ak Tryz.prog 72 (av xW):=ak.tr xW Oz (fn:=Tryz.f72) aC qj mixed (by kernel_rfl) (aA.nil _ _) (fun x=>(aB.tr aC (ah.c8 qj (aA.nil _ _)) mixed 0 (BI x) (vO x) aB.nil (by kernel_rfl) fun g s Q=>(by kernel_rfl))) (fun x=>(by kernel_rfl)) fun x Q=>(by kernel_rfl)
def CG:List (Nat×Ev.Spec):=(72,av xW)::Fw
theorem oz:ah Tryz.prog CG:=ah.add (fn:=Tryz.f72) (by kernel_rfl) KX qj
def LR (x:((List I9)×(List Int))):aI:=⟨[],⟨cA 31 0 [(0,.v (.one (.full 0))),(4,.v (.one (.ptr 1 0))),(5,.v (.one (.full 2))),(11,.v (.one (.full 3))),(12,.v (.one (.i .i64))),(13,.v (.one (.i .i64)))],[.row bP 0,.cells [.i .i64,.i .i64,.i .i64,.i .i64,.i .i64,.i .i64] 66,.row bz 2,.row yi 0],0,none,[],[0,2,3,4,5,6,7,8,10],[9,1],[(.l bz),.i],[.i (x.2.length:Int),.l bP x.1,.i (0:Int),.i (0:Int),.i (0:Int),.i (0:Int),.i (0:Int),.i (0:Int),.l yi x.2]⟩,[⟨(.exit 0),.normal,⟨cA 31 0 [(4,.v (.one (.ptr 0 0))),(5,.v (.one (.full 1)))],[.cells [.i .i64,.i .i64,.i .i64,.i .i64,.i .i64,.i .i64] 66,.row bz 2],0,none,[],[0,1,2,3,4,5],[6],[(.l bz)],[.i (0:Int),.i (0:Int),.i (0:Int),.i (0:Int),.i (0:Int),.i (0:Int)]⟩⟩]⟩
def ig (x:((List I9)×(List Int))) (s:((List I3)×Int)):((List I3)×Int)⊕(List I3):=
 (if (s.2<(x.2.length:Int)) then
 (Sum.inl ((s.1++ [(List.getD x.1 (Int.toNat (List.getD x.2 (Int.toNat s.2) (0:Int))) (((0:Int),((0:Int),(0:Int))),(((0:Int),((0:Int),(0:Int))),((0:Int),((0:Int),(0:Int)))))).1,(List.getD x.1 (Int.toNat (List.getD x.2 (Int.toNat s.2) (0:Int))) (((0:Int),((0:Int),(0:Int))),(((0:Int),((0:Int),(0:Int))),((0:Int),((0:Int),(0:Int)))))).2.1,(List.getD x.1 (Int.toNat (List.getD x.2 (Int.toNat s.2) (0:Int))) (((0:Int),((0:Int),(0:Int))),(((0:Int),((0:Int),(0:Int))),((0:Int),((0:Int),(0:Int)))))).2.2]),(ae (s.2+(1:Int))))) else
 (Sum.inr (s.1)))
def nu (x:((List I9)×(List Int))) (s:((List I3)×Int)):Prop:=
 ((s.2<(x.2.length:Int))->
 ((((0:Int)<=s.2)/\ (s.2<(x.2.length:Int)))/\
 (((Int.toNat s.2)<(List.length x.2))/\
 (((Int.toNat s.2)<(List.length x.2))/\
 ((((0:Int)<=(List.getD x.2 (Int.toNat s.2) (0:Int)))/\ ((List.getD x.2 (Int.toNat s.2) (0:Int))<(x.1.length:Int)))/\
 (((Int.toNat (List.getD x.2 (Int.toNat s.2) (0:Int)))<(List.length x.1))/\
 (((Int.toNat (List.getD x.2 (Int.toNat s.2) (0:Int)))<(List.length x.1))/\
 (((List.length s.1)+3)<1099511627776))))))))
def DX (x:((List I9)×(List Int))) (s:((List I3)×Int)):Tr (((List I3)×Int)⊕(List I3)) true:=
 (.i10 (s.2<(nL x.2))
 (.bO s.2 x.2
 (.bO (gI x.2 s.2) x.1
 (.od (((List.length s.1)+3)<1099511627776)
 (.ret (.inl ((s.1++ [(gT x.1 (gI x.2 s.2) G5).1,(gT x.1 (gI x.2 s.2) G5).2.1,(gT x.1 (gI x.2 s.2) G5).2.2]),(w1 s.2)))))))
 (.ret (.inr (s.1))))
def fy (x:((List I9)×(List Int))):(I3×I3):=
 (ai (run (ig x) ([],(0:Int))) fun r=>
 (ai (rZ r) fun y=>
 y.1))
def oJ (x:((List I9)×(List Int))):Prop:=
 (Term (ig x) (nu x) ([],(0:Int))/\
 az (run (ig x) ([],(0:Int))) fun r=>
 (qe r))
def Wt (x:((List I9)×(List Int))):Tr (I3×I3) true:=
 (aI.lp (LR x) (DX x) ([],z0) fun r=>
 (.fn wH r fun y=>
 (.ret y.1)))
abbrev FR:dS:=⟨(.pair (.one (Ty.sl bP)) (.one (Ty.sl yi))),(.agg (Ty.prod bz bz)),oJ,fy⟩
theorem Tw:ak Tryz.prog 46 (av FR):=ak.tr FR Wt (fn:=Tryz.f46) aC oz mixed (by kernel_rfl) (aA.nil _ _) (fun x=>(aB.tr aC (ah.c8 oz (aA.nil _ _)) mixed 0 (LR x) (DX x) aB.nil (by kernel_rfl) fun g s Q=>(by kernel_rfl))) (fun x=>(by kernel_rfl)) fun x Q=>(by kernel_rfl)
def wL:List (Nat×Ev.Spec):=(46,av FR)::CG
theorem uQ:ah Tryz.prog wL:=ah.add (fn:=Tryz.f46) (by kernel_rfl) Tw oz
def qm (x:((List I9)×(List Int))):((List Int)×(List Int)):=
 (ai (fy x) fun y=>
 (ai (mb y) fun aq=>
 (ai (qO x.2) fun y_2=>
 (ai (Cv (y_2,(x.1,aq.1))) fun au=>
 ((List.take (Int.toNat (ae (Int.tdiv (au.2.1.length:Int) (2:Int)))) au.2.1),(List.drop (Int.toNat (ae (Int.tdiv (au.2.1.length:Int) (2:Int)))) au.2.1))))))
def iZ (x:((List I9)×(List Int))):Prop:=
 ((oJ x)/\
 az (fy x) fun y=>
 ((lA y)/\
 az (mb y) fun aq=>
 ((jY x.2)/\
 az (qO x.2) fun y_2=>
 ((oV (y_2,(x.1,aq.1)))/\
 az (Cv (y_2,(x.1,aq.1))) fun au=>
 ((((0:Int)<=(ae (Int.tdiv (au.2.1.length:Int) (2:Int))))/\ ((ae (Int.tdiv (au.2.1.length:Int) (2:Int)))<=(au.2.1.length:Int)))/\
 ((((0:Int)<=(ae (Int.tdiv (au.2.1.length:Int) (2:Int))))/\ ((ae (Int.tdiv (au.2.1.length:Int) (2:Int)))<=(((Int.toNat (ae (Int.tdiv (au.2.1.length:Int) (2:Int)))):Nat):Int)))/\
 (((0:Int)<=(ae (Int.tdiv (au.2.1.length:Int) (2:Int))))/\ ((ae (Int.tdiv (au.2.1.length:Int) (2:Int)))<=(au.2.1.length:Int)))))))))
theorem Pk (x:((List I9)×(List Int))) (S:Nat->Prop) (Q:((List Int)×(List Int))->Prop):H6 ⟨tt,wL,lQ,[],[],[]⟩ Tryz.f48 (kW (.pair (.one (Ty.sl bP)) (.one (Ty.sl yi))) x) (jx (.pair (.one (Ty.sl bP)) (.one (Ty.sl yi))) x++ [.fJ S]) (MF (.pair (.one (Ty.sl yi)) (.one (Ty.sl yi))) S Q)=
 ((oJ x)/\ ∀y:(I3×I3),y=(fy x)->
 ((lA y)/\ ∀aq:I2,aq=(mb y)->
 ((jY x.2)/\ ∀y_2:(List Int),y_2=(qO x.2)->
 ((oV (y_2,(x.1,aq.1)))/\ ∀au:(Bool×((List Int)×Bool)),au=(Cv (y_2,(x.1,aq.1)))->
 (ob ((decide ((0:Int)<=(ae (Int.tdiv (au.2.1.length:Int) (2:Int)))))&&(decide ((ae (Int.tdiv (au.2.1.length:Int) (2:Int)))<=(au.2.1.length:Int))))
 (ob ((decide ((0:Int)<=(ae (Int.tdiv (au.2.1.length:Int) (2:Int)))))&&(decide ((ae (Int.tdiv (au.2.1.length:Int) (2:Int)))<=(((Int.toNat (ae (Int.tdiv (au.2.1.length:Int) (2:Int)))):Nat):Int))))
 (ob ((decide ((0:Int)<=(ae (Int.tdiv (au.2.1.length:Int) (2:Int)))))&&(decide ((ae (Int.tdiv (au.2.1.length:Int) (2:Int)))<=(au.2.1.length:Int))))
 ((S=S)/\
 (Q ((List.take (Int.toNat (ae (Int.tdiv (au.2.1.length:Int) (2:Int)))) au.2.1),(List.drop (Int.toNat (ae (Int.tdiv (au.2.1.length:Int) (2:Int)))) au.2.1))))))))))):=by kernel_rfl
theorem Ph (x:((List I9)×(List Int))) (S:Nat->Prop) (Q:((List Int)×(List Int))->Prop) (hp:iZ x) (hq:Q (qm x)):Vc (H6 ⟨tt,wL,lQ,[],[],[]⟩ Tryz.f48 (kW (.pair (.one (Ty.sl bP)) (.one (Ty.sl yi))) x) (jx (.pair (.one (Ty.sl bP)) (.one (Ty.sl yi))) x++ [.fJ S]) (MF (.pair (.one (Ty.sl yi)) (.one (Ty.sl yi))) S Q)):= .eq (Pk x S Q) (have hp:=Eq.mp (iZ.eq_1 x) hp;have hq:=Eq.mp (congrArg Q (qm.eq_1 x)) hq;
 (And.intro hp.1 (Mk (Q:=Q) hp.2 hq fun y hp hq=>(And.intro hp.1 (Mk (Q:=Q) hp.2 hq fun aq hp hq=>(And.intro hp.1 (Mk (Q:=Q) hp.2 hq fun y_2 hp hq=>(And.intro hp.1 (Mk (Q:=Q) hp.2 hq fun au hp hq=>(OM (c7 (decide_eq_true hp.1.1) (decide_eq_true hp.1.2)) (have hp:=hp.2;(OM (c7 (decide_eq_true hp.1.1) (decide_eq_true hp.1.2)) (have hp:=hp.2;(OM (c7 (decide_eq_true hp.1) (decide_eq_true hp.2)) (And.intro rfl hq)))))))))))))))
abbrev CX:dS:=⟨(.pair (.one (Ty.sl bP)) (.one (Ty.sl yi))),(.pair (.one (Ty.sl yi)) (.one (Ty.sl yi))),iZ,qm⟩
theorem Pj:ak Tryz.prog 48 (zV CX):=ak.fnR (fn:=Tryz.f48) aC uQ mixed (by kernel_rfl) (by kernel_rfl) (.pair (.one (Ty.sl bP)) (.one (Ty.sl yi))) (.pair (.one (Ty.sl yi)) (.one (Ty.sl yi))) iZ qm fun x hp S=>⟨_,_,(aA.nil _ _),aB.nil,Ph x S (fun y=>y=qm x) hp rfl⟩
def FA:List (Nat×Ev.Spec):=(48,zV CX)::wL
theorem GV:ah Tryz.prog FA:=ah.add (fn:=Tryz.f48) (by kernel_rfl) Pj uQ
end Go.Proofs.YtlkgabjhkfhgaaaGreat
