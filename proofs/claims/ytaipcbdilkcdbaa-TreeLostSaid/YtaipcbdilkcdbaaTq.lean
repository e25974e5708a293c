/- Models of tree's functions: split. -/
import Derived.Test.YtaipcbdilkcdbaaTp
noncomputable section
set_option linter.unusedSectionVars false
set_option linter.unusedVariables false
set_option linter.unusedSimpArgs false
namespace Go.Proofs.Ytaipcbdilkcdbaa
open Go Go.Ev Go.Proofs
def Ey (x:(Int×(List Int))):aS:=⟨[],⟨ej 23 0 [(0,.v (.one (.i .i64))),(7,.v (.one (.full 0))),(8,.v (.one (.i .i64))),(9,.v (.one (.i .i64)))],[.row yi 0],0,none,[],[0,1,3],[2],[.i],[.i x.1,.i (x.2.length:Int),.l yi x.2]⟩,[⟨.ret,.ret,⟨ej 23 0 [(4,.v (.one (.b)))],[],0,none,[],[0],[],[],[.b false]⟩⟩,⟨(.exit 0),.normal,⟨ej 23 0 [],[],0,none,[],[],[],[],[]⟩⟩]⟩
def j7 (x:(Int×(List Int))) (s:Int):Int⊕(Unit⊕Unit):=
 (if (s<(x.2.length:Int)) then
 (if ((List.getD x.2 (Int.toNat s) (0:Int))<(ae ((0:Int)- x.1))) then
 (Sum.inr (Sum.inl ())) else
 (if ((List.getD x.2 (Int.toNat s) (0:Int))>x.1) then
 (Sum.inr (Sum.inl ())) else
 (Sum.inl (ae (s+(1:Int)))))) else
 (Sum.inr (Sum.inr (()))))
def tW (x:(Int×(List Int))) (s:Int):Prop:=
 ((s<(x.2.length:Int))->
 ((((0:Int)<=s)/\ (s<(x.2.length:Int)))/\
 (((Int.toNat s)<(List.length x.2))/\
 ((Int.toNat s)<(List.length x.2)))))
def zk (x:(Int×(List Int))) (s:Int):Tr (Int⊕(Unit⊕Unit)) true:=
 (.i10 (s<(nL x.2))
 (.cf s x.2
 (.Ii ((gI x.2 s)<(ae (z0- x.1)))
 (.ret (.inr (Sum.inl ())))
 (.Ii ((gI x.2 s)>x.1)
 (.ret (.inr (Sum.inl ())))
 (.ret (.inl (w1 s))))))
 (.ret (.inr (Sum.inr (())))))
def within (x:(Int×(List Int))):Bool:=
 (ai (run (j7 x) (0:Int)) fun r=>
 (Sum.elim (fun a=>
 false) (fun b=>
 true) r))
def uW (x:(Int×(List Int))):Prop:=
 (Term (j7 x) (tW x) (0:Int))
def QB (x:(Int×(List Int))):Tr Bool true:=
 (aS.lp (Ey x) (zk x) z0 fun r=>
 (.QT r (fun a=>
 (.ret false)) (fun b=>
 (.ret true))))
abbrev xm:jh:=⟨(.pair (.one yi) (.one (Ty.sl yi))),(.one Ty.bool),uW,within⟩
theorem Np:av Try.prog 47 (aH xm):=av.tr xm QB (fn:=Try.f47) aQ sg mixed (by kernel_rfl) (aD.nil _ _) (fun x=>(aB.tr aQ (ah.fe sg (aD.nil _ _)) mixed 0 (Ey x) (zk x) aB.nil (by kernel_rfl) fun g s Q=>(by kernel_rfl))) (fun x=>(by kernel_rfl)) fun x Q=>(by kernel_rfl)
def Et:List (Nat×Ev.Spec):=(47,aH xm)::HW
theorem qz:ah Try.prog Et:=ah.add (fn:=Try.f47) (by kernel_rfl) Np sg
def D5 (x:(List I3)):aS:=⟨[],⟨ej 21 0 [(5,.v (.one (.full 0))),(6,.v (.one (.i .i64))),(7,.v (.one (.i .i64)))],[.row cr 0],0,none,[],[0,2],[1],[.i],[.i (x.length:Int),.l cr x]⟩,[⟨.ret,.ret,⟨ej 21 0 [(2,.v (.one (.b)))],[],0,none,[],[0],[],[],[.b false]⟩⟩,⟨(.exit 0),.normal,⟨ej 21 0 [],[],0,none,[],[],[],[],[]⟩⟩]⟩
def jZ (x:(List I3)) (s:Int):Int⊕(Unit⊕Unit):=
 (if (s<(x.length:Int)) then
 (ai (within ((16384:Int),[(List.getD x (Int.toNat s) ((0:Int),((0:Int),(0:Int)))).1,(List.getD x (Int.toNat s) ((0:Int),((0:Int),(0:Int)))).2.1,(List.getD x (Int.toNat s) ((0:Int),((0:Int),(0:Int)))).2.2])) fun y=>
 (if ((!y)=true) then
 (Sum.inr (Sum.inl ())) else
 (Sum.inl (ae (s+(1:Int)))))) else
 (Sum.inr (Sum.inr (()))))
def tR (x:(List I3)) (s:Int):Prop:=
 ((s<(x.length:Int))->
 ((((0:Int)<=s)/\ (s<(x.length:Int)))/\
 (((Int.toNat s)<(List.length x))/\
 (((Int.toNat s)<(List.length x))/\
 (uW ((16384:Int),[(List.getD x (Int.toNat s) ((0:Int),((0:Int),(0:Int)))).1,(List.getD x (Int.toNat s) ((0:Int),((0:Int),(0:Int)))).2.1,(List.getD x (Int.toNat s) ((0:Int),((0:Int),(0:Int)))).2.2]))))))
def y6 (x:(List I3)) (s:Int):Tr (Int⊕(Unit⊕Unit)) true:=
 (.i10 (s<(nL x))
 (.cf s x
 (.fn xm ((16384:Int),[(gT x s bp).1,(gT x s bp).2.1,(gT x s bp).2.2]) fun y=>
 (.CA (!y)
 (.ret (.inr (Sum.inl ())))
 (.ret (.inl (w1 s))))))
 (.ret (.inr (Sum.inr (())))))
def x3 (x:(List I3)):Bool:=
 (ai (run (jZ x) (0:Int)) fun r=>
 (Sum.elim (fun a=>
 false) (fun b=>
 true) r))
def nt (x:(List I3)):Prop:=
 (Term (jZ x) (tR x) (0:Int))
def Qi (x:(List I3)):Tr Bool true:=
 (aS.lp (D5 x) (y6 x) z0 fun r=>
 (.QT r (fun a=>
 (.ret false)) (fun b=>
 (.ret true))))
abbrev pG:jh:=⟨(.one (Ty.sl cr)),(.one Ty.bool),nt,x3⟩
theorem M7:av Try.prog 35 (aH pG):=av.tr pG Qi (fn:=Try.f35) aQ qz mixed (by kernel_rfl) (aD.nil _ _) (fun x=>(aB.tr aQ (ah.fe qz (aD.nil _ _)) mixed 0 (D5 x) (y6 x) aB.nil (by kernel_rfl) fun g s Q=>(by kernel_rfl))) (fun x=>(by kernel_rfl)) fun x Q=>(by kernel_rfl)
def Em:List (Nat×Ev.Spec):=(35,aH pG)::Et
theorem w7:ah Try.prog Em:=ah.add (fn:=Try.f35) (by kernel_rfl) M7 qz
def x4 (x:I9):Bool:=
 (ai (x3 [x.1,x.2.1,x.2.2]) fun y=>
 (!y))
def uM (x:I9):Prop:=
 (nt [x.1,x.2.1,x.2.2])
def Qk (x:I9):Tr Bool true:=
 (.fn pG [x.1,x.2.1,x.2.2] fun y=>
 (.ret (!y)))
abbrev wJ:jh:=⟨(.agg cH),(.one Ty.bool),uM,x4⟩
theorem M9:av Try.prog 34 (aH wJ):=av.tr wJ Qk (fn:=Try.f34) aQ w7 mixed (by kernel_rfl) (aD.nil _ _) (fun x=>aB.nil) (fun x=>(by kernel_rfl)) fun x Q=>(by kernel_rfl)
def Eo:List (Nat×Ev.Spec):=(34,aH wJ)::Em
theorem qy:ah Try.prog Eo:=ah.add (fn:=Try.f34) (by kernel_rfl) M9 w7
def Dk (x:((List I9)×Bool)):aS:=⟨[],⟨ej 19 0 [(0,.v (.one (.full 0))),(1,.v (.one (.kq 34 0 []))),(7,.v (.one (.i .i64))),(8,.v (.one (.i .i64)))],[.row cH 0],0,none,[],[0,2],[1],[.i],[.i (x.1.length:Int),.l cH x.1]⟩,[⟨.ret,.ret,⟨ej 19 0 [(4,.v (.one (.i .i64)))],[],0,none,[],[],[0],[.i],[]⟩⟩,⟨(.exit 0),.normal,⟨ej 19 0 [],[],0,none,[],[],[],[],[]⟩⟩]⟩
def gY (x:((List I9)×Bool)) (s:Int):Int⊕(Int⊕Unit):=
 (if (s<(x.1.length:Int)) then
 (ai (x4 (List.getD x.1 (Int.toNat s) (((0:Int),((0:Int),(0:Int))),(((0:Int),((0:Int),(0:Int))),((0:Int),((0:Int),(0:Int))))))) fun y=>
 (if (y=true) then
 (Sum.inr (Sum.inl s)) else
 (Sum.inl (ae (s+(1:Int)))))) else
 (Sum.inr (Sum.inr (()))))
def oI (x:((List I9)×Bool)) (s:Int):Prop:=
 ((s<(x.1.length:Int))->
 ((((0:Int)<=s)/\ (s<(x.1.length:Int)))/\
 (((Int.toNat s)<(List.length x.1))/\
 (((Int.toNat s)<(List.length x.1))/\
 (uM (List.getD x.1 (Int.toNat s) (((0:Int),((0:Int),(0:Int))),(((0:Int),((0:Int),(0:Int))),((0:Int),((0:Int),(0:Int)))))))))))
def yD (x:((List I9)×Bool)) (s:Int):Tr (Int⊕(Int⊕Unit)) true:=
 (.i10 (s<(nL x.1))
 (.cf s x.1
 (.fn wJ (gT x.1 s Ls) fun y=>
 (.CA y
 (.ret (.inr (Sum.inl s)))
 (.ret (.inl (w1 s))))))
 (.ret (.inr (Sum.inr (())))))
def Jg (x:((List I9)×Bool)):Int:=
 (ai (run (gY x) (0:Int)) fun r=>
 (Sum.elim (fun a=>
 a) (fun b=>
 (-1:Int)) r))
def Ba (x:((List I9)×Bool)):Prop:=
 (Term (gY x) (oI x) (0:Int))
def OU (x:((List I9)×Bool)):Tr Int true:=
 (aS.lp (Dk x) (yD x) z0 fun r=>
 (.QT r (fun a=>
 (.ret a)) (fun b=>
 (.ret (-1:Int)))))
abbrev vG:jh:=⟨(.pair (.one (Ty.sl cH)) (.kq 34 .none)),(.one yi),Ba,Jg⟩
theorem Ml:av Try.prog 46 (aH vG):=av.tr vG OU (fn:=Try.f46) aQ qy mixed (by kernel_rfl) (aD.nil _ _) (fun x=>(aB.tr aQ (ah.fe qy (aD.nil _ _)) mixed 0 (Dk x) (yD x) aB.nil (by kernel_rfl) fun g s Q=>(by kernel_rfl))) (fun x=>(by kernel_rfl)) fun x Q=>(by kernel_rfl)
def Ee:List (Nat×Ev.Spec):=(46,aH vG)::Eo
theorem wV:ah Try.prog Ee:=ah.add (fn:=Try.f46) (by kernel_rfl) Ml qy
def xw (x:((List I9)×Bool)):Bool:=
 (ai (Jg (x.1,false)) fun y=>
 (decide (y>=(0:Int))))
def tw (x:((List I9)×Bool)):Prop:=
 (Ba (x.1,false))
def F5 (x:((List I9)×Bool)):Tr Bool true:=
 (.fn vG (x.1,false) fun y=>
 (.ret (decide (y>=z0))))
abbrev nP:jh:=⟨(.pair (.one (Ty.sl cH)) (.kq 34 .none)),(.one Ty.bool),tw,xw⟩
theorem EM:av Try.prog 33 (aH nP):=av.tr nP F5 (fn:=Try.f33) aQ wV mixed (by kernel_rfl) (aD.nil _ _) (fun x=>aB.nil) (fun x=>(by kernel_rfl)) fun x Q=>(by kernel_rfl)
def wQ:List (Nat×Ev.Spec):=(33,aH nP)::Ee
theorem qL:ah Try.prog wQ:=ah.add (fn:=Try.f33) (by kernel_rfl) EM wV
def l8 (x:(List I9)):Bool:=
 (ai (xw (x,false)) fun y=>
 (!y))
def kU (x:(List I9)):Prop:=
 (tw (x,false))
def Qj (x:(List I9)):Tr Bool true:=
 (.fn nP (x,false) fun y=>
 (.ret (!y)))
abbrev rY:jh:=⟨(.one (Ty.sl cH)),(.one Ty.bool),kU,l8⟩
theorem M8:av Try.prog 15 (aH rY):=av.tr rY Qj (fn:=Try.f15) aQ qL mixed (by kernel_rfl) (aD.nil _ _) (fun x=>aB.nil) (fun x=>(by kernel_rfl)) fun x Q=>(by kernel_rfl)
def En:List (Nat×Ev.Spec):=(15,aH rY)::wQ
theorem w8:ah Try.prog En:=ah.add (fn:=Try.f15) (by kernel_rfl) M8 qL
def ji (x:(List Int)):(List Int):=
 ((List.replicate 0 (0:Int))++x)
def eY (x:(List Int)):Prop:=
 (∀b:Bool,((0<(List.length x))->(b=false))->(((if (b=true) then
 [] else
 ((List.replicate 0 (0:Int))++x))=((List.replicate 0 (0:Int))++x))/\ (¬(b=true)->
 ((0+(List.length x))<1099511627776))))
def NS (x:(List Int)):Tr (List Int) true:=
 (.nil (fun b=>((0<(List.length x))->(b=false))) fun b=>
 (.zo b
 (.ret [])
 (.od ((0+(List.length x))<1099511627776)
 (.ret ((List.replicate 0 z0)++x)))))
abbrev oY:jh:=⟨(.one (Ty.sl yi)),(.one (Ty.sl yi)),eY,ji⟩
theorem LI:av Try.prog 18 (aH oY):=av.tr oY NS (fn:=Try.f18) aQ w8 mixed (by kernel_rfl) (aD.dead 18 (fn:=Try.f18) (by kernel_rfl)) (fun x=>aB.nil) (fun x=>(by kernel_rfl)) fun x Q=>(by kernel_rfl)
def D8:List (Nat×Ev.Spec):=(18,aH oY)::En
theorem wN:ah Try.prog D8:=ah.add (fn:=Try.f18) (by kernel_rfl) LI w8
def KW (x:I3):I3:=
 x
def MR (_:I3):Prop:=True
def Si (x:I3):Tr I3 false:=
 (.ret x)
abbrev wk:jh:=⟨(.agg cr),(.agg cr),MR,KW⟩
theorem PW:av Try.prog 45 (aH wk):=av.tr wk Si (fn:=Try.f45) aQ wN mixed (by kernel_rfl) (aD.nil _ _) (fun x=>aB.nil) (fun x=>(by kernel_rfl)) fun x Q=>(by kernel_rfl)
def HS:List (Nat×Ev.Spec):=(45,aH wk)::D8
theorem zg:ah Try.prog HS:=ah.add (fn:=Try.f45) (by kernel_rfl) PW wN
def parts (x:I3):I3:=
 x
def MP (_:I3):Prop:=True
def R8 (x:I3):Tr I3 false:=
 (.ret x)
abbrev jV:jh:=⟨(.agg cr),(.agg cr),MP,parts⟩
theorem PE:av Try.prog 44 (aH jV):=av.tr jV R8 (fn:=Try.f44) aQ zg mixed (by kernel_rfl) (aD.nil _ _) (fun x=>aB.nil) (fun x=>(by kernel_rfl)) fun x Q=>(by kernel_rfl)
def HR:List (Nat×Ev.Spec):=(44,aH jV)::HS
theorem r9:ah Try.prog HR:=ah.add (fn:=Try.f44) (by kernel_rfl) PE zg
def hasB (x:((I3×I3)×I3)):Bool:=
 (ai (parts x.1.1) fun y=>
 (ai (parts x.1.2) fun aq=>
 (ai (parts x.2) fun y_2=>
 (if (y_2.1<y.1) then
 false else
 (if (y_2.1>aq.1) then
 false else
 (if (y_2.2.1<y.2.1) then
 false else
 (if (y_2.2.1>aq.2.1) then
 false else
 (if (y_2.2.2<y.2.2) then
 false else
 (if (y_2.2.2>aq.2.2) then
 false else
 true)))))))))
def Ol (_:((I3×I3)×I3)):Prop:=True
def TS (x:((I3×I3)×I3)):Tr Bool false:=
 (.fn0 jV x.1.1 trivial fun y=>
 (.fn0 jV x.1.2 trivial fun aq=>
 (.fn0 jV x.2 trivial fun y_2=>
 (.Ii (y_2.1<y.1)
 (.ret false)
 (.Ii (y_2.1>aq.1)
 (.ret false)
 (.Ii (y_2.2.1<y.2.1)
 (.ret false)
 (.Ii (y_2.2.1>aq.2.1)
 (.ret false)
 (.Ii (y_2.2.2<y.2.2)
 (.ret false)
 (.Ii (y_2.2.2>aq.2.2)
 (.ret false)
 (.ret true))))))))))
abbrev AR:jh:=⟨(.pair (.agg (Ty.prod cr cr)) (.agg cr)),(.one Ty.bool),Ol,hasB⟩
theorem Rn:av Try.prog 31 (aH AR):=av.tr AR TS (fn:=Try.f31) aQ r9 mixed (by kernel_rfl) (aD.nil _ _) (fun x=>(aB.Lp aQ (ah.fe r9 (aD.nil _ _)) mixed 0 4 aB.nil (by kernel_rfl))) (fun x=>(by kernel_rfl)) fun x Q=>(by kernel_rfl)
def K6:List (Nat×Ev.Spec):=(31,aH AR)::HR
theorem B6:ah Try.prog K6:=ah.add (fn:=Try.f31) (by kernel_rfl) Rn r9
def kR (x:(I3×I3)):Bool:=
 (ai (x3 [x.1,x.2]) fun y=>
 (if (y=true) then
 (ai (hasB (x,x.1)) fun aq=>
 aq) else
 false))
def kS (x:(I3×I3)):Prop:=
 (nt [x.1,x.2])
def Qg (x:(I3×I3)):Tr Bool true:=
 (.fn pG [x.1,x.2] fun y=>
 (.CA y
 (.fn0 AR (x,x.1) trivial fun aq=>
 (.ret aq))
 (.ret false)))
abbrev nn:jh:=⟨(.agg (Ty.prod cr cr)),(.one Ty.bool),kS,kR⟩
theorem M5:av Try.prog 30 (aH nn):=av.tr nn Qg (fn:=Try.f30) aQ B6 mixed (by kernel_rfl) (aD.nil _ _) (fun x=>aB.nil) (fun x=>(by kernel_rfl)) fun x Q=>(by kernel_rfl)
def Ek:List (Nat×Ev.Spec):=(30,aH nn)::K6
theorem mE:ah Try.prog Ek:=ah.add (fn:=Try.f30) (by kernel_rfl) M5 B6
def D4 (x:(List I3)):aS:=⟨[],⟨ej 64 0 [(2,.v (.one (.ptr 0 0))),(4,.v (.one (.ptr 1 0))),(5,.v (.one (.ptr 2 0))),(8,.v (.one (.ptr 3 0))),(28,.v (.one (.full 4))),(29,.v (.one (.i .i64))),(30,.v (.one (.i .i64))),(36,.v (.one (.i .i64)))],[.cells [.i .i64,.i .i64,.i .i64,.i .i64,.i .i64,.i .i64] 32,.cells [.i .i64,.i .i64,.i .i64] 83,.cells [.i .i64,.i .i64,.i .i64] 83,.cells [.i .i64,.i .i64,.i .i64] 83,.row cr 0],0,none,[],[0,3,4,5,6,7,8,18],[9,10,11,12,13,14,15,16,17,1,2],[.i,.i,.i,.i,.i,.i,.i,.i,.i,.i,.i],[.i (x.length:Int),.i (0:Int),.i (0:Int),.i (0:Int),.i (0:Int),.i (0:Int),.i (0:Int),.l cr x]⟩,[⟨(.exit 3),.normal,⟨ej 64 0 [(2,.v (.one (.ptr 0 0))),(4,.v (.one (.ptr 1 0))),(5,.v (.one (.ptr 2 0))),(28,.v (.one (.full 3))),(29,.v (.one (.i .i64))),(30,.v (.one (.i .i64)))],[.cells [.i .i64,.i .i64,.i .i64,.i .i64,.i .i64,.i .i64] 32,.cells [.i .i64,.i .i64,.i .i64] 83,.cells [.i .i64,.i .i64,.i .i64] 83,.row cr 0],0,none,[],[0,2,3,4,5,6,7,14],[8,9,10,11,12,13,1],[.i,.i,.i,.i,.i,.i,.i],[.i (x.length:Int),.i (0:Int),.i (0:Int),.i (0:Int),.i (0:Int),.i (0:Int),.i (0:Int),.l cr x]⟩⟩]⟩
def nq (x:(List I3)) (s:(Int×(Int×(Int×(Int×(Int×(Int×(Int×(Int×I3))))))))):(Int×(Int×(Int×(Int×(Int×(Int×(Int×(Int×I3))))))))⊕(Int×(Int×(Int×(Int×I3)))):=
 (if (s.2.2.2.2.2.2.2.2.2.2<(3:Int)) then
 (Sum.inl ((cond (Nat.beq (0+((Int.toNat s.2.2.2.2.2.2.2.2.2.2)*1)) 0) (iI (List.getD [s.1,s.2.1,s.2.2.1] (0+((Int.toNat s.2.2.2.2.2.2.2.2.2.2)*1)) (0:Int)) (List.getD [s.2.2.2.2.2.2.1,s.2.2.2.2.2.2.2.1,s.2.2.2.2.2.2.2.2.1] (0+((Int.toNat s.2.2.2.2.2.2.2.2.2.2)*1)) (0:Int))) s.1),((cond (Nat.beq (0+((Int.toNat s.2.2.2.2.2.2.2.2.2.2)*1)) 1) (iI (List.getD [s.1,s.2.1,s.2.2.1] (0+((Int.toNat s.2.2.2.2.2.2.2.2.2.2)*1)) (0:Int)) (List.getD [s.2.2.2.2.2.2.1,s.2.2.2.2.2.2.2.1,s.2.2.2.2.2.2.2.2.1] (0+((Int.toNat s.2.2.2.2.2.2.2.2.2.2)*1)) (0:Int))) s.2.1),((cond (Nat.beq (0+((Int.toNat s.2.2.2.2.2.2.2.2.2.2)*1)) 2) (iI (List.getD [s.1,s.2.1,s.2.2.1] (0+((Int.toNat s.2.2.2.2.2.2.2.2.2.2)*1)) (0:Int)) (List.getD [s.2.2.2.2.2.2.1,s.2.2.2.2.2.2.2.1,s.2.2.2.2.2.2.2.2.1] (0+((Int.toNat s.2.2.2.2.2.2.2.2.2.2)*1)) (0:Int))) s.2.2.1),((cond (Nat.beq (0+((Int.toNat s.2.2.2.2.2.2.2.2.2.2)*1)) 0) (dJ (List.getD [s.2.2.2.1,s.2.2.2.2.1,s.2.2.2.2.2.1] (0+((Int.toNat s.2.2.2.2.2.2.2.2.2.2)*1)) (0:Int)) (List.getD [s.2.2.2.2.2.2.1,s.2.2.2.2.2.2.2.1,s.2.2.2.2.2.2.2.2.1] (0+((Int.toNat s.2.2.2.2.2.2.2.2.2.2)*1)) (0:Int))) s.2.2.2.1),((cond (Nat.beq (0+((Int.toNat s.2.2.2.2.2.2.2.2.2.2)*1)) 1) (dJ (List.getD [s.2.2.2.1,s.2.2.2.2.1,s.2.2.2.2.2.1] (0+((Int.toNat s.2.2.2.2.2.2.2.2.2.2)*1)) (0:Int)) (List.getD [s.2.2.2.2.2.2.1,s.2.2.2.2.2.2.2.1,s.2.2.2.2.2.2.2.2.1] (0+((Int.toNat s.2.2.2.2.2.2.2.2.2.2)*1)) (0:Int))) s.2.2.2.2.1),((cond (Nat.beq (0+((Int.toNat s.2.2.2.2.2.2.2.2.2.2)*1)) 2) (dJ (List.getD [s.2.2.2.1,s.2.2.2.2.1,s.2.2.2.2.2.1] (0+((Int.toNat s.2.2.2.2.2.2.2.2.2.2)*1)) (0:Int)) (List.getD [s.2.2.2.2.2.2.1,s.2.2.2.2.2.2.2.1,s.2.2.2.2.2.2.2.2.1] (0+((Int.toNat s.2.2.2.2.2.2.2.2.2.2)*1)) (0:Int))) s.2.2.2.2.2.1),(s.2.2.2.2.2.2.1,(s.2.2.2.2.2.2.2.1,(s.2.2.2.2.2.2.2.2.1,(s.2.2.2.2.2.2.2.2.2.1,(ae (s.2.2.2.2.2.2.2.2.2.2+(1:Int)))))))))))))) else
 (Sum.inr ((s.1,(s.2.1,(s.2.2.1,(s.2.2.2.1,(s.2.2.2.2.1,(s.2.2.2.2.2.1,s.2.2.2.2.2.2.2.2.2.1)))))))))
def gF (x:(List I3)) (s:(Int×(Int×(Int×(Int×(Int×(Int×(Int×(Int×I3))))))))):Prop:=
 ((s.2.2.2.2.2.2.2.2.2.2<(3:Int))->
 ((((0:Int)<=s.2.2.2.2.2.2.2.2.2.2)/\ (s.2.2.2.2.2.2.2.2.2.2<(3:Int)))/\
 ((((0+((Int.toNat s.2.2.2.2.2.2.2.2.2.2)*1))+1)<=3)/\
 ((((0:Int)<=s.2.2.2.2.2.2.2.2.2.2)/\ (s.2.2.2.2.2.2.2.2.2.2<(3:Int)))/\
 ((((0+((Int.toNat s.2.2.2.2.2.2.2.2.2.2)*1))+1)<=3)/\
 ((((0:Int)<=s.2.2.2.2.2.2.2.2.2.2)/\ (s.2.2.2.2.2.2.2.2.2.2<(3:Int)))/\
 ((((0+((Int.toNat s.2.2.2.2.2.2.2.2.2.2)*1))+1)<=3)/\
 ((((0:Int)<=s.2.2.2.2.2.2.2.2.2.2)/\ (s.2.2.2.2.2.2.2.2.2.2<(3:Int)))/\
 ((((0+((Int.toNat s.2.2.2.2.2.2.2.2.2.2)*1))+1)<=3)/\
 ((((0:Int)<=s.2.2.2.2.2.2.2.2.2.2)/\ (s.2.2.2.2.2.2.2.2.2.2<(3:Int)))/\
 ((((0+((Int.toNat s.2.2.2.2.2.2.2.2.2.2)*1))+1)<=3)/\
 ((((0:Int)<=s.2.2.2.2.2.2.2.2.2.2)/\ (s.2.2.2.2.2.2.2.2.2.2<(3:Int)))/\
 (((0+((Int.toNat s.2.2.2.2.2.2.2.2.2.2)*1))+1)<=3)))))))))))))
def yZ (x:(List I3)) (s:(Int×(Int×(Int×(Int×(Int×(Int×(Int×(Int×I3))))))))):Tr ((Int×(Int×(Int×(Int×(Int×(Int×(Int×(Int×I3))))))))⊕(Int×(Int×(Int×(Int×I3))))) true:=
 (.i10 (s.2.2.2.2.2.2.2.2.2.2<(3:Int))
 (.oR s.2.2.2.2.2.2.2.2.2.2 (3:Int)
 (.od (((0+((tN s.2.2.2.2.2.2.2.2.2.2)*1))+1)<=3)
 (.oR s.2.2.2.2.2.2.2.2.2.2 (3:Int)
 (.od (((0+((tN s.2.2.2.2.2.2.2.2.2.2)*1))+1)<=3)
 (.oR s.2.2.2.2.2.2.2.2.2.2 (3:Int)
 (.od (((0+((tN s.2.2.2.2.2.2.2.2.2.2)*1))+1)<=3)
 (.oR s.2.2.2.2.2.2.2.2.2.2 (3:Int)
 (.od (((0+((tN s.2.2.2.2.2.2.2.2.2.2)*1))+1)<=3)
 (.oR s.2.2.2.2.2.2.2.2.2.2 (3:Int)
 (.od (((0+((tN s.2.2.2.2.2.2.2.2.2.2)*1))+1)<=3)
 (.oR s.2.2.2.2.2.2.2.2.2.2 (3:Int)
 (.od (((0+((tN s.2.2.2.2.2.2.2.2.2.2)*1))+1)<=3)
 (.ret (.inl ((cond (Nat.beq (0+((tN s.2.2.2.2.2.2.2.2.2.2)*1)) 0) (iI (List.getD [s.1,s.2.1,s.2.2.1] (0+((tN s.2.2.2.2.2.2.2.2.2.2)*1)) z0) (List.getD [s.2.2.2.2.2.2.1,s.2.2.2.2.2.2.2.1,s.2.2.2.2.2.2.2.2.1] (0+((tN s.2.2.2.2.2.2.2.2.2.2)*1)) z0)) s.1),((cond (Nat.beq (0+((tN s.2.2.2.2.2.2.2.2.2.2)*1)) 1) (iI (List.getD [s.1,s.2.1,s.2.2.1] (0+((tN s.2.2.2.2.2.2.2.2.2.2)*1)) z0) (List.getD [s.2.2.2.2.2.2.1,s.2.2.2.2.2.2.2.1,s.2.2.2.2.2.2.2.2.1] (0+((tN s.2.2.2.2.2.2.2.2.2.2)*1)) z0)) s.2.1),((cond (Nat.beq (0+((tN s.2.2.2.2.2.2.2.2.2.2)*1)) 2) (iI (List.getD [s.1,s.2.1,s.2.2.1] (0+((tN s.2.2.2.2.2.2.2.2.2.2)*1)) z0) (List.getD [s.2.2.2.2.2.2.1,s.2.2.2.2.2.2.2.1,s.2.2.2.2.2.2.2.2.1] (0+((tN s.2.2.2.2.2.2.2.2.2.2)*1)) z0)) s.2.2.1),((cond (Nat.beq (0+((tN s.2.2.2.2.2.2.2.2.2.2)*1)) 0) (dJ (List.getD [s.2.2.2.1,s.2.2.2.2.1,s.2.2.2.2.2.1] (0+((tN s.2.2.2.2.2.2.2.2.2.2)*1)) z0) (List.getD [s.2.2.2.2.2.2.1,s.2.2.2.2.2.2.2.1,s.2.2.2.2.2.2.2.2.1] (0+((tN s.2.2.2.2.2.2.2.2.2.2)*1)) z0)) s.2.2.2.1),((cond (Nat.beq (0+((tN s.2.2.2.2.2.2.2.2.2.2)*1)) 1) (dJ (List.getD [s.2.2.2.1,s.2.2.2.2.1,s.2.2.2.2.2.1] (0+((tN s.2.2.2.2.2.2.2.2.2.2)*1)) z0) (List.getD [s.2.2.2.2.2.2.1,s.2.2.2.2.2.2.2.1,s.2.2.2.2.2.2.2.2.1] (0+((tN s.2.2.2.2.2.2.2.2.2.2)*1)) z0)) s.2.2.2.2.1),((cond (Nat.beq (0+((tN s.2.2.2.2.2.2.2.2.2.2)*1)) 2) (dJ (List.getD [s.2.2.2.1,s.2.2.2.2.1,s.2.2.2.2.2.1] (0+((tN s.2.2.2.2.2.2.2.2.2.2)*1)) z0) (List.getD [s.2.2.2.2.2.2.1,s.2.2.2.2.2.2.2.1,s.2.2.2.2.2.2.2.2.1] (0+((tN s.2.2.2.2.2.2.2.2.2.2)*1)) z0)) s.2.2.2.2.2.1),(s.2.2.2.2.2.2.1,(s.2.2.2.2.2.2.2.1,(s.2.2.2.2.2.2.2.2.1,(s.2.2.2.2.2.2.2.2.2.1,(w1 s.2.2.2.2.2.2.2.2.2.2)))))))))))))))))))))))))
 (.ret (.inr ((s.1,(s.2.1,(s.2.2.1,(s.2.2.2.1,(s.2.2.2.2.1,(s.2.2.2.2.2.1,s.2.2.2.2.2.2.2.2.2.1))))))))))
def D3 (x:(List I3)):aS:=⟨[],⟨ej 64 0 [(2,.v (.one (.ptr 0 0))),(4,.v (.one (.ptr 1 0))),(5,.v (.one (.ptr 2 0))),(28,.v (.one (.full 3))),(29,.v (.one (.i .i64))),(30,.v (.one (.i .i64)))],[.cells [.i .i64,.i .i64,.i .i64,.i .i64,.i .i64,.i .i64] 32,.cells [.i .i64,.i .i64,.i .i64] 83,.cells [.i .i64,.i .i64,.i .i64] 83,.row cr 0],0,none,[],[0,2,3,4,5,6,7,14],[8,9,10,11,12,13,1],[.i,.i,.i,.i,.i,.i,.i],[.i (x.length:Int),.i (0:Int),.i (0:Int),.i (0:Int),.i (0:Int),.i (0:Int),.i (0:Int),.l cr x]⟩,[⟨(.exit 1),.normal,⟨ej 64 0 [(2,.v (.one (.ptr 0 0))),(4,.v (.one (.ptr 1 0))),(5,.v (.one (.ptr 2 0)))],[.cells [.i .i64,.i .i64,.i .i64,.i .i64,.i .i64,.i .i64] 32,.cells [.i .i64,.i .i64,.i .i64] 83,.cells [.i .i64,.i .i64,.i .i64] 83],0,none,[],[0,1,2,3,4,5],[6,7,8,9,10,11],[.i,.i,.i,.i,.i,.i],[.i (0:Int),.i (0:Int),.i (0:Int),.i (0:Int),.i (0:Int),.i (0:Int)]⟩⟩]⟩
def iw (x:(List I3)) (s:(Int×(Int×(Int×(Int×I3))))):(Int×(Int×(Int×(Int×I3))))⊕(Int×(Int×(Int×I3))):=
 (if (s.2.2.2.2.2.2<(x.length:Int)) then
 (ai (parts (List.getD x (Int.toNat s.2.2.2.2.2.2) ((0:Int),((0:Int),(0:Int))))) fun y=>
 (ai (run (nq x) (s.1,(s.2.1,(s.2.2.1,(s.2.2.2.1,(s.2.2.2.2.1,(s.2.2.2.2.2.1,(y.1,(y.2.1,(y.2.2,(s.2.2.2.2.2.2,(0:Int)))))))))))) fun r=>
 (Sum.inl (r.1,(r.2.1,(r.2.2.1,(r.2.2.2.1,(r.2.2.2.2.1,(r.2.2.2.2.2.1,(ae (r.2.2.2.2.2.2+(1:Int)))))))))))) else
 (Sum.inr ((s.1,(s.2.1,(s.2.2.1,(s.2.2.2.1,(s.2.2.2.2.1,s.2.2.2.2.2.1))))))))
def lB (x:(List I3)) (s:(Int×(Int×(Int×(Int×I3))))):Prop:=
 ((s.2.2.2.2.2.2<(x.length:Int))->
 ((((0:Int)<=s.2.2.2.2.2.2)/\ (s.2.2.2.2.2.2<(x.length:Int)))/\
 (((Int.toNat s.2.2.2.2.2.2)<(List.length x))/\
 (((Int.toNat s.2.2.2.2.2.2)<(List.length x))/\
 (ay (parts (List.getD x (Int.toNat s.2.2.2.2.2.2) ((0:Int),((0:Int),(0:Int))))) fun y=>
 (Term (nq x) (gF x) (s.1,(s.2.1,(s.2.2.1,(s.2.2.2.1,(s.2.2.2.2.1,(s.2.2.2.2.2.1,(y.1,(y.2.1,(y.2.2,(s.2.2.2.2.2.2,(0:Int)))))))))))))))))
def yY (x:(List I3)) (s:(Int×(Int×(Int×(Int×I3))))):Tr ((Int×(Int×(Int×(Int×I3))))⊕(Int×(Int×(Int×I3)))) true:=
 (.i10 (s.2.2.2.2.2.2<(nL x))
 (.cf s.2.2.2.2.2.2 x
 (.fn0 jV (gT x s.2.2.2.2.2.2 bp) trivial fun y=>
 (aS.lp (D4 x) (yZ x) (s.1,(s.2.1,(s.2.2.1,(s.2.2.2.1,(s.2.2.2.2.1,(s.2.2.2.2.2.1,(y.1,(y.2.1,(y.2.2,(s.2.2.2.2.2.2,z0)))))))))) fun r=>
 (.ret (.inl (r.1,(r.2.1,(r.2.2.1,(r.2.2.2.1,(r.2.2.2.2.1,(r.2.2.2.2.2.1,(w1 r.2.2.2.2.2.2))))))))))))
 (.ret (.inr ((s.1,(s.2.1,(s.2.2.1,(s.2.2.2.1,(s.2.2.2.2.1,s.2.2.2.2.2.1)))))))))
def qu (x:(List I3)):((I3×I3)×Int):=
 (if (((x.length:Int)==(0:Int))=true) then
 ((((0:Int),((0:Int),(0:Int))),((0:Int),((0:Int),(0:Int)))),(1:Int)) else
 (ai (x3 x) fun y=>
 (if ((!y)=true) then
 ((((0:Int),((0:Int),(0:Int))),((0:Int),((0:Int),(0:Int)))),(5:Int)) else
 (ai (parts (List.getD x 0 ((0:Int),((0:Int),(0:Int))))) fun aq=>
 (ai (parts (List.getD x 0 ((0:Int),((0:Int),(0:Int))))) fun y_2=>
 (ai (run (iw x) (aq.1,(aq.2.1,(aq.2.2,(y_2.1,(y_2.2.1,(y_2.2.2,(0:Int)))))))) fun r=>
 (ai (KW (r.1,(r.2.1,r.2.2.1))) fun au=>
 (ai (KW r.2.2.2) fun aR=>
 ((au,aR),(0:Int))))))))))
def nr (x:(List I3)):Prop:=
 (¬(((x.length:Int)==(0:Int))=true)->
 ((nt x)/\
 ay (x3 x) fun y=>
 (¬((!y)=true)->
 (((0:Int)<(x.length:Int))/\
 ((0<(List.length x))/\
 ((0<(List.length x))/\
 (ay (parts (List.getD x 0 ((0:Int),((0:Int),(0:Int))))) fun aq=>
 (((0:Int)<(x.length:Int))/\
 ((0<(List.length x))/\
 ((0<(List.length x))/\
 (ay (parts (List.getD x 0 ((0:Int),((0:Int),(0:Int))))) fun y_2=>
 (Term (iw x) (lB x) (aq.1,(aq.2.1,(aq.2.2,(y_2.1,(y_2.2.1,(y_2.2.2,(0:Int)))))))))))))))))))
def Qh (x:(List I3)):Tr ((I3×I3)×Int) true:=
 (.zo ((nL x)==z0)
 (.ret ((bp,bp),z1))
 (.fn pG x fun y=>
 (.zo (!y)
 (.ret ((bp,bp),(5:Int)))
 (.og (true&&(decide (z0<(nL x)))) (z0<(nL x)) (fun h=>(cj rfl (decide_eq_true h)))
 (.od (0<(List.length x))
 (.od (0<(List.length x))
 (.fn0 jV (List.getD x 0 bp) trivial fun aq=>
 (.og (true&&(decide (z0<(nL x)))) (z0<(nL x)) (fun h=>(cj rfl (decide_eq_true h)))
 (.od (0<(List.length x))
 (.od (0<(List.length x))
 (.fn0 jV (List.getD x 0 bp) trivial fun y_2=>
 (aS.lp (D3 x) (yY x) (aq.1,(aq.2.1,(aq.2.2,(y_2.1,(y_2.2.1,(y_2.2.2,z0)))))) fun r=>
 (.fn0 wk (r.1,(r.2.1,r.2.2.1)) trivial fun au=>
 (.fn0 wk r.2.2.2 trivial fun aR=>
 (.ret ((au,aR),z0))))))))))))))))
abbrev rX:jh:=⟨(.one (Ty.sl cr)),(.pair (.agg (Ty.prod cr cr)) (.one yi)),nr,qu⟩
theorem M6:av Try.prog 32 (aH rX):=av.tr rX Qh (fn:=Try.f32) aQ mE mixed (by kernel_rfl) (aD.nil _ _) (fun x=>(aB.tr aQ (ah.fe mE (aD.nil _ _)) mixed 1 (D3 x) (yY x) (aB.tr aQ (ah.fe mE (aD.nil _ _)) mixed 3 (D4 x) (yZ x) aB.nil (by kernel_rfl) fun g s Q=>(by kernel_rfl)) (by kernel_rfl) fun g s Q=>(by kernel_rfl))) (fun x=>(by kernel_rfl)) fun x Q=>(by kernel_rfl)
def El:List (Nat×Ev.Spec):=(32,aH rX)::Ek
theorem qx:ah Try.prog El:=ah.add (fn:=Try.f32) (by kernel_rfl) M6 mE
def Bi (x:(I3×I3)):aS:=⟨[],⟨ej 38 0 [(4,.v (.one (.ptr 0 0))),(5,.v (.one (.ptr 1 0))),(6,.v (.one (.i .i64))),(17,.v (.one (.i .i64)))],[.cells [.i .i64,.i .i64,.i .i64] 83,.cells [.i .i64,.i .i64,.i .i64] 83],0,none,[],[],[2,3,4,5,6,7,0,1],[.i,.i,.i,.i,.i,.i,.i,.i],[]⟩,[⟨(.exit 0),.normal,⟨ej 38 0 [(6,.v (.one (.i .i64)))],[],0,none,[],[],[0],[.i],[]⟩⟩]⟩
def cL (x:(I3×I3)) (s:(Int×(Int×(Int×(Int×(Int×I3)))))):(Int×(Int×(Int×(Int×(Int×I3)))))⊕Int:=
 (if (s.2.2.2.2.2.2.2<(3:Int)) then
 (if ((ae ((List.getD [s.2.2.2.1,s.2.2.2.2.1,s.2.2.2.2.2.1] (0+((Int.toNat s.2.2.2.2.2.2.2)*1)) (0:Int))- (List.getD [s.1,s.2.1,s.2.2.1] (0+((Int.toNat s.2.2.2.2.2.2.2)*1)) (0:Int))))>(ae ((List.getD [s.2.2.2.1,s.2.2.2.2.1,s.2.2.2.2.2.1] (0+((Int.toNat s.2.2.2.2.2.2.1)*1)) (0:Int))- (List.getD [s.1,s.2.1,s.2.2.1] (0+((Int.toNat s.2.2.2.2.2.2.1)*1)) (0:Int))))) then
 (Sum.inl (s.1,(s.2.1,(s.2.2.1,(s.2.2.2.1,(s.2.2.2.2.1,(s.2.2.2.2.2.1,(s.2.2.2.2.2.2.2,(ae (s.2.2.2.2.2.2.2+(1:Int))))))))))) else
 (Sum.inl (s.1,(s.2.1,(s.2.2.1,(s.2.2.2.1,(s.2.2.2.2.1,(s.2.2.2.2.2.1,(s.2.2.2.2.2.2.1,(ae (s.2.2.2.2.2.2.2+(1:Int)))))))))))) else
 (Sum.inr (s.2.2.2.2.2.2.1)))
def jN (x:(I3×I3)) (s:(Int×(Int×(Int×(Int×(Int×I3)))))):Prop:=
 ((s.2.2.2.2.2.2.2<(3:Int))->
 ((((0:Int)<=s.2.2.2.2.2.2.2)/\ (s.2.2.2.2.2.2.2<(3:Int)))/\
 ((((0+((Int.toNat s.2.2.2.2.2.2.2)*1))+1)<=3)/\
 ((((0:Int)<=s.2.2.2.2.2.2.2)/\ (s.2.2.2.2.2.2.2<(3:Int)))/\
 ((((0+((Int.toNat s.2.2.2.2.2.2.2)*1))+1)<=3)/\
 ((((0:Int)<=s.2.2.2.2.2.2.1)/\ (s.2.2.2.2.2.2.1<(3:Int)))/\
 ((((0+((Int.toNat s.2.2.2.2.2.2.1)*1))+1)<=3)/\
 ((((0:Int)<=s.2.2.2.2.2.2.1)/\ (s.2.2.2.2.2.2.1<(3:Int)))/\
 (((0+((Int.toNat s.2.2.2.2.2.2.1)*1))+1)<=3)))))))))
def vO (x:(I3×I3)) (s:(Int×(Int×(Int×(Int×(Int×I3)))))):Tr ((Int×(Int×(Int×(Int×(Int×I3)))))⊕Int) true:=
 (.i10 (s.2.2.2.2.2.2.2<(3:Int))
 (.oR s.2.2.2.2.2.2.2 (3:Int)
 (.od (((0+((tN s.2.2.2.2.2.2.2)*1))+1)<=3)
 (.oR s.2.2.2.2.2.2.2 (3:Int)
 (.od (((0+((tN s.2.2.2.2.2.2.2)*1))+1)<=3)
 (.oR s.2.2.2.2.2.2.1 (3:Int)
 (.od (((0+((tN s.2.2.2.2.2.2.1)*1))+1)<=3)
 (.oR s.2.2.2.2.2.2.1 (3:Int)
 (.od (((0+((tN s.2.2.2.2.2.2.1)*1))+1)<=3)
 (.Ii ((ae ((List.getD [s.2.2.2.1,s.2.2.2.2.1,s.2.2.2.2.2.1] (0+((tN s.2.2.2.2.2.2.2)*1)) z0)- (List.getD [s.1,s.2.1,s.2.2.1] (0+((tN s.2.2.2.2.2.2.2)*1)) z0)))>(ae ((List.getD [s.2.2.2.1,s.2.2.2.2.1,s.2.2.2.2.2.1] (0+((tN s.2.2.2.2.2.2.1)*1)) z0)- (List.getD [s.1,s.2.1,s.2.2.1] (0+((tN s.2.2.2.2.2.2.1)*1)) z0))))
 (.ret (.inl (s.1,(s.2.1,(s.2.2.1,(s.2.2.2.1,(s.2.2.2.2.1,(s.2.2.2.2.2.1,(s.2.2.2.2.2.2.2,(w1 s.2.2.2.2.2.2.2))))))))))
 (.ret (.inl (s.1,(s.2.1,(s.2.2.1,(s.2.2.2.1,(s.2.2.2.2.1,(s.2.2.2.2.2.1,(s.2.2.2.2.2.2.1,(w1 s.2.2.2.2.2.2.2)))))))))))))))))))
 (.ret (.inr (s.2.2.2.2.2.2.1))))
def fP (x:(I3×I3)):I2:=
 (ai (kR x) fun y=>
 (if ((!y)=true) then
 ((0:Int),(1:Int)) else
 (ai (parts x.1) fun aq=>
 (ai (parts x.2) fun y_2=>
 (ai (run (cL x) (aq.1,(aq.2.1,(aq.2.2,(y_2.1,(y_2.2.1,(y_2.2.2,((0:Int),(0:Int))))))))) fun r=>
 (r,(0:Int)))))))
def ju (x:(I3×I3)):Prop:=
 ((kS x)/\
 ay (kR x) fun y=>
 (¬((!y)=true)->
 (ay (parts x.1) fun aq=>
 (ay (parts x.2) fun y_2=>
 (Term (cL x) (jN x) (aq.1,(aq.2.1,(aq.2.2,(y_2.1,(y_2.2.1,(y_2.2.2,((0:Int),(0:Int)))))))))))))
def My (x:(I3×I3)):Tr I2 true:=
 (.fn nn x fun y=>
 (.zo (!y)
 (.ret (z0,z1))
 (.fn0 jV x.1 trivial fun aq=>
 (.fn0 jV x.2 trivial fun y_2=>
 (aS.lp (Bi x) (vO x) (aq.1,(aq.2.1,(aq.2.2,(y_2.1,(y_2.2.1,(y_2.2.2,Zz)))))) fun r=>
 (.ret (r,z0)))))))
abbrev sN:jh:=⟨(.agg (Ty.prod cr cr)),(.pair (.one yi) (.one yi)),ju,fP⟩
theorem Jq:av Try.prog 36 (aH sN):=av.tr sN My (fn:=Try.f36) aQ qx mixed (by kernel_rfl) (aD.nil _ _) (fun x=>(aB.tr aQ (ah.fe qx (aD.nil _ _)) mixed 0 (Bi x) (vO x) aB.nil (by kernel_rfl) fun g s Q=>(by kernel_rfl))) (fun x=>(by kernel_rfl)) fun x Q=>(by kernel_rfl)
def Ca:List (Nat×Ev.Spec):=(36,aH sN)::El
theorem oM:ah Try.prog Ca:=ah.add (fn:=Try.f36) (by kernel_rfl) Jq qx
def Kb (x:((List I9)×(List Int))):aS:=⟨[],⟨ej 31 0 [(0,.v (.one (.full 0))),(4,.v (.one (.ptr 1 0))),(5,.v (.one (.full 2))),(11,.v (.one (.full 3))),(12,.v (.one (.i .i64))),(13,.v (.one (.i .i64)))],[.row cH 0,.cells [.i .i64,.i .i64,.i .i64,.i .i64,.i .i64,.i .i64] 32,.row cr 2,.row yi 0],0,none,[],[0,2,3,4,5,6,7,8,10],[9,1],[(.l cr),.i],[.i (x.2.length:Int),.l cH x.1,.i (0:Int),.i (0:Int),.i (0:Int),.i (0:Int),.i (0:Int),.i (0:Int),.l yi x.2]⟩,[⟨(.exit 0),.normal,⟨ej 31 0 [(4,.v (.one (.ptr 0 0))),(5,.v (.one (.full 1)))],[.cells [.i .i64,.i .i64,.i .i64,.i .i64,.i .i64,.i .i64] 32,.row cr 2],0,none,[],[0,1,2,3,4,5],[6],[(.l cr)],[.i (0:Int),.i (0:Int),.i (0:Int),.i (0:Int),.i (0:Int),.i (0:Int)]⟩⟩]⟩
def iB (x:((List I9)×(List Int))) (s:((List I3)×Int)):((List I3)×Int)⊕(List I3):=
 (if (s.2<(x.2.length:Int)) then
 (Sum.inl ((s.1++ [(List.getD x.1 (Int.toNat (List.getD x.2 (Int.toNat s.2) (0:Int))) (((0:Int),((0:Int),(0:Int))),(((0:Int),((0:Int),(0:Int))),((0:Int),((0:Int),(0:Int)))))).1,(List.getD x.1 (Int.toNat (List.getD x.2 (Int.toNat s.2) (0:Int))) (((0:Int),((0:Int),(0:Int))),(((0:Int),((0:Int),(0:Int))),((0:Int),((0:Int),(0:Int)))))).2.1,(List.getD x.1 (Int.toNat (List.getD x.2 (Int.toNat s.2) (0:Int))) (((0:Int),((0:Int),(0:Int))),(((0:Int),((0:Int),(0:Int))),((0:Int),((0:Int),(0:Int)))))).2.2]),(ae (s.2+(1:Int))))) else
 (Sum.inr (s.1)))
def nK (x:((List I9)×(List Int))) (s:((List I3)×Int)):Prop:=
 ((s.2<(x.2.length:Int))->
 ((((0:Int)<=s.2)/\ (s.2<(x.2.length:Int)))/\
 (((Int.toNat s.2)<(List.length x.2))/\
 (((Int.toNat s.2)<(List.length x.2))/\
 ((((0:Int)<=(List.getD x.2 (Int.toNat s.2) (0:Int)))/\ ((List.getD x.2 (Int.toNat s.2) (0:Int))<(x.1.length:Int)))/\
 (((Int.toNat (List.getD x.2 (Int.toNat s.2) (0:Int)))<(List.length x.1))/\
 (((Int.toNat (List.getD x.2 (Int.toNat s.2) (0:Int)))<(List.length x.1))/\
 (((List.length s.1)+3)<1099511627776))))))))
def CZ (x:((List I9)×(List Int))) (s:((List I3)×Int)):Tr (((List I3)×Int)⊕(List I3)) true:=
 (.i10 (s.2<(nL x.2))
 (.cf s.2 x.2
 (.cf (gI x.2 s.2) x.1
 (.od (((List.length s.1)+3)<1099511627776)
 (.ret (.inl ((s.1++ [(gT x.1 (gI x.2 s.2) Ls).1,(gT x.1 (gI x.2 s.2) Ls).2.1,(gT x.1 (gI x.2 s.2) Ls).2.2]),(w1 s.2)))))))
 (.ret (.inr (s.1))))
def fT (x:((List I9)×(List Int))):(I3×I3):=
 (ai (run (iB x) ([],(0:Int))) fun r=>
 (ai (qu r) fun y=>
 y.1))
def mQ (x:((List I9)×(List Int))):Prop:=
 (Term (iB x) (nK x) ([],(0:Int))/\
 ay (run (iB x) ([],(0:Int))) fun r=>
 (nr r))
def TB (x:((List I9)×(List Int))):Tr (I3×I3) true:=
 (aS.lp (Kb x) (CZ x) ([],z0) fun r=>
 (.fn rX r fun y=>
 (.ret y.1)))
abbrev Ap:jh:=⟨(.pair (.one (Ty.sl cH)) (.one (Ty.sl yi))),(.agg (Ty.prod cr cr)),mQ,fT⟩
theorem Q7:av Try.prog 17 (aH Ap):=av.tr Ap TB (fn:=Try.f17) aQ oM mixed (by kernel_rfl) (aD.nil _ _) (fun x=>(aB.tr aQ (ah.fe oM (aD.nil _ _)) mixed 0 (Kb x) (CZ x) aB.nil (by kernel_rfl) fun g s Q=>(by kernel_rfl))) (fun x=>(by kernel_rfl)) fun x Q=>(by kernel_rfl)
def wL:List (Nat×Ev.Spec):=(17,aH Ap)::Ca
theorem uN:ah Try.prog wL:=ah.add (fn:=Try.f17) (by kernel_rfl) Q7 oM
def mb (x:((List I9)×(List Int))):((List Int)×(List Int)):=
 (ai (fT x) fun y=>
 (ai (fP y) fun aq=>
 (ai (ji x.2) fun y_2=>
 (ai (tS (y_2,(x.1,aq.1))) fun au=>
 ((List.take (Int.toNat (ae (Int.tdiv (au.2.1.length:Int) (2:Int)))) au.2.1),(List.drop (Int.toNat (ae (Int.tdiv (au.2.1.length:Int) (2:Int)))) au.2.1))))))
def fR (x:((List I9)×(List Int))):Prop:=
 ((mQ x)/\
 ay (fT x) fun y=>
 ((ju y)/\
 ay (fP y) fun aq=>
 ((eY x.2)/\
 ay (ji x.2) fun y_2=>
 ((kV (y_2,(x.1,aq.1)))/\
 ay (tS (y_2,(x.1,aq.1))) fun au=>
 ((((0:Int)<=(ae (Int.tdiv (au.2.1.length:Int) (2:Int))))/\ ((ae (Int.tdiv (au.2.1.length:Int) (2:Int)))<=(au.2.1.length:Int)))/\
 ((((0:Int)<=(ae (Int.tdiv (au.2.1.length:Int) (2:Int))))/\ ((ae (Int.tdiv (au.2.1.length:Int) (2:Int)))<=(((Int.toNat (ae (Int.tdiv (au.2.1.length:Int) (2:Int)))):Nat):Int)))/\
 (((0:Int)<=(ae (Int.tdiv (au.2.1.length:Int) (2:Int))))/\ ((ae (Int.tdiv (au.2.1.length:Int) (2:Int)))<=(au.2.1.length:Int)))))))))
theorem Nc (x:((List I9)×(List Int))) (S:Nat->Prop) (Q:((List Int)×(List Int))->Prop):ET ⟨tt,wL,fh,[],[],[]⟩ Try.f19 (fH (.pair (.one (Ty.sl cH)) (.one (Ty.sl yi))) x) (fW (.pair (.one (Ty.sl cH)) (.one (Ty.sl yi))) x++ [.eZ S]) (DW (.pair (.one (Ty.sl yi)) (.one (Ty.sl yi))) S Q)=
 ((mQ x)/\ ∀y:(I3×I3),y=(fT x)->
 ((ju y)/\ ∀aq:I2,aq=(fP y)->
 ((eY x.2)/\ ∀y_2:(List Int),y_2=(ji x.2)->
 ((kV (y_2,(x.1,aq.1)))/\ ∀au:(Bool×((List Int)×Bool)),au=(tS (y_2,(x.1,aq.1)))->
 (ob ((decide ((0:Int)<=(ae (Int.tdiv (au.2.1.length:Int) (2:Int)))))&&(decide ((ae (Int.tdiv (au.2.1.length:Int) (2:Int)))<=(au.2.1.length:Int))))
 (ob ((decide ((0:Int)<=(ae (Int.tdiv (au.2.1.length:Int) (2:Int)))))&&(decide ((ae (Int.tdiv (au.2.1.length:Int) (2:Int)))<=(((Int.toNat (ae (Int.tdiv (au.2.1.length:Int) (2:Int)))):Nat):Int))))
 (ob ((decide ((0:Int)<=(ae (Int.tdiv (au.2.1.length:Int) (2:Int)))))&&(decide ((ae (Int.tdiv (au.2.1.length:Int) (2:Int)))<=(au.2.1.length:Int))))
 ((S=S)/\
 (Q ((List.take (Int.toNat (ae (Int.tdiv (au.2.1.length:Int) (2:Int)))) au.2.1),(List.drop (Int.toNat (ae (Int.tdiv (au.2.1.length:Int) (2:Int)))) au.2.1))))))))))):=by kernel_rfl
theorem Na (x:((List I9)×(List Int))) (S:Nat->Prop) (Q:((List Int)×(List Int))->Prop) (hp:fR x) (hq:Q (mb x)):Vc (ET ⟨tt,wL,fh,[],[],[]⟩ Try.f19 (fH (.pair (.one (Ty.sl cH)) (.one (Ty.sl yi))) x) (fW (.pair (.one (Ty.sl cH)) (.one (Ty.sl yi))) x++ [.eZ S]) (DW (.pair (.one (Ty.sl yi)) (.one (Ty.sl yi))) S Q)):= .eq (Nc x S Q) (have hp:=Eq.mp (fR.eq_1 x) hp;have hq:=Eq.mp (congrArg Q (mb.eq_1 x)) hq;
 (And.intro hp.1 (tH (Q:=Q) hp.2 hq fun y hp hq=>(And.intro hp.1 (tH (Q:=Q) hp.2 hq fun aq hp hq=>(And.intro hp.1 (tH (Q:=Q) hp.2 hq fun y_2 hp hq=>(And.intro hp.1 (tH (Q:=Q) hp.2 hq fun au hp hq=>(lM (cj (decide_eq_true hp.1.1) (decide_eq_true hp.1.2)) (have hp:=hp.2;(lM (cj (decide_eq_true hp.1.1) (decide_eq_true hp.1.2)) (have hp:=hp.2;(lM (cj (decide_eq_true hp.1) (decide_eq_true hp.2)) (And.intro rfl hq)))))))))))))))
abbrev Ci:jh:=⟨(.pair (.one (Ty.sl cH)) (.one (Ty.sl yi))),(.pair (.one (Ty.sl yi)) (.one (Ty.sl yi))),fR,mb⟩
theorem Nb:av Try.prog 19 (sE Ci):=av.ZF (fn:=Try.f19) aQ uN mixed (by kernel_rfl) (by kernel_rfl) (.pair (.one (Ty.sl cH)) (.one (Ty.sl yi))) (.pair (.one (Ty.sl yi)) (.one (Ty.sl yi))) fR mb fun x hp S=>⟨_,_,(aD.nil _ _),aB.nil,Na x S (fun y=>y=mb x) hp rfl⟩
def Ep:List (Nat×Ev.Spec):=(19,sE Ci)::wL
theorem w9:ah Try.prog Ep:=ah.add (fn:=Try.f19) (by kernel_rfl) Nb uN
def MH (x:(Int×(List I9))):Bool:=
 (if (x.1<(0:Int)) then
 true else
 (decide (x.1>=(x.2.length:Int))))
def Pr (_:(Int×(List I9))):Prop:=True
def UM (x:(Int×(List I9))):Tr Bool false:=
 (.Ii (x.1<z0)
 (.ret true)
 (.ret (decide (x.1>=(nL x.2)))))
abbrev Fm:jh:=⟨(.pair (.one yi) (.ptr (.sl (.prod (.prod (.int .i64) (.prod (.int .i64) (.int .i64))) (.prod (.prod (.int .i64) (.prod (.int .i64) (.int .i64))) (.prod (.int .i64) (.prod (.int .i64) (.int .i64)))))))),(.one Ty.bool),Pr,MH⟩
theorem RW:av Try.prog 27 (aH Fm):=av.tr Fm UM (fn:=Try.f27) aQ w9 mixed (by kernel_rfl) (aD.nil _ _) (fun x=>aB.nil) (fun x=>(by kernel_rfl)) fun x Q=>(by kernel_rfl)
def Lc:List (Nat×Ev.Spec):=(27,aH Fm)::Ep
theorem uP:ah Try.prog Lc:=ah.add (fn:=Try.f27) (by kernel_rfl) RW w9
def Di (x:((List Int)×(List I9))):aS:=⟨[],⟨ej 19 0 [(0,.v (.one (.full 0))),(1,.v (.one (.kq 27 0 [.elem 1]))),(7,.v (.one (.i .i64))),(8,.v (.one (.i .i64)))],[.row yi 0,.row (Ty.sl cH) 0],0,none,[],[0,1,3,4],[2],[.i],[.n 0,.i (x.1.length:Int),.l yi x.1,.l (Ty.sl cH) [x.2]]⟩,[⟨.ret,.ret,⟨ej 19 0 [(4,.v (.one (.i .i64)))],[],0,none,[],[],[0],[.i],[]⟩⟩,⟨(.exit 0),.normal,⟨ej 19 0 [],[],0,none,[],[],[],[],[]⟩⟩]⟩
def gW (x:((List Int)×(List I9))) (s:Int):Int⊕(Int⊕Unit):=
 (if (s<(x.1.length:Int)) then
 (ai (MH ((List.getD x.1 (Int.toNat s) (0:Int)),x.2)) fun y=>
 (if (y=true) then
 (Sum.inr (Sum.inl s)) else
 (Sum.inl (ae (s+(1:Int)))))) else
 (Sum.inr (Sum.inr (()))))
def oG (x:((List Int)×(List I9))) (s:Int):Prop:=
 ((s<(x.1.length:Int))->
 ((((0:Int)<=s)/\ (s<(x.1.length:Int)))/\
 (((Int.toNat s)<(List.length x.1))/\
 ((Int.toNat s)<(List.length x.1)))))
def yB (x:((List Int)×(List I9))) (s:Int):Tr (Int⊕(Int⊕Unit)) true:=
 (.i10 (s<(nL x.1))
 (.cf s x.1
 (.fn0 Fm ((gI x.1 s),x.2) trivial fun y=>
 (.CA y
 (.ret (.inr (Sum.inl s)))
 (.ret (.inl (w1 s))))))
 (.ret (.inr (Sum.inr (())))))
def Je (x:((List Int)×(List I9))):Int:=
 (ai (run (gW x) (0:Int)) fun r=>
 (Sum.elim (fun a=>
 a) (fun b=>
 (-1:Int)) r))
def A9 (x:((List Int)×(List I9))):Prop:=
 (Term (gW x) (oG x) (0:Int))
def OS (x:((List Int)×(List I9))):Tr Int true:=
 (aS.lp (Di x) (yB x) z0 fun r=>
 (.QT r (fun a=>
 (.ret a)) (fun b=>
 (.ret (-1:Int)))))
abbrev vE:jh:=⟨(.pair (.one (Ty.sl yi)) (.kq 27 (.ptr (.sl (.prod (.prod (.int .i64) (.prod (.int .i64) (.int .i64))) (.prod (.prod (.int .i64) (.prod (.int .i64) (.int .i64))) (.prod (.int .i64) (.prod (.int .i64) (.int .i64))))))))),(.one yi),A9,Je⟩
theorem Mj:av Try.prog 43 (aH vE):=av.tr vE OS (fn:=Try.f43) aQ uP mixed (by kernel_rfl) (aD.nil _ _) (fun x=>(aB.tr aQ (ah.fe uP (aD.nil _ _)) mixed 0 (Di x) (yB x) aB.nil (by kernel_rfl) fun g s Q=>(by kernel_rfl))) (fun x=>(by kernel_rfl)) fun x Q=>(by kernel_rfl)
def Ec:List (Nat×Ev.Spec):=(43,aH vE)::Lc
theorem wT:ah Try.prog Ec:=ah.add (fn:=Try.f43) (by kernel_rfl) Mj uP
def iD (x:((List Int)×(List I9))):Bool:=
 (ai (Je x) fun y=>
 (decide (y>=(0:Int))))
def iX (x:((List Int)×(List I9))):Prop:=
 (A9 x)
def F3 (x:((List Int)×(List I9))):Tr Bool true:=
 (.fn vE x fun y=>
 (.ret (decide (y>=z0))))
abbrev lF:jh:=⟨(.pair (.one (Ty.sl yi)) (.kq 27 (.ptr (.sl (.prod (.prod (.int .i64) (.prod (.int .i64) (.int .i64))) (.prod (.prod (.int .i64) (.prod (.int .i64) (.int .i64))) (.prod (.int .i64) (.prod (.int .i64) (.int .i64))))))))),(.one Ty.bool),iX,iD⟩
theorem vf:av Try.prog 28 (aH lF):=av.tr lF F3 (fn:=Try.f28) aQ wT mixed (by kernel_rfl) (aD.nil _ _) (fun x=>aB.nil) (fun x=>(by kernel_rfl)) fun x Q=>(by kernel_rfl)
def mD:List (Nat×Ev.Spec):=(28,aH lF)::Ec
theorem qK:ah Try.prog mD:=ah.add (fn:=Try.f28) (by kernel_rfl) vf wT
def Cj (x:((List I9)×(List Int))):((List Int)×((List Int)×Int)):=
 (ai (l8 x.1) fun y=>
 (if ((!y)=true) then
 ([],([],(5:Int))) else
 (if ((x.2.length:Int)<(2:Int)) then
 ([],([],(1:Int))) else
 (ai (iD (x.2,x.1)) fun aq=>
 (if (aq=true) then
 ([],([],(1:Int))) else
 (ai (mb x) fun y_2=>
 (ai (ji y_2.2) fun au=>
 (y_2.1,(au,(0:Int))))))))))
def qA (x:((List I9)×(List Int))):Prop:=
 ((kU x.1)/\
 ay (l8 x.1) fun y=>
 (¬((!y)=true)->
 (¬((x.2.length:Int)<(2:Int))->
 ((iX (x.2,x.1))/\
 ay (iD (x.2,x.1)) fun aq=>
 (¬(aq=true)->
 ((fR x)/\
 ay (mb x) fun y_2=>
 (eY y_2.2)))))))
theorem Ng (x:((List I9)×(List Int))) (S:Nat->Prop) (Q:((List Int)×((List Int)×Int))->Prop):ET ⟨tt,mD,fh,[],[],[]⟩ Try.f11 (fH (.pair (.one (Ty.sl cH)) (.one (Ty.sl yi))) x) (fW (.pair (.one (Ty.sl cH)) (.one (Ty.sl yi))) x++ [.eZ S]) (DW (.pair (.one (Ty.sl yi)) (.pair (.one (Ty.sl yi)) (.one yi))) S Q)=
 ((kU x.1)/\ ∀y:Bool,y=(l8 x.1)->
 (cB (!y)
 ((S=S)/\
 (Q ([],([],(5:Int)))))
 (cB (decide ((x.2.length:Int)<(2:Int)))
 ((S=S)/\
 (Q ([],([],(1:Int)))))
 ((iX (x.2,x.1))/\ ∀aq:Bool,aq=(iD (x.2,x.1))->
 (cB aq
 ((S=S)/\
 (Q ([],([],(1:Int)))))
 ((fR x)/\ ∀y_2:((List Int)×(List Int)),y_2=(mb x)->
 ((eY y_2.2)/\ ∀au:(List Int),au=(ji y_2.2)->
 ((S=S)/\
 (Q (y_2.1,(au,(0:Int)))))))))))):=by kernel_rfl
theorem Nd (x:((List I9)×(List Int))) (S:Nat->Prop) (Q:((List Int)×((List Int)×Int))->Prop) (hp:qA x) (hq:Q (Cj x)):Vc (ET ⟨tt,mD,fh,[],[],[]⟩ Try.f11 (fH (.pair (.one (Ty.sl cH)) (.one (Ty.sl yi))) x) (fW (.pair (.one (Ty.sl cH)) (.one (Ty.sl yi))) x++ [.eZ S]) (DW (.pair (.one (Ty.sl yi)) (.pair (.one (Ty.sl yi)) (.one yi))) S Q)):= .eq (Ng x S Q) (have hp:=Eq.mp (qA.eq_1 x) hp;have hq:=Eq.mp (congrArg Q (Cj.eq_1 x)) hq;
 (And.intro hp.1 (tH (Q:=Q) hp.2 hq fun y hp hq=>(NR (Q:=Q) hq (fun c hq=>(And.intro rfl hq)) (fun c hq=>have hp:=(hp c);(LG (Q:=Q) hq (fun c hq=>(And.intro rfl hq)) (fun c hq=>have hp:=(hp c);(And.intro hp.1 (tH (Q:=Q) hp.2 hq fun aq hp hq=>(NR (Q:=Q) hq (fun c hq=>(And.intro rfl hq)) (fun c hq=>have hp:=(hp c);(And.intro hp.1 (tH (Q:=Q) hp.2 hq fun y_2 hp hq=>(And.intro hp (Pb (Q:=Q) hq fun au hq=>(And.intro rfl hq))))))))))))))))
abbrev HX:jh:=⟨(.pair (.one (Ty.sl cH)) (.one (Ty.sl yi))),(.pair (.one (Ty.sl yi)) (.pair (.one (Ty.sl yi)) (.one yi))),qA,Cj⟩
theorem Nf:av Try.prog 11 (sE HX):=av.ZF (fn:=Try.f11) aQ qK mixed (by kernel_rfl) (by kernel_rfl) (.pair (.one (Ty.sl cH)) (.one (Ty.sl yi))) (.pair (.one (Ty.sl yi)) (.pair (.one (Ty.sl yi)) (.one yi))) qA Cj fun x hp S=>⟨_,_,(aD.nil _ _),aB.nil,Nd x S (fun y=>y=Cj x) hp rfl⟩
def Er:List (Nat×Ev.Spec):=(11,sE HX)::mD
theorem FA:ah Try.prog Er:=ah.add (fn:=Try.f11) (by kernel_rfl) Nf qK
end Go.Proofs.Ytaipcbdilkcdbaa
