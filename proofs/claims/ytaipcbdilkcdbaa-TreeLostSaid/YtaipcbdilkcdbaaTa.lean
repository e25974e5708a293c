/- Models of slices' functions that sort. -/
import Derived.Test.YtaipcbdilkcdbaaCm
noncomputable section
set_option linter.unusedSectionVars false
set_option linter.unusedVariables false
set_option linter.unusedSimpArgs false
namespace Go.Proofs.Ytaipcbdilkcdbaa
open Go Go.Ev Go.Proofs
def DX (x:((List Int)×(Int×(Int×((List I9)×Int))))):aS:=⟨[.env],⟨ej 34 0 [(0,.v (.one (.full 0))),(8,.v (.one (.i .i64))),(9,.v (.one (.i .i64)))],[.row yi 1,.row cH 0,.de 2],3,none,[4],[3],[2,0,1],[(.l yi),.i,.i],[.l cH x.2.2.2.1]⟩,[⟨(.exit 0),.normal,⟨ej 34 0 [],[.row yi 1,.row cH 0,.de 2],3,none,[2],[1],[0],[(.l yi)],[.l cH x.2.2.2.1]⟩⟩]⟩
def ek (x:((List Int)×(Int×(Int×((List I9)×Int))))) (s:((List Int)×I2)):((List Int)×I2)⊕(List Int):=
 (if (s.2.1<s.2.2) then
 (ai (List.set s.1 (Int.toNat s.2.1) (List.getD s.1 (Int.toNat s.2.2) (0:Int))) fun y=>
 (ai (List.set y (Int.toNat s.2.2) (List.getD s.1 (Int.toNat s.2.1) (0:Int))) fun aq=>
 (Sum.inl (aq,((ae (s.2.1+(1:Int))),(ae (s.2.2- (1:Int)))))))) else
 (Sum.inr (s.1)))
def ja (x:((List Int)×(Int×(Int×((List I9)×Int))))) (s:((List Int)×I2)):Prop:=
 ((s.2.1<s.2.2)->
 ((((0:Int)<=s.2.2)/\ (s.2.2<(s.1.length:Int)))/\
 (((Int.toNat s.2.2)<(List.length s.1))/\
 (((Int.toNat s.2.2)<(List.length s.1))/\
 ((((0:Int)<=s.2.1)/\ (s.2.1<(s.1.length:Int)))/\
 (((Int.toNat s.2.1)<(List.length s.1))/\
 (((Int.toNat s.2.1)<(List.length s.1))/\
 ((((0:Int)<=s.2.1)/\ (s.2.1<(s.1.length:Int)))/\
 (((Int.toNat s.2.1)<(List.length s.1))/\
 (((Int.toNat s.2.1)<(List.length s.1))/\
 (ay (List.set s.1 (Int.toNat s.2.1) (List.getD s.1 (Int.toNat s.2.2) (0:Int))) fun y=>
 ((((0:Int)<=s.2.2)/\ (s.2.2<(y.length:Int)))/\
 (((Int.toNat s.2.2)<(List.length y))/\
 ((Int.toNat s.2.2)<(List.length y)))))))))))))))
def yW (x:((List Int)×(Int×(Int×((List I9)×Int))))) (s:((List Int)×I2)):Tr (((List Int)×I2)⊕(List Int)) true:=
 (.i10 (s.2.1<s.2.2)
 (.cf s.2.2 s.1
 (.cf s.2.1 s.1
 (.cf s.2.1 s.1
 (.lt (List.set s.1 (tN s.2.1) (gI s.1 s.2.2)) fun y=>
 (.cf s.2.2 y
 (.lt (List.set y (tN s.2.2) (gI s.1 s.2.1)) fun aq=>
 (.ret (.inl (aq,((w1 s.2.1),(wm s.2.2)))))))))))
 (.ret (.inr (s.1))))
def CT (x:((List Int)×(Int×(Int×((List I9)×Int))))):(Bool×((List Int)×(Bool×(Bool×Bool)))):=
 (ai (run (ek x) (x.1,(x.2.1,(ae (x.2.2.1- (1:Int)))))) fun r=>
 (false,(r,(false,(false,false)))))
def pD (x:((List Int)×(Int×(Int×((List I9)×Int))))):Prop:=
 (Term (ek x) (ja x) (x.1,(x.2.1,(ae (x.2.2.1- (1:Int)))))/\
 ay (run (ek x) (x.1,(x.2.1,(ae (x.2.2.1- (1:Int)))))) fun r=>
 ((List.length r)=(List.length x.1)))
def U4 (x:((List Int)×(Int×(Int×((List I9)×Int))))):Tr (Bool×((List Int)×(Bool×(Bool×Bool)))) true:=
 (aS.lp (DX x) (yW x) (x.1,(x.2.1,(wm x.2.2.1))) fun r=>
 (.pn 0 2
 (.og ((decide ((List.length r)=(List.length x.1)))&&true) ((List.length r)=(List.length x.1)) (fun h=>(cj (decide_eq_true h) rfl))
 (.ret (false,(r,(false,(false,false))))))))
abbrev BT:Cz:=⟨(.pair (.row yi) (.pair (.val (.one yi)) (.pair (.val (.one yi)) (.val uc)))),.none,pD,CT⟩
theorem SA:av Try.prog 60 (bC BT):=av.Ln BT U4 (fn:=Try.f60) aQ x5 mixed (by kernel_rfl) (aD.nil _ _) (fun x=>(aB.tr aQ (ah.fe x5 (aD.nil _ _)) mixed 0 (DX x) (yW x) aB.nil (by kernel_rfl) fun g s Q=>(by kernel_rfl))) (fun x=>(by kernel_rfl)) fun x r0 Q=>(by kernel_rfl)
def Li:List (Nat×Ev.Spec):=(60,bC BT)::Qm
theorem qw:ah Try.prog Li:=ah.add (fn:=Try.f60) (by kernel_rfl) SA x5
def Dn (x:((List Int)×(Int×(Int×((List I9)×Int))))):aS:=⟨[.env],⟨ej 53 0 [(0,.v (.one (.full 0))),(1,.v (.one (.i .i64))),(2,.v (.one (.i .i64))),(3,.v (.one (.mv 37 true [.full 1,.ext]))),(8,.v (.one (.i .i64))),(9,.v (.one (.i .i64)))],[.row yi 1,.row cH 0,.de 2],3,none,[7],[0,1,2,6],[5,3,4],[(.l yi),.i,.i],[.i x.2.1,.i x.2.2.1,.v (.int .i64 x.2.2.2.2),.l cH x.2.2.2.1]⟩,[⟨(.exit 2),.normal,⟨ej 53 0 [(0,.v (.one (.full 0))),(1,.v (.one (.i .i64))),(2,.v (.one (.i .i64))),(3,.v (.one (.mv 37 true [.full 1,.ext]))),(8,.v (.one (.i .i64)))],[.row yi 1,.row cH 0,.de 2],3,none,[6],[0,1,2,5],[4,3],[(.l yi),.i],[.i x.2.1,.i x.2.2.1,.v (.int .i64 x.2.2.2.2),.l cH x.2.2.2.1]⟩⟩]⟩
def dr (x:((List Int)×(Int×(Int×((List I9)×Int))))) (s:((List Int)×I2)):((List Int)×I2)⊕((List Int)×Int):=
 (if (s.2.2>x.2.1) then
 (ai (j8 (x.2.2.2,((List.getD s.1 (Int.toNat s.2.2) (0:Int)),(List.getD s.1 (Int.toNat (ae (s.2.2- (1:Int)))) (0:Int))))) fun y=>
 (if (y<(0:Int)) then
 (ai (List.set s.1 (Int.toNat s.2.2) (List.getD s.1 (Int.toNat (ae (s.2.2- (1:Int)))) (0:Int))) fun aq=>
 (ai (List.set aq (Int.toNat (ae (s.2.2- (1:Int)))) (List.getD s.1 (Int.toNat s.2.2) (0:Int))) fun y_2=>
 (Sum.inl (y_2,(s.2.1,(ae (s.2.2- (1:Int)))))))) else
 (Sum.inr ((s.1,s.2.1))))) else
 (Sum.inr ((s.1,s.2.1))))
def gq (x:((List Int)×(Int×(Int×((List I9)×Int))))) (s:((List Int)×I2)):Prop:=
 ((s.2.2>x.2.1)->
 ((((0:Int)<=s.2.2)/\ (s.2.2<(s.1.length:Int)))/\
 (((Int.toNat s.2.2)<(List.length s.1))/\
 (((Int.toNat s.2.2)<(List.length s.1))/\
 ((((0:Int)<=(ae (s.2.2- (1:Int))))/\ ((ae (s.2.2- (1:Int)))<(s.1.length:Int)))/\
 (((Int.toNat (ae (s.2.2- (1:Int))))<(List.length s.1))/\
 (((Int.toNat (ae (s.2.2- (1:Int))))<(List.length s.1))/\
 ((bO (x.2.2.2,((List.getD s.1 (Int.toNat s.2.2) (0:Int)),(List.getD s.1 (Int.toNat (ae (s.2.2- (1:Int)))) (0:Int)))))/\
 ay (j8 (x.2.2.2,((List.getD s.1 (Int.toNat s.2.2) (0:Int)),(List.getD s.1 (Int.toNat (ae (s.2.2- (1:Int)))) (0:Int))))) fun y=>
 ((y<(0:Int))->
 ((((0:Int)<=(ae (s.2.2- (1:Int))))/\ ((ae (s.2.2- (1:Int)))<(s.1.length:Int)))/\
 (((Int.toNat (ae (s.2.2- (1:Int))))<(List.length s.1))/\
 (((Int.toNat (ae (s.2.2- (1:Int))))<(List.length s.1))/\
 ((((0:Int)<=s.2.2)/\ (s.2.2<(s.1.length:Int)))/\
 (((Int.toNat s.2.2)<(List.length s.1))/\
 (((Int.toNat s.2.2)<(List.length s.1))/\
 ((((0:Int)<=s.2.2)/\ (s.2.2<(s.1.length:Int)))/\
 (((Int.toNat s.2.2)<(List.length s.1))/\
 (((Int.toNat s.2.2)<(List.length s.1))/\
 (ay (List.set s.1 (Int.toNat s.2.2) (List.getD s.1 (Int.toNat (ae (s.2.2- (1:Int)))) (0:Int))) fun aq=>
 ((((0:Int)<=(ae (s.2.2- (1:Int))))/\ ((ae (s.2.2- (1:Int)))<(aq.length:Int)))/\
 (((Int.toNat (ae (s.2.2- (1:Int))))<(List.length aq))/\
 ((Int.toNat (ae (s.2.2- (1:Int))))<(List.length aq)))))))))))))))))))))))
def yH (x:((List Int)×(Int×(Int×((List I9)×Int))))) (s:((List Int)×I2)):Tr (((List Int)×I2)⊕((List Int)×Int)) true:=
 (.i10 (s.2.2>x.2.1)
 (.cf s.2.2 s.1
 (.cf (wm s.2.2) s.1
 (.fn dO (x.2.2.2,((gI s.1 s.2.2),(gI s.1 (wm s.2.2)))) fun y=>
 (.i10 (y<z0)
 (.cf (wm s.2.2) s.1
 (.cf s.2.2 s.1
 (.cf s.2.2 s.1
 (.lt (List.set s.1 (tN s.2.2) (gI s.1 (wm s.2.2))) fun aq=>
 (.cf (wm s.2.2) aq
 (.lt (List.set aq (tN (wm s.2.2)) (gI s.1 s.2.2)) fun y_2=>
 (.ret (.inl (y_2,(s.2.1,(wm s.2.2)))))))))))
 (.ret (.inr ((s.1,s.2.1))))))))
 (.ret (.inr ((s.1,s.2.1)))))
def Dm (x:((List Int)×(Int×(Int×((List I9)×Int))))):aS:=⟨[.env],⟨ej 53 0 [(0,.v (.one (.full 0))),(1,.v (.one (.i .i64))),(2,.v (.one (.i .i64))),(3,.v (.one (.mv 37 true [.full 1,.ext]))),(8,.v (.one (.i .i64)))],[.row yi 1,.row cH 0,.de 2],3,none,[6],[0,1,2,5],[4,3],[(.l yi),.i],[.i x.2.1,.i x.2.2.1,.v (.int .i64 x.2.2.2.2),.l cH x.2.2.2.1]⟩,[⟨(.exit 0),.normal,⟨ej 53 0 [],[.row yi 1,.row cH 0,.de 2],3,none,[2],[1],[0],[(.l yi)],[.l cH x.2.2.2.1]⟩⟩]⟩
def dZ (x:((List Int)×(Int×(Int×((List I9)×Int))))) (s:((List Int)×Int)):((List Int)×Int)⊕(List Int):=
 (if (s.2<x.2.2.1) then
 (ai (run (dr x) (s.1,(s.2,s.2))) fun r=>
 (Sum.inl (r.1,(ae (r.2+(1:Int)))))) else
 (Sum.inr (s.1)))
def iY (x:((List Int)×(Int×(Int×((List I9)×Int))))) (s:((List Int)×Int)):Prop:=
 ((s.2<x.2.2.1)->
 (Term (dr x) (gq x) (s.1,(s.2,s.2))))
def yE (x:((List Int)×(Int×(Int×((List I9)×Int))))) (s:((List Int)×Int)):Tr (((List Int)×Int)⊕(List Int)) true:=
 (.i10 (s.2<x.2.2.1)
 (aS.lp (Dn x) (yH x) (s.1,(s.2,s.2)) fun r=>
 (.ret (.inl (r.1,(w1 r.2)))))
 (.ret (.inr (s.1))))
def Jh (x:((List Int)×(Int×(Int×((List I9)×Int))))):(Bool×((List Int)×(Bool×(Bool×Bool)))):=
 (ai (run (dZ x) (x.1,(ae (x.2.1+(1:Int))))) fun r=>
 (false,(r,(false,(false,false)))))
def rL (x:((List Int)×(Int×(Int×((List I9)×Int))))):Prop:=
 (Term (dZ x) (iY x) (x.1,(ae (x.2.1+(1:Int))))/\
 ay (run (dZ x) (x.1,(ae (x.2.1+(1:Int))))) fun r=>
 ((List.length r)=(List.length x.1)))
def Uq (x:((List Int)×(Int×(Int×((List I9)×Int))))):Tr (Bool×((List Int)×(Bool×(Bool×Bool)))) true:=
 (aS.lp (Dm x) (yE x) (x.1,(w1 x.2.1)) fun r=>
 (.pn 0 2
 (.og ((decide ((List.length r)=(List.length x.1)))&&true) ((List.length r)=(List.length x.1)) (fun h=>(cj (decide_eq_true h) rfl))
 (.ret (false,(r,(false,(false,false))))))))
abbrev E5:Cz:=⟨(.pair (.row yi) (.pair (.val (.one yi)) (.pair (.val (.one yi)) (.val uc)))),.none,rL,Jh⟩
theorem RB:av Try.prog 56 (bC E5):=av.Ln E5 Uq (fn:=Try.f56) aQ qw mixed (by kernel_rfl) (aD.nil _ _) (fun x=>(aB.tr aQ (ah.fe qw (aD.nil _ _)) mixed 0 (Dm x) (yE x) (aB.tr aQ (ah.fe qw (aD.nil _ _)) mixed 2 (Dn x) (yH x) aB.nil (by kernel_rfl) fun g s Q=>(by kernel_rfl)) (by kernel_rfl) fun g s Q=>(by kernel_rfl))) (fun x=>(by kernel_rfl)) fun x r0 Q=>(by kernel_rfl)
def K9:List (Nat×Ev.Spec):=(56,bC E5)::Li
theorem uO:ah Try.prog K9:=ah.add (fn:=Try.f56) (by kernel_rfl) RB qw
def B0 (x:((List Int)×(Int×(Int×(Int×((List I9)×Int)))))):aS:=⟨[.env],⟨ej 82 0 [(0,.v (.one (.full 0))),(2,.v (.one (.i .i64))),(3,.v (.one (.i .i64))),(4,.v (.one (.mv 37 true [.full 1,.ext]))),(10,.v (.one (.i .i64)))],[.row yi 1,.row cH 0,.de 2],3,none,[6],[0,1,2,5],[4,3],[(.l yi),.i],[.i x.2.2.1,.i x.2.2.2.1,.v (.int .i64 x.2.2.2.2.2),.l cH x.2.2.2.2.1]⟩,[⟨(.exit 0),.normal,⟨ej 82 0 [],[.row yi 1,.row cH 0,.de 2],3,none,[2],[1],[0],[(.l yi)],[.l cH x.2.2.2.2.1]⟩⟩,⟨.ret,.ret,⟨ej 82 0 [],[.row yi 1,.row cH 0,.de 2],3,none,[2],[1],[0],[(.l yi)],[.l cH x.2.2.2.2.1]⟩⟩]⟩
def bx (x:((List Int)×(Int×(Int×(Int×((List I9)×Int)))))) (s:((List Int)×Int)):((List Int)×Int)⊕((List Int)⊕(List Int)):=
 (if ((ae ((ae ((2:Int)*s.2))+(1:Int)))>=x.2.2.1) then
 (Sum.inr (Sum.inl s.1)) else
 (if ((ae ((ae ((ae ((2:Int)*s.2))+(1:Int)))+(1:Int)))<x.2.2.1) then
 (ai (j8 (x.2.2.2.2,((List.getD s.1 (Int.toNat (ae (x.2.2.2.1+(ae ((ae ((2:Int)*s.2))+(1:Int)))))) (0:Int)),(List.getD s.1 (Int.toNat (ae ((ae (x.2.2.2.1+(ae ((ae ((2:Int)*s.2))+(1:Int)))))+(1:Int)))) (0:Int))))) fun y=>
 (if (y<(0:Int)) then
 (ai (j8 (x.2.2.2.2,((List.getD s.1 (Int.toNat (ae (x.2.2.2.1+s.2))) (0:Int)),(List.getD s.1 (Int.toNat (ae (x.2.2.2.1+(ae ((ae ((ae ((2:Int)*s.2))+(1:Int)))+(1:Int)))))) (0:Int))))) fun aq=>
 (if ((!(decide (aq<(0:Int))))=true) then
 (Sum.inr (Sum.inr (s.1))) else
 (ai (List.set s.1 (Int.toNat (ae (x.2.2.2.1+s.2))) (List.getD s.1 (Int.toNat (ae (x.2.2.2.1+(ae ((ae ((ae ((2:Int)*s.2))+(1:Int)))+(1:Int)))))) (0:Int))) fun y_2=>
 (ai (List.set y_2 (Int.toNat (ae (x.2.2.2.1+(ae ((ae ((ae ((2:Int)*s.2))+(1:Int)))+(1:Int)))))) (List.getD s.1 (Int.toNat (ae (x.2.2.2.1+s.2))) (0:Int))) fun au=>
 (Sum.inl (au,(ae ((ae ((ae ((2:Int)*s.2))+(1:Int)))+(1:Int))))))))) else
 (ai (j8 (x.2.2.2.2,((List.getD s.1 (Int.toNat (ae (x.2.2.2.1+s.2))) (0:Int)),(List.getD s.1 (Int.toNat (ae (x.2.2.2.1+(ae ((ae ((2:Int)*s.2))+(1:Int)))))) (0:Int))))) fun aq=>
 (if ((!(decide (aq<(0:Int))))=true) then
 (Sum.inr (Sum.inr (s.1))) else
 (ai (List.set s.1 (Int.toNat (ae (x.2.2.2.1+s.2))) (List.getD s.1 (Int.toNat (ae (x.2.2.2.1+(ae ((ae ((2:Int)*s.2))+(1:Int)))))) (0:Int))) fun y_2=>
 (ai (List.set y_2 (Int.toNat (ae (x.2.2.2.1+(ae ((ae ((2:Int)*s.2))+(1:Int)))))) (List.getD s.1 (Int.toNat (ae (x.2.2.2.1+s.2))) (0:Int))) fun au=>
 (Sum.inl (au,(ae ((ae ((2:Int)*s.2))+(1:Int))))))))))) else
 (ai (j8 (x.2.2.2.2,((List.getD s.1 (Int.toNat (ae (x.2.2.2.1+s.2))) (0:Int)),(List.getD s.1 (Int.toNat (ae (x.2.2.2.1+(ae ((ae ((2:Int)*s.2))+(1:Int)))))) (0:Int))))) fun y=>
 (if ((!(decide (y<(0:Int))))=true) then
 (Sum.inr (Sum.inr (s.1))) else
 (ai (List.set s.1 (Int.toNat (ae (x.2.2.2.1+s.2))) (List.getD s.1 (Int.toNat (ae (x.2.2.2.1+(ae ((ae ((2:Int)*s.2))+(1:Int)))))) (0:Int))) fun aq=>
 (ai (List.set aq (Int.toNat (ae (x.2.2.2.1+(ae ((ae ((2:Int)*s.2))+(1:Int)))))) (List.getD s.1 (Int.toNat (ae (x.2.2.2.1+s.2))) (0:Int))) fun y_2=>
 (Sum.inl (y_2,(ae ((ae ((2:Int)*s.2))+(1:Int)))))))))))
def fB (x:((List Int)×(Int×(Int×(Int×((List I9)×Int)))))) (s:((List Int)×Int)):Prop:=
 (¬((ae ((ae ((2:Int)*s.2))+(1:Int)))>=x.2.2.1)->
 ((((ae ((ae ((ae ((2:Int)*s.2))+(1:Int)))+(1:Int)))<x.2.2.1)->
 ((((0:Int)<=(ae (x.2.2.2.1+(ae ((ae ((2:Int)*s.2))+(1:Int))))))/\ ((ae (x.2.2.2.1+(ae ((ae ((2:Int)*s.2))+(1:Int)))))<(s.1.length:Int)))/\
 (((Int.toNat (ae (x.2.2.2.1+(ae ((ae ((2:Int)*s.2))+(1:Int))))))<(List.length s.1))/\
 (((Int.toNat (ae (x.2.2.2.1+(ae ((ae ((2:Int)*s.2))+(1:Int))))))<(List.length s.1))/\
 ((((0:Int)<=(ae ((ae (x.2.2.2.1+(ae ((ae ((2:Int)*s.2))+(1:Int)))))+(1:Int))))/\ ((ae ((ae (x.2.2.2.1+(ae ((ae ((2:Int)*s.2))+(1:Int)))))+(1:Int)))<(s.1.length:Int)))/\
 (((Int.toNat (ae ((ae (x.2.2.2.1+(ae ((ae ((2:Int)*s.2))+(1:Int)))))+(1:Int))))<(List.length s.1))/\
 (((Int.toNat (ae ((ae (x.2.2.2.1+(ae ((ae ((2:Int)*s.2))+(1:Int)))))+(1:Int))))<(List.length s.1))/\
 ((bO (x.2.2.2.2,((List.getD s.1 (Int.toNat (ae (x.2.2.2.1+(ae ((ae ((2:Int)*s.2))+(1:Int)))))) (0:Int)),(List.getD s.1 (Int.toNat (ae ((ae (x.2.2.2.1+(ae ((ae ((2:Int)*s.2))+(1:Int)))))+(1:Int)))) (0:Int)))))/\
 ay (j8 (x.2.2.2.2,((List.getD s.1 (Int.toNat (ae (x.2.2.2.1+(ae ((ae ((2:Int)*s.2))+(1:Int)))))) (0:Int)),(List.getD s.1 (Int.toNat (ae ((ae (x.2.2.2.1+(ae ((ae ((2:Int)*s.2))+(1:Int)))))+(1:Int)))) (0:Int))))) fun y=>
 (((y<(0:Int))->
 ((((0:Int)<=(ae (x.2.2.2.1+s.2)))/\ ((ae (x.2.2.2.1+s.2))<(s.1.length:Int)))/\
 (((Int.toNat (ae (x.2.2.2.1+s.2)))<(List.length s.1))/\
 (((Int.toNat (ae (x.2.2.2.1+s.2)))<(List.length s.1))/\
 ((((0:Int)<=(ae (x.2.2.2.1+(ae ((ae ((ae ((2:Int)*s.2))+(1:Int)))+(1:Int))))))/\ ((ae (x.2.2.2.1+(ae ((ae ((ae ((2:Int)*s.2))+(1:Int)))+(1:Int)))))<(s.1.length:Int)))/\
 (((Int.toNat (ae (x.2.2.2.1+(ae ((ae ((ae ((2:Int)*s.2))+(1:Int)))+(1:Int))))))<(List.length s.1))/\
 (((Int.toNat (ae (x.2.2.2.1+(ae ((ae ((ae ((2:Int)*s.2))+(1:Int)))+(1:Int))))))<(List.length s.1))/\
 ((bO (x.2.2.2.2,((List.getD s.1 (Int.toNat (ae (x.2.2.2.1+s.2))) (0:Int)),(List.getD s.1 (Int.toNat (ae (x.2.2.2.1+(ae ((ae ((ae ((2:Int)*s.2))+(1:Int)))+(1:Int)))))) (0:Int)))))/\
 ay (j8 (x.2.2.2.2,((List.getD s.1 (Int.toNat (ae (x.2.2.2.1+s.2))) (0:Int)),(List.getD s.1 (Int.toNat (ae (x.2.2.2.1+(ae ((ae ((ae ((2:Int)*s.2))+(1:Int)))+(1:Int)))))) (0:Int))))) fun aq=>
 (¬((!(decide (aq<(0:Int))))=true)->
 ((((0:Int)<=(ae (x.2.2.2.1+(ae ((ae ((ae ((2:Int)*s.2))+(1:Int)))+(1:Int))))))/\ ((ae (x.2.2.2.1+(ae ((ae ((ae ((2:Int)*s.2))+(1:Int)))+(1:Int)))))<(s.1.length:Int)))/\
 (((Int.toNat (ae (x.2.2.2.1+(ae ((ae ((ae ((2:Int)*s.2))+(1:Int)))+(1:Int))))))<(List.length s.1))/\
 (((Int.toNat (ae (x.2.2.2.1+(ae ((ae ((ae ((2:Int)*s.2))+(1:Int)))+(1:Int))))))<(List.length s.1))/\
 ((((0:Int)<=(ae (x.2.2.2.1+s.2)))/\ ((ae (x.2.2.2.1+s.2))<(s.1.length:Int)))/\
 (((Int.toNat (ae (x.2.2.2.1+s.2)))<(List.length s.1))/\
 (((Int.toNat (ae (x.2.2.2.1+s.2)))<(List.length s.1))/\
 ((((0:Int)<=(ae (x.2.2.2.1+s.2)))/\ ((ae (x.2.2.2.1+s.2))<(s.1.length:Int)))/\
 (((Int.toNat (ae (x.2.2.2.1+s.2)))<(List.length s.1))/\
 (((Int.toNat (ae (x.2.2.2.1+s.2)))<(List.length s.1))/\
 (ay (List.set s.1 (Int.toNat (ae (x.2.2.2.1+s.2))) (List.getD s.1 (Int.toNat (ae (x.2.2.2.1+(ae ((ae ((ae ((2:Int)*s.2))+(1:Int)))+(1:Int)))))) (0:Int))) fun y_2=>
 ((((0:Int)<=(ae (x.2.2.2.1+(ae ((ae ((ae ((2:Int)*s.2))+(1:Int)))+(1:Int))))))/\ ((ae (x.2.2.2.1+(ae ((ae ((ae ((2:Int)*s.2))+(1:Int)))+(1:Int)))))<(y_2.length:Int)))/\
 (((Int.toNat (ae (x.2.2.2.1+(ae ((ae ((ae ((2:Int)*s.2))+(1:Int)))+(1:Int))))))<(List.length y_2))/\
 ((Int.toNat (ae (x.2.2.2.1+(ae ((ae ((ae ((2:Int)*s.2))+(1:Int)))+(1:Int))))))<(List.length y_2)))))))))))))))))))))))/\
 (¬(y<(0:Int))->
 ((((0:Int)<=(ae (x.2.2.2.1+s.2)))/\ ((ae (x.2.2.2.1+s.2))<(s.1.length:Int)))/\
 (((Int.toNat (ae (x.2.2.2.1+s.2)))<(List.length s.1))/\
 (((Int.toNat (ae (x.2.2.2.1+s.2)))<(List.length s.1))/\
 ((((0:Int)<=(ae (x.2.2.2.1+(ae ((ae ((2:Int)*s.2))+(1:Int))))))/\ ((ae (x.2.2.2.1+(ae ((ae ((2:Int)*s.2))+(1:Int)))))<(s.1.length:Int)))/\
 (((Int.toNat (ae (x.2.2.2.1+(ae ((ae ((2:Int)*s.2))+(1:Int))))))<(List.length s.1))/\
 (((Int.toNat (ae (x.2.2.2.1+(ae ((ae ((2:Int)*s.2))+(1:Int))))))<(List.length s.1))/\
 ((bO (x.2.2.2.2,((List.getD s.1 (Int.toNat (ae (x.2.2.2.1+s.2))) (0:Int)),(List.getD s.1 (Int.toNat (ae (x.2.2.2.1+(ae ((ae ((2:Int)*s.2))+(1:Int)))))) (0:Int)))))/\
 ay (j8 (x.2.2.2.2,((List.getD s.1 (Int.toNat (ae (x.2.2.2.1+s.2))) (0:Int)),(List.getD s.1 (Int.toNat (ae (x.2.2.2.1+(ae ((ae ((2:Int)*s.2))+(1:Int)))))) (0:Int))))) fun aq=>
 (¬((!(decide (aq<(0:Int))))=true)->
 ((((0:Int)<=(ae (x.2.2.2.1+(ae ((ae ((2:Int)*s.2))+(1:Int))))))/\ ((ae (x.2.2.2.1+(ae ((ae ((2:Int)*s.2))+(1:Int)))))<(s.1.length:Int)))/\
 (((Int.toNat (ae (x.2.2.2.1+(ae ((ae ((2:Int)*s.2))+(1:Int))))))<(List.length s.1))/\
 (((Int.toNat (ae (x.2.2.2.1+(ae ((ae ((2:Int)*s.2))+(1:Int))))))<(List.length s.1))/\
 ((((0:Int)<=(ae (x.2.2.2.1+s.2)))/\ ((ae (x.2.2.2.1+s.2))<(s.1.length:Int)))/\
 (((Int.toNat (ae (x.2.2.2.1+s.2)))<(List.length s.1))/\
 (((Int.toNat (ae (x.2.2.2.1+s.2)))<(List.length s.1))/\
 ((((0:Int)<=(ae (x.2.2.2.1+s.2)))/\ ((ae (x.2.2.2.1+s.2))<(s.1.length:Int)))/\
 (((Int.toNat (ae (x.2.2.2.1+s.2)))<(List.length s.1))/\
 (((Int.toNat (ae (x.2.2.2.1+s.2)))<(List.length s.1))/\
 (ay (List.set s.1 (Int.toNat (ae (x.2.2.2.1+s.2))) (List.getD s.1 (Int.toNat (ae (x.2.2.2.1+(ae ((ae ((2:Int)*s.2))+(1:Int)))))) (0:Int))) fun y_2=>
 ((((0:Int)<=(ae (x.2.2.2.1+(ae ((ae ((2:Int)*s.2))+(1:Int))))))/\ ((ae (x.2.2.2.1+(ae ((ae ((2:Int)*s.2))+(1:Int)))))<(y_2.length:Int)))/\
 (((Int.toNat (ae (x.2.2.2.1+(ae ((ae ((2:Int)*s.2))+(1:Int))))))<(List.length y_2))/\
 ((Int.toNat (ae (x.2.2.2.1+(ae ((ae ((2:Int)*s.2))+(1:Int))))))<(List.length y_2))))))))))))))))))))))))))))))))/\
 (¬((ae ((ae ((ae ((2:Int)*s.2))+(1:Int)))+(1:Int)))<x.2.2.1)->
 ((((0:Int)<=(ae (x.2.2.2.1+s.2)))/\ ((ae (x.2.2.2.1+s.2))<(s.1.length:Int)))/\
 (((Int.toNat (ae (x.2.2.2.1+s.2)))<(List.length s.1))/\
 (((Int.toNat (ae (x.2.2.2.1+s.2)))<(List.length s.1))/\
 ((((0:Int)<=(ae (x.2.2.2.1+(ae ((ae ((2:Int)*s.2))+(1:Int))))))/\ ((ae (x.2.2.2.1+(ae ((ae ((2:Int)*s.2))+(1:Int)))))<(s.1.length:Int)))/\
 (((Int.toNat (ae (x.2.2.2.1+(ae ((ae ((2:Int)*s.2))+(1:Int))))))<(List.length s.1))/\
 (((Int.toNat (ae (x.2.2.2.1+(ae ((ae ((2:Int)*s.2))+(1:Int))))))<(List.length s.1))/\
 ((bO (x.2.2.2.2,((List.getD s.1 (Int.toNat (ae (x.2.2.2.1+s.2))) (0:Int)),(List.getD s.1 (Int.toNat (ae (x.2.2.2.1+(ae ((ae ((2:Int)*s.2))+(1:Int)))))) (0:Int)))))/\
 ay (j8 (x.2.2.2.2,((List.getD s.1 (Int.toNat (ae (x.2.2.2.1+s.2))) (0:Int)),(List.getD s.1 (Int.toNat (ae (x.2.2.2.1+(ae ((ae ((2:Int)*s.2))+(1:Int)))))) (0:Int))))) fun y=>
 (¬((!(decide (y<(0:Int))))=true)->
 ((((0:Int)<=(ae (x.2.2.2.1+(ae ((ae ((2:Int)*s.2))+(1:Int))))))/\ ((ae (x.2.2.2.1+(ae ((ae ((2:Int)*s.2))+(1:Int)))))<(s.1.length:Int)))/\
 (((Int.toNat (ae (x.2.2.2.1+(ae ((ae ((2:Int)*s.2))+(1:Int))))))<(List.length s.1))/\
 (((Int.toNat (ae (x.2.2.2.1+(ae ((ae ((2:Int)*s.2))+(1:Int))))))<(List.length s.1))/\
 ((((0:Int)<=(ae (x.2.2.2.1+s.2)))/\ ((ae (x.2.2.2.1+s.2))<(s.1.length:Int)))/\
 (((Int.toNat (ae (x.2.2.2.1+s.2)))<(List.length s.1))/\
 (((Int.toNat (ae (x.2.2.2.1+s.2)))<(List.length s.1))/\
 ((((0:Int)<=(ae (x.2.2.2.1+s.2)))/\ ((ae (x.2.2.2.1+s.2))<(s.1.length:Int)))/\
 (((Int.toNat (ae (x.2.2.2.1+s.2)))<(List.length s.1))/\
 (((Int.toNat (ae (x.2.2.2.1+s.2)))<(List.length s.1))/\
 (ay (List.set s.1 (Int.toNat (ae (x.2.2.2.1+s.2))) (List.getD s.1 (Int.toNat (ae (x.2.2.2.1+(ae ((ae ((2:Int)*s.2))+(1:Int)))))) (0:Int))) fun aq=>
 ((((0:Int)<=(ae (x.2.2.2.1+(ae ((ae ((2:Int)*s.2))+(1:Int))))))/\ ((ae (x.2.2.2.1+(ae ((ae ((2:Int)*s.2))+(1:Int)))))<(aq.length:Int)))/\
 (((Int.toNat (ae (x.2.2.2.1+(ae ((ae ((2:Int)*s.2))+(1:Int))))))<(List.length aq))/\
 ((Int.toNat (ae (x.2.2.2.1+(ae ((ae ((2:Int)*s.2))+(1:Int))))))<(List.length aq)))))))))))))))))))))))))
def wI (x:((List Int)×(Int×(Int×(Int×((List I9)×Int)))))) (s:((List Int)×Int)):Tr (((List Int)×Int)⊕((List Int)⊕(List Int))) true:=
 (.Ja ((w1 (ae ((2:Int)*s.2)))>=x.2.2.1)
 (.ret (.inr (Sum.inl s.1)))
 (.i11 ((w1 (w1 (ae ((2:Int)*s.2))))<x.2.2.1)
 (.cf (ae (x.2.2.2.1+(w1 (ae ((2:Int)*s.2))))) s.1
 (.cf (w1 (ae (x.2.2.2.1+(w1 (ae ((2:Int)*s.2)))))) s.1
 (.fn dO (x.2.2.2.2,((gI s.1 (ae (x.2.2.2.1+(w1 (ae ((2:Int)*s.2)))))),(gI s.1 (w1 (ae (x.2.2.2.1+(w1 (ae ((2:Int)*s.2))))))))) fun y=>
 (.i11 (y<z0)
 (.cf (ae (x.2.2.2.1+s.2)) s.1
 (.cf (ae (x.2.2.2.1+(w1 (w1 (ae ((2:Int)*s.2)))))) s.1
 (.fn dO (x.2.2.2.2,((gI s.1 (ae (x.2.2.2.1+s.2))),(gI s.1 (ae (x.2.2.2.1+(w1 (w1 (ae ((2:Int)*s.2))))))))) fun aq=>
 (.zo (!(decide (aq<z0)))
 (.ret (.inr (Sum.inr (s.1))))
 (.cf (ae (x.2.2.2.1+(w1 (w1 (ae ((2:Int)*s.2)))))) s.1
 (.cf (ae (x.2.2.2.1+s.2)) s.1
 (.cf (ae (x.2.2.2.1+s.2)) s.1
 (.lt (List.set s.1 (tN (ae (x.2.2.2.1+s.2))) (gI s.1 (ae (x.2.2.2.1+(w1 (w1 (ae ((2:Int)*s.2)))))))) fun y_2=>
 (.cf (ae (x.2.2.2.1+(w1 (w1 (ae ((2:Int)*s.2)))))) y_2
 (.lt (List.set y_2 (tN (ae (x.2.2.2.1+(w1 (w1 (ae ((2:Int)*s.2))))))) (gI s.1 (ae (x.2.2.2.1+s.2)))) fun au=>
 (.ret (.inl (au,(w1 (w1 (ae ((2:Int)*s.2)))))))))))))))))
 (.cf (ae (x.2.2.2.1+s.2)) s.1
 (.cf (ae (x.2.2.2.1+(w1 (ae ((2:Int)*s.2))))) s.1
 (.fn dO (x.2.2.2.2,((gI s.1 (ae (x.2.2.2.1+s.2))),(gI s.1 (ae (x.2.2.2.1+(w1 (ae ((2:Int)*s.2)))))))) fun aq=>
 (.zo (!(decide (aq<z0)))
 (.ret (.inr (Sum.inr (s.1))))
 (.cf (ae (x.2.2.2.1+(w1 (ae ((2:Int)*s.2))))) s.1
 (.cf (ae (x.2.2.2.1+s.2)) s.1
 (.cf (ae (x.2.2.2.1+s.2)) s.1
 (.lt (List.set s.1 (tN (ae (x.2.2.2.1+s.2))) (gI s.1 (ae (x.2.2.2.1+(w1 (ae ((2:Int)*s.2))))))) fun y_2=>
 (.cf (ae (x.2.2.2.1+(w1 (ae ((2:Int)*s.2))))) y_2
 (.lt (List.set y_2 (tN (ae (x.2.2.2.1+(w1 (ae ((2:Int)*s.2)))))) (gI s.1 (ae (x.2.2.2.1+s.2)))) fun au=>
 (.ret (.inl (au,(w1 (ae ((2:Int)*s.2))))))))))))))))))))
 (.cf (ae (x.2.2.2.1+s.2)) s.1
 (.cf (ae (x.2.2.2.1+(w1 (ae ((2:Int)*s.2))))) s.1
 (.fn dO (x.2.2.2.2,((gI s.1 (ae (x.2.2.2.1+s.2))),(gI s.1 (ae (x.2.2.2.1+(w1 (ae ((2:Int)*s.2)))))))) fun y=>
 (.zo (!(decide (y<z0)))
 (.ret (.inr (Sum.inr (s.1))))
 (.cf (ae (x.2.2.2.1+(w1 (ae ((2:Int)*s.2))))) s.1
 (.cf (ae (x.2.2.2.1+s.2)) s.1
 (.cf (ae (x.2.2.2.1+s.2)) s.1
 (.lt (List.set s.1 (tN (ae (x.2.2.2.1+s.2))) (gI s.1 (ae (x.2.2.2.1+(w1 (ae ((2:Int)*s.2))))))) fun aq=>
 (.cf (ae (x.2.2.2.1+(w1 (ae ((2:Int)*s.2))))) aq
 (.lt (List.set aq (tN (ae (x.2.2.2.1+(w1 (ae ((2:Int)*s.2)))))) (gI s.1 (ae (x.2.2.2.1+s.2)))) fun y_2=>
 (.ret (.inl (y_2,(w1 (ae ((2:Int)*s.2))))))))))))))))))
def tQ (x:((List Int)×(Int×(Int×(Int×((List I9)×Int)))))):(Bool×((List Int)×(Bool×(Bool×(Bool×Bool))))):=
 (ai (run (bx x) (x.1,x.2.1)) fun r=>
 (Sum.elim (fun a=>
 (false,(a,(false,(false,(false,false)))))) (fun b=>
 (false,(b,(false,(false,(false,false)))))) r))
def pF (x:((List Int)×(Int×(Int×(Int×((List I9)×Int)))))):Prop:=
 (Term (bx x) (fB x) (x.1,x.2.1)/\
 ay (run (bx x) (x.1,x.2.1)) fun r=>
 (cS r (fun a=>
 ((List.length a)=(List.length x.1))) (fun b=>
 ((List.length b)=(List.length x.1)))))
def SE (x:((List Int)×(Int×(Int×(Int×((List I9)×Int)))))):Tr (Bool×((List Int)×(Bool×(Bool×(Bool×Bool))))) true:=
 (aS.lp (B0 x) (wI x) (x.1,x.2.1) fun r=>
 (.s11 r (fun a=>
 (.pn 0 2
 (.og ((decide ((List.length a)=(List.length x.1)))&&true) ((List.length a)=(List.length x.1)) (fun h=>(cj (decide_eq_true h) rfl))
 (.ret (false,(a,(false,(false,(false,false))))))))) (fun b=>
 (.pn 0 2
 (.og ((decide ((List.length b)=(List.length x.1)))&&true) ((List.length b)=(List.length x.1)) (fun h=>(cj (decide_eq_true h) rfl))
 (.ret (false,(b,(false,(false,(false,false)))))))))))
abbrev wH:Cz:=⟨(.pair (.row yi) (.pair (.val (.one yi)) (.pair (.val (.one yi)) (.pair (.val (.one yi)) (.val uc))))),.none,pF,tQ⟩
theorem Qf:av Try.prog 68 (bC wH):=av.Ln wH SE (fn:=Try.f68) aQ uO mixed (by kernel_rfl) (aD.nil _ _) (fun x=>(aB.tr aQ (ah.fe uO (aD.nil _ _)) mixed 0 (B0 x) (wI x) aB.nil (by kernel_rfl) fun g s Q=>(by kernel_rfl))) (fun x=>(by kernel_rfl)) fun x r0 Q=>(by kernel_rfl)
def HV:List (Nat×Ev.Spec):=(68,bC wH)::K9
theorem ot:ah Try.prog HV:=ah.add (fn:=Try.f68) (by kernel_rfl) Qf uO
def AW (x:((List Int)×(Int×(Int×((List I9)×Int))))):aS:=⟨[.env],⟨ej 60 0 [(0,.v (.one (.full 0))),(3,.v (.one (.mv 37 true [.full 1,.ext]))),(8,.v (.one (.i .i64))),(9,.v (.one (.i .i64))),(10,.v (.one (.i .i64))),(11,.v (.one (.i .i64)))],[.row yi 1,.row cH 0,.de 2],3,none,[7],[0,1,2,3,6],[5,4],[(.l yi),.i],[.v (.int .i64 x.2.2.2.2),.i x.2.1,.i (0:Int),.i (ae (x.2.2.1- x.2.1)),.l cH x.2.2.2.1]⟩,[⟨(.exit 0),.normal,⟨ej 60 0 [(0,.v (.one (.full 0))),(3,.v (.one (.mv 37 true [.full 1,.ext]))),(8,.v (.one (.i .i64))),(9,.v (.one (.i .i64))),(10,.v (.one (.i .i64)))],[.row yi 1,.row cH 0,.de 2],3,none,[6],[0,1,2,3,5],[4],[(.l yi)],[.v (.int .i64 x.2.2.2.2),.i x.2.1,.i (0:Int),.i (ae (x.2.2.1- x.2.1)),.l cH x.2.2.2.1]⟩⟩]⟩
def eD (x:((List Int)×(Int×(Int×((List I9)×Int))))) (s:((List Int)×Int)):((List Int)×Int)⊕(List Int):=
 (if (s.2>=(0:Int)) then
 (ai (tQ (s.1,(s.2,((ae (x.2.2.1- x.2.1)),(x.2.1,x.2.2.2))))) fun y=>
 (Sum.inl (y.2.1,(ae (s.2- (1:Int)))))) else
 (Sum.inr (s.1)))
def jH (x:((List Int)×(Int×(Int×((List I9)×Int))))) (s:((List Int)×Int)):Prop:=
 ((s.2>=(0:Int))->
 (pF (s.1,(s.2,((ae (x.2.2.1- x.2.1)),(x.2.1,x.2.2.2))))))
def vz (x:((List Int)×(Int×(Int×((List I9)×Int))))) (s:((List Int)×Int)):Tr (((List Int)×Int)⊕(List Int)) true:=
 (.i10 (s.2>=z0)
 (.cV wH (s.1,(s.2,((ae (x.2.2.1- x.2.1)),(x.2.1,x.2.2.2)))) fun y=>
 (.ret (.inl (y.2.1,(wm s.2)))))
 (.ret (.inr (s.1))))
def AX (x:((List Int)×(Int×(Int×((List I9)×Int))))):aS:=⟨[.env],⟨ej 60 0 [(0,.v (.one (.full 0))),(3,.v (.one (.mv 37 true [.full 1,.ext]))),(8,.v (.one (.i .i64))),(9,.v (.one (.i .i64))),(12,.v (.one (.i .i64)))],[.row yi 1,.row cH 0,.de 2],3,none,[6],[0,1,2,5],[4,3],[(.l yi),.i],[.v (.int .i64 x.2.2.2.2),.i x.2.1,.i (0:Int),.l cH x.2.2.2.1]⟩,[⟨(.exit 2),.normal,⟨ej 60 0 [],[.row yi 1,.row cH 0,.de 2],3,none,[2],[1],[0],[(.l yi)],[.l cH x.2.2.2.1]⟩⟩]⟩
def eE (x:((List Int)×(Int×(Int×((List I9)×Int))))) (s:((List Int)×Int)):((List Int)×Int)⊕(List Int):=
 (if (s.2>=(0:Int)) then
 (ai (List.set s.1 (Int.toNat x.2.1) (List.getD s.1 (Int.toNat (ae (x.2.1+s.2))) (0:Int))) fun y=>
 (ai (List.set y (Int.toNat (ae (x.2.1+s.2))) (List.getD s.1 (Int.toNat x.2.1) (0:Int))) fun aq=>
 (ai (tQ (aq,((0:Int),(s.2,(x.2.1,x.2.2.2))))) fun y_2=>
 (Sum.inl (y_2.2.1,(ae (s.2- (1:Int)))))))) else
 (Sum.inr (s.1)))
def jI (x:((List Int)×(Int×(Int×((List I9)×Int))))) (s:((List Int)×Int)):Prop:=
 ((s.2>=(0:Int))->
 ((((0:Int)<=(ae (x.2.1+s.2)))/\ ((ae (x.2.1+s.2))<(s.1.length:Int)))/\
 (((Int.toNat (ae (x.2.1+s.2)))<(List.length s.1))/\
 (((Int.toNat (ae (x.2.1+s.2)))<(List.length s.1))/\
 ((((0:Int)<=x.2.1)/\ (x.2.1<(s.1.length:Int)))/\
 (((Int.toNat x.2.1)<(List.length s.1))/\
 (((Int.toNat x.2.1)<(List.length s.1))/\
 ((((0:Int)<=x.2.1)/\ (x.2.1<(s.1.length:Int)))/\
 (((Int.toNat x.2.1)<(List.length s.1))/\
 (((Int.toNat x.2.1)<(List.length s.1))/\
 (ay (List.set s.1 (Int.toNat x.2.1) (List.getD s.1 (Int.toNat (ae (x.2.1+s.2))) (0:Int))) fun y=>
 ((((0:Int)<=(ae (x.2.1+s.2)))/\ ((ae (x.2.1+s.2))<(y.length:Int)))/\
 (((Int.toNat (ae (x.2.1+s.2)))<(List.length y))/\
 (((Int.toNat (ae (x.2.1+s.2)))<(List.length y))/\
 (ay (List.set y (Int.toNat (ae (x.2.1+s.2))) (List.getD s.1 (Int.toNat x.2.1) (0:Int))) fun aq=>
 (pF (aq,((0:Int),(s.2,(x.2.1,x.2.2.2))))))))))))))))))))
def vA (x:((List Int)×(Int×(Int×((List I9)×Int))))) (s:((List Int)×Int)):Tr (((List Int)×Int)⊕(List Int)) true:=
 (.i10 (s.2>=z0)
 (.cf (ae (x.2.1+s.2)) s.1
 (.cf x.2.1 s.1
 (.cf x.2.1 s.1
 (.lt (List.set s.1 (tN x.2.1) (gI s.1 (ae (x.2.1+s.2)))) fun y=>
 (.cf (ae (x.2.1+s.2)) y
 (.lt (List.set y (tN (ae (x.2.1+s.2))) (gI s.1 x.2.1)) fun aq=>
 (.cV wH (aq,(z0,(s.2,(x.2.1,x.2.2.2)))) fun y_2=>
 (.ret (.inl (y_2.2.1,(wm s.2)))))))))))
 (.ret (.inr (s.1))))
def AU (x:((List Int)×(Int×(Int×((List I9)×Int))))):(Bool×((List Int)×(Bool×(Bool×Bool)))):=
 (ai (run (eD x) (x.1,(ae (Int.tdiv (ae ((ae (x.2.2.1- x.2.1))- (1:Int))) (2:Int))))) fun r=>
 (ai (run (eE x) (r,(ae ((ae (x.2.2.1- x.2.1))- (1:Int))))) fun r_1=>
 (false,(r_1,(false,(false,false))))))
def pg (x:((List Int)×(Int×(Int×((List I9)×Int))))):Prop:=
 (Term (eD x) (jH x) (x.1,(ae (Int.tdiv (ae ((ae (x.2.2.1- x.2.1))- (1:Int))) (2:Int))))/\
 ay (run (eD x) (x.1,(ae (Int.tdiv (ae ((ae (x.2.2.1- x.2.1))- (1:Int))) (2:Int))))) fun r=>
 (Term (eE x) (jI x) (r,(ae ((ae (x.2.2.1- x.2.1))- (1:Int))))/\
 ay (run (eE x) (r,(ae ((ae (x.2.2.1- x.2.1))- (1:Int))))) fun r_1=>
 ((List.length r_1)=(List.length x.1))))
def Rs (x:((List Int)×(Int×(Int×((List I9)×Int))))):Tr (Bool×((List Int)×(Bool×(Bool×Bool)))) true:=
 (aS.lp (AW x) (vz x) (x.1,(ae (Int.tdiv (wm (ae (x.2.2.1- x.2.1))) (2:Int)))) fun r=>
 (aS.lp (AX x) (vA x) (r,(wm (ae (x.2.2.1- x.2.1)))) fun r_1=>
 (.pn 0 2
 (.og ((decide ((List.length r_1)=(List.length x.1)))&&true) ((List.length r_1)=(List.length x.1)) (fun h=>(cj (decide_eq_true h) rfl))
 (.ret (false,(r_1,(false,(false,false)))))))))
abbrev zR:Cz:=⟨(.pair (.row yi) (.pair (.val (.one yi)) (.pair (.val (.one yi)) (.val uc)))),.none,pg,AU⟩
theorem Ou:av Try.prog 57 (bC zR):=av.Ln zR Rs (fn:=Try.f57) aQ ot mixed (by kernel_rfl) (aD.nil _ _) (fun x=>(aB.tr aQ (ah.fe ot (aD.nil _ _)) mixed 0 (AW x) (vz x) (aB.tr aQ (ah.fe ot (aD.nil _ _)) mixed 2 (AX x) (vA x) aB.nil (by kernel_rfl) fun g s Q=>(by kernel_rfl)) (by kernel_rfl) fun g s Q=>(by kernel_rfl))) (fun x=>(by kernel_rfl)) fun x r0 Q=>(by kernel_rfl)
def HH:List (Nat×Ev.Spec):=(57,bC zR)::HV
theorem y7:ah Try.prog HH:=ah.add (fn:=Try.f57) (by kernel_rfl) Ou ot
def iK (x:((List Int)×(Int×(Int×(Int×((List I9)×Int)))))):(I2×(Bool×(Bool×(Bool×(Int×Bool))))):=
 (ai (j8 (x.2.2.2.2,((List.getD x.1 (Int.toNat x.2.2.1) (0:Int)),(List.getD x.1 (Int.toNat x.2.1) (0:Int))))) fun y=>
 (if (y<(0:Int)) then
 ((x.2.2.1,x.2.1),(false,(false,(false,((ae (x.2.2.2.1+(1:Int))),false))))) else
 ((x.2.1,x.2.2.1),(false,(false,(false,(x.2.2.2.1,false)))))))
def jw (x:((List Int)×(Int×(Int×(Int×((List I9)×Int)))))):Prop:=
 ((((0:Int)<=x.2.2.1)/\ (x.2.2.1<(x.1.length:Int)))/\
 (((Int.toNat x.2.2.1)<(List.length x.1))/\
 (((Int.toNat x.2.2.1)<(List.length x.1))/\
 ((((0:Int)<=x.2.1)/\ (x.2.1<(x.1.length:Int)))/\
 (((Int.toNat x.2.1)<(List.length x.1))/\
 (((Int.toNat x.2.1)<(List.length x.1))/\
 (bO (x.2.2.2.2,((List.getD x.1 (Int.toNat x.2.2.1) (0:Int)),(List.getD x.1 (Int.toNat x.2.1) (0:Int)))))))))))
def MN (x:((List Int)×(Int×(Int×(Int×((List I9)×Int)))))):Tr (I2×(Bool×(Bool×(Bool×(Int×Bool))))) true:=
 (.cf x.2.2.1 x.1
 (.cf x.2.1 x.1
 (.fn dO (x.2.2.2.2,((gI x.1 x.2.2.1),(gI x.1 x.2.1))) fun y=>
 (.Ii (y<z0)
 (.pn 0 3
 (.ret ((x.2.2.1,x.2.1),(false,(false,(false,((w1 x.2.2.2.1),false)))))))
 (.pn 0 3
 (.ret ((x.2.1,x.2.2.1),(false,(false,(false,(x.2.2.2.1,false)))))))))))
abbrev mL:Cz:=⟨(.pair (.val (.one (Ty.sl yi))) (.pair (.val (.one yi)) (.pair (.val (.one yi)) (.pair (.ptr yi 3) (.val uc))))),(.pair (.one yi) (.one yi)),jw,iK⟩
theorem Jz:av Try.prog 73 (bC mL):=av.Ln mL MN (fn:=Try.f73) aQ y7 mixed (by kernel_rfl) (aD.nil _ _) (fun x=>aB.nil) (fun x=>(by kernel_rfl)) fun x r0 Q=>(by kernel_rfl)
def Cc:List (Nat×Ev.Spec):=(73,bC mL)::HH
theorem tT:ah Try.prog Cc:=ah.add (fn:=Try.f73) (by kernel_rfl) Jz y7
def Pf (x:((List Int)×(Int×(Int×(Int×(Int×((List I9)×Int))))))):(Int×(Bool×(Bool×(Bool×(Bool×(Int×Bool)))))):=
 (ai (iK (x.1,(x.2.1,(x.2.2.1,x.2.2.2.2)))) fun y=>
 (ai (iK (x.1,(y.1.2,(x.2.2.2.1,(y.2.2.2.2.1,x.2.2.2.2.2))))) fun aq=>
 (ai (iK (x.1,(y.1.1,(aq.1.1,(aq.2.2.2.2.1,x.2.2.2.2.2))))) fun y_2=>
 (y_2.1.2,(false,(false,(false,(false,(y_2.2.2.2.2.1,false)))))))))
def rQ (x:((List Int)×(Int×(Int×(Int×(Int×((List I9)×Int))))))):Prop:=
 ((jw (x.1,(x.2.1,(x.2.2.1,x.2.2.2.2))))/\
 ay (iK (x.1,(x.2.1,(x.2.2.1,x.2.2.2.2)))) fun y=>
 ((jw (x.1,(y.1.2,(x.2.2.2.1,(y.2.2.2.2.1,x.2.2.2.2.2)))))/\
 ay (iK (x.1,(y.1.2,(x.2.2.2.1,(y.2.2.2.2.1,x.2.2.2.2.2))))) fun aq=>
 (jw (x.1,(y.1.1,(aq.1.1,(aq.2.2.2.2.1,x.2.2.2.2.2)))))))
def Uz (x:((List Int)×(Int×(Int×(Int×(Int×((List I9)×Int))))))):Tr (Int×(Bool×(Bool×(Bool×(Bool×(Int×Bool)))))) true:=
 (.cV mL (x.1,(x.2.1,(x.2.2.1,x.2.2.2.2))) fun y=>
 (.cV mL (x.1,(y.1.2,(x.2.2.2.1,(y.2.2.2.2.1,x.2.2.2.2.2)))) fun aq=>
 (.cV mL (x.1,(y.1.1,(aq.1.1,(aq.2.2.2.2.1,x.2.2.2.2.2)))) fun y_2=>
 (.pn 0 3
 (.ret (y_2.1.2,(false,(false,(false,(false,(y_2.2.2.2.2.1,false)))))))))))
abbrev xP:Cz:=⟨(.pair (.val (.one (Ty.sl yi))) (.pair (.val (.one yi)) (.pair (.val (.one yi)) (.pair (.val (.one yi)) (.pair (.ptr yi 3) (.val uc)))))),(.one yi),rQ,Pf⟩
theorem RQ:av Try.prog 72 (bC xP):=av.Ln xP Uz (fn:=Try.f72) aQ tT mixed (by kernel_rfl) (aD.nil _ _) (fun x=>aB.nil) (fun x=>(by kernel_rfl)) fun x r0 Q=>(by kernel_rfl)
def Lb:List (Nat×Ev.Spec):=(72,bC xP)::Cc
theorem Cb:ah Try.prog Lb:=ah.add (fn:=Try.f72) (by kernel_rfl) RQ tT
def mX (x:((List Int)×(Int×(Int×((List I9)×Int))))):(Int×(Bool×(Bool×(Int×Bool)))):=
 (ai (Pf (x.1,((ae (x.2.1- (1:Int))),(x.2.1,((ae (x.2.1+(1:Int))),x.2.2))))) fun y=>
 (y.1,(false,(false,(y.2.2.2.2.2.1,false)))))
def mK (x:((List Int)×(Int×(Int×((List I9)×Int))))):Prop:=
 (rQ (x.1,((ae (x.2.1- (1:Int))),(x.2.1,((ae (x.2.1+(1:Int))),x.2.2)))))
def RP (x:((List Int)×(Int×(Int×((List I9)×Int))))):Tr (Int×(Bool×(Bool×(Int×Bool)))) true:=
 (.cV xP (x.1,((wm x.2.1),(x.2.1,((w1 x.2.1),x.2.2)))) fun y=>
 (.pn 0 3
 (.ret (y.1,(false,(false,(y.2.2.2.2.2.1,false)))))))
abbrev sP:Cz:=⟨(.pair (.val (.one (Ty.sl yi))) (.pair (.val (.one yi)) (.pair (.ptr yi 3) (.val uc)))),(.one yi),mK,mX⟩
theorem Pe:av Try.prog 71 (bC sP):=av.Ln sP RP (fn:=Try.f71) aQ Cb mixed (by kernel_rfl) (aD.nil _ _) (fun x=>aB.nil) (fun x=>(by kernel_rfl)) fun x r0 Q=>(by kernel_rfl)
def HM:List (Nat×Ev.Spec):=(71,bC sP)::Lb
theorem zb:ah Try.prog HM:=ah.add (fn:=Try.f71) (by kernel_rfl) Pe Cb
def zF (x:((List Int)×(Int×(Int×((List I9)×Int))))):I2:=
 (if ((ae (x.2.2.1- x.2.1))>=(8:Int)) then
 (if ((ae (x.2.2.1- x.2.1))>=(50:Int)) then
 (ai (mX (x.1,((ae (x.2.1+(ae ((ae (Int.tdiv (ae (x.2.2.1- x.2.1)) (4:Int)))*(1:Int))))),((0:Int),x.2.2.2)))) fun y=>
 (ai (mX (x.1,((ae (x.2.1+(ae ((ae (Int.tdiv (ae (x.2.2.1- x.2.1)) (4:Int)))*(2:Int))))),(y.2.2.2.1,x.2.2.2)))) fun aq=>
 (ai (mX (x.1,((ae (x.2.1+(ae ((ae (Int.tdiv (ae (x.2.2.1- x.2.1)) (4:Int)))*(3:Int))))),(aq.2.2.2.1,x.2.2.2)))) fun y_2=>
 (ai (Pf (x.1,(y.1,(aq.1,(y_2.1,(y_2.2.2.2.1,x.2.2.2)))))) fun au=>
 (if ((au.2.2.2.2.2.1==(0:Int))=true) then
 (au.1,(1:Int)) else
 (if ((au.2.2.2.2.2.1==(12:Int))=true) then
 (au.1,(2:Int)) else
 (au.1,(0:Int)))))))) else
 (ai (Pf (x.1,((ae (x.2.1+(ae ((ae (Int.tdiv (ae (x.2.2.1- x.2.1)) (4:Int)))*(1:Int))))),((ae (x.2.1+(ae ((ae (Int.tdiv (ae (x.2.2.1- x.2.1)) (4:Int)))*(2:Int))))),((ae (x.2.1+(ae ((ae (Int.tdiv (ae (x.2.2.1- x.2.1)) (4:Int)))*(3:Int))))),((0:Int),x.2.2.2)))))) fun y=>
 (if ((y.2.2.2.2.2.1==(0:Int))=true) then
 (y.1,(1:Int)) else
 (if ((y.2.2.2.2.2.1==(12:Int))=true) then
 (y.1,(2:Int)) else
 (y.1,(0:Int)))))) else
 ((ae (x.2.1+(ae ((ae (Int.tdiv (ae (x.2.2.1- x.2.1)) (4:Int)))*(2:Int))))),(1:Int)))
def lP (x:((List Int)×(Int×(Int×((List I9)×Int))))):Prop:=
 (((ae (x.2.2.1- x.2.1))>=(8:Int))->
 ((((ae (x.2.2.1- x.2.1))>=(50:Int))->
 ((mK (x.1,((ae (x.2.1+(ae ((ae (Int.tdiv (ae (x.2.2.1- x.2.1)) (4:Int)))*(1:Int))))),((0:Int),x.2.2.2))))/\
 ay (mX (x.1,((ae (x.2.1+(ae ((ae (Int.tdiv (ae (x.2.2.1- x.2.1)) (4:Int)))*(1:Int))))),((0:Int),x.2.2.2)))) fun y=>
 ((mK (x.1,((ae (x.2.1+(ae ((ae (Int.tdiv (ae (x.2.2.1- x.2.1)) (4:Int)))*(2:Int))))),(y.2.2.2.1,x.2.2.2))))/\
 ay (mX (x.1,((ae (x.2.1+(ae ((ae (Int.tdiv (ae (x.2.2.1- x.2.1)) (4:Int)))*(2:Int))))),(y.2.2.2.1,x.2.2.2)))) fun aq=>
 ((mK (x.1,((ae (x.2.1+(ae ((ae (Int.tdiv (ae (x.2.2.1- x.2.1)) (4:Int)))*(3:Int))))),(aq.2.2.2.1,x.2.2.2))))/\
 ay (mX (x.1,((ae (x.2.1+(ae ((ae (Int.tdiv (ae (x.2.2.1- x.2.1)) (4:Int)))*(3:Int))))),(aq.2.2.2.1,x.2.2.2)))) fun y_2=>
 (rQ (x.1,(y.1,(aq.1,(y_2.1,(y_2.2.2.2.1,x.2.2.2))))))))))/\
 (¬((ae (x.2.2.1- x.2.1))>=(50:Int))->
 (rQ (x.1,((ae (x.2.1+(ae ((ae (Int.tdiv (ae (x.2.2.1- x.2.1)) (4:Int)))*(1:Int))))),((ae (x.2.1+(ae ((ae (Int.tdiv (ae (x.2.2.1- x.2.1)) (4:Int)))*(2:Int))))),((ae (x.2.1+(ae ((ae (Int.tdiv (ae (x.2.2.1- x.2.1)) (4:Int)))*(3:Int))))),((0:Int),x.2.2.2)))))))))
def UW (x:((List Int)×(Int×(Int×((List I9)×Int))))):Tr I2 true:=
 (.i10 ((ae (x.2.2.1- x.2.1))>=(8:Int))
 (.i11 ((ae (x.2.2.1- x.2.1))>=(50:Int))
 (.cV sP (x.1,((ae (x.2.1+(ae ((ae (Int.tdiv (ae (x.2.2.1- x.2.1)) (4:Int)))*z1)))),(z0,x.2.2.2))) fun y=>
 (.cV sP (x.1,((ae (x.2.1+(ae ((ae (Int.tdiv (ae (x.2.2.1- x.2.1)) (4:Int)))*(2:Int))))),(y.2.2.2.1,x.2.2.2))) fun aq=>
 (.cV sP (x.1,((ae (x.2.1+(ae ((ae (Int.tdiv (ae (x.2.2.1- x.2.1)) (4:Int)))*(3:Int))))),(aq.2.2.2.1,x.2.2.2))) fun y_2=>
 (.cV xP (x.1,(y.1,(aq.1,(y_2.1,(y_2.2.2.2.1,x.2.2.2))))) fun au=>
 (.CA (au.2.2.2.2.2.1==z0)
 (.ret (au.1,z1))
 (.CA (au.2.2.2.2.2.1==(12:Int))
 (.ret (au.1,(2:Int)))
 (.ret (au.1,z0))))))))
 (.cV xP (x.1,((ae (x.2.1+(ae ((ae (Int.tdiv (ae (x.2.2.1- x.2.1)) (4:Int)))*z1)))),((ae (x.2.1+(ae ((ae (Int.tdiv (ae (x.2.2.1- x.2.1)) (4:Int)))*(2:Int))))),((ae (x.2.1+(ae ((ae (Int.tdiv (ae (x.2.2.1- x.2.1)) (4:Int)))*(3:Int))))),(z0,x.2.2.2))))) fun y=>
 (.CA (y.2.2.2.2.2.1==z0)
 (.ret (y.1,z1))
 (.CA (y.2.2.2.2.2.1==(12:Int))
 (.ret (y.1,(2:Int)))
 (.ret (y.1,z0))))))
 (.ret ((ae (x.2.1+(ae ((ae (Int.tdiv (ae (x.2.2.1- x.2.1)) (4:Int)))*(2:Int))))),z1)))
abbrev BL:jh:=⟨(.pair (.one (Ty.sl yi)) (.pair (.one yi) (.pair (.one yi) uc))),(.pair (.one yi) (.one yi)),lP,zF⟩
theorem Sg:av Try.prog 59 (aH BL):=av.tr BL UW (fn:=Try.f59) aQ zb mixed (by kernel_rfl) (aD.nil _ _) (fun x=>aB.nil) (fun x=>(by kernel_rfl)) fun x Q=>(by kernel_rfl)
def Lh:List (Nat×Ev.Spec):=(59,aH BL)::HM
theorem Cg:ah Try.prog Lh:=ah.add (fn:=Try.f59) (by kernel_rfl) Sg zb
abbrev tn:ByteArray:=(ByteArray.mk (List.toArray (([(OfNat.ofNat 0),(OfNat.ofNat 1),(OfNat.ofNat 2),(OfNat.ofNat 2),(OfNat.ofNat 3),(OfNat.ofNat 3),(OfNat.ofNat 3),(OfNat.ofNat 3),(OfNat.ofNat 4),(OfNat.ofNat 4),(OfNat.ofNat 4),(OfNat.ofNat 4),(OfNat.ofNat 4),(OfNat.ofNat 4),(OfNat.ofNat 4),(OfNat.ofNat 4),(OfNat.ofNat 5),(OfNat.ofNat 5),(OfNat.ofNat 5),(OfNat.ofNat 5),(OfNat.ofNat 5),(OfNat.ofNat 5),(OfNat.ofNat 5),(OfNat.ofNat 5),(OfNat.ofNat 5),(OfNat.ofNat 5),(OfNat.ofNat 5),(OfNat.ofNat 5),(OfNat.ofNat 5),(OfNat.ofNat 5),(OfNat.ofNat 5),(OfNat.ofNat 5),(OfNat.ofNat 6),(OfNat.ofNat 6),(OfNat.ofNat 6),(OfNat.ofNat 6),(OfNat.ofNat 6),(OfNat.ofNat 6),(OfNat.ofNat 6),(OfNat.ofNat 6),(OfNat.ofNat 6),(OfNat.ofNat 6),(OfNat.ofNat 6),(OfNat.ofNat 6),(OfNat.ofNat 6),(OfNat.ofNat 6),(OfNat.ofNat 6),(OfNat.ofNat 6),(OfNat.ofNat 6),(OfNat.ofNat 6),(OfNat.ofNat 6),(OfNat.ofNat 6),(OfNat.ofNat 6),(OfNat.ofNat 6),(OfNat.ofNat 6),(OfNat.ofNat 6),(OfNat.ofNat 6),(OfNat.ofNat 6),(OfNat.ofNat 6),(OfNat.ofNat 6),(OfNat.ofNat 6),(OfNat.ofNat 6),(OfNat.ofNat 6),(OfNat.ofNat 6)]++ [(OfNat.ofNat 7),(OfNat.ofNat 7),(OfNat.ofNat 7),(OfNat.ofNat 7),(OfNat.ofNat 7),(OfNat.ofNat 7),(OfNat.ofNat 7),(OfNat.ofNat 7),(OfNat.ofNat 7),(OfNat.ofNat 7),(OfNat.ofNat 7),(OfNat.ofNat 7),(OfNat.ofNat 7),(OfNat.ofNat 7),(OfNat.ofNat 7),(OfNat.ofNat 7),(OfNat.ofNat 7),(OfNat.ofNat 7),(OfNat.ofNat 7),(OfNat.ofNat 7),(OfNat.ofNat 7),(OfNat.ofNat 7),(OfNat.ofNat 7),(OfNat.ofNat 7),(OfNat.ofNat 7),(OfNat.ofNat 7),(OfNat.ofNat 7),(OfNat.ofNat 7),(OfNat.ofNat 7),(OfNat.ofNat 7),(OfNat.ofNat 7),(OfNat.ofNat 7),(OfNat.ofNat 7),(OfNat.ofNat 7),(OfNat.ofNat 7),(OfNat.ofNat 7),(OfNat.ofNat 7),(OfNat.ofNat 7),(OfNat.ofNat 7),(OfNat.ofNat 7),(OfNat.ofNat 7),(OfNat.ofNat 7),(OfNat.ofNat 7),(OfNat.ofNat 7),(OfNat.ofNat 7),(OfNat.ofNat 7),(OfNat.ofNat 7),(OfNat.ofNat 7),(OfNat.ofNat 7),(OfNat.ofNat 7),(OfNat.ofNat 7),(OfNat.ofNat 7),(OfNat.ofNat 7),(OfNat.ofNat 7),(OfNat.ofNat 7),(OfNat.ofNat 7),(OfNat.ofNat 7),(OfNat.ofNat 7),(OfNat.ofNat 7),(OfNat.ofNat 7),(OfNat.ofNat 7),(OfNat.ofNat 7),(OfNat.ofNat 7),(OfNat.ofNat 7)])++([(OfNat.ofNat 8),(OfNat.ofNat 8),(OfNat.ofNat 8),(OfNat.ofNat 8),(OfNat.ofNat 8),(OfNat.ofNat 8),(OfNat.ofNat 8),(OfNat.ofNat 8),(OfNat.ofNat 8),(OfNat.ofNat 8),(OfNat.ofNat 8),(OfNat.ofNat 8),(OfNat.ofNat 8),(OfNat.ofNat 8),(OfNat.ofNat 8),(OfNat.ofNat 8),(OfNat.ofNat 8),(OfNat.ofNat 8),(OfNat.ofNat 8),(OfNat.ofNat 8),(OfNat.ofNat 8),(OfNat.ofNat 8),(OfNat.ofNat 8),(OfNat.ofNat 8),(OfNat.ofNat 8),(OfNat.ofNat 8),(OfNat.ofNat 8),(OfNat.ofNat 8),(OfNat.ofNat 8),(OfNat.ofNat 8),(OfNat.ofNat 8),(OfNat.ofNat 8),(OfNat.ofNat 8),(OfNat.ofNat 8),(OfNat.ofNat 8),(OfNat.ofNat 8),(OfNat.ofNat 8),(OfNat.ofNat 8),(OfNat.ofNat 8),(OfNat.ofNat 8),(OfNat.ofNat 8),(OfNat.ofNat 8),(OfNat.ofNat 8),(OfNat.ofNat 8),(OfNat.ofNat 8),(OfNat.ofNat 8),(OfNat.ofNat 8),(OfNat.ofNat 8),(OfNat.ofNat 8),(OfNat.ofNat 8),(OfNat.ofNat 8),(OfNat.ofNat 8),(OfNat.ofNat 8),(OfNat.ofNat 8),(OfNat.ofNat 8),(OfNat.ofNat 8),(OfNat.ofNat 8),(OfNat.ofNat 8),(OfNat.ofNat 8),(OfNat.ofNat 8),(OfNat.ofNat 8),(OfNat.ofNat 8),(OfNat.ofNat 8),(OfNat.ofNat 8)]++ [(OfNat.ofNat 8),(OfNat.ofNat 8),(OfNat.ofNat 8),(OfNat.ofNat 8),(OfNat.ofNat 8),(OfNat.ofNat 8),(OfNat.ofNat 8),(OfNat.ofNat 8),(OfNat.ofNat 8),(OfNat.ofNat 8),(OfNat.ofNat 8),(OfNat.ofNat 8),(OfNat.ofNat 8),(OfNat.ofNat 8),(OfNat.ofNat 8),(OfNat.ofNat 8),(OfNat.ofNat 8),(OfNat.ofNat 8),(OfNat.ofNat 8),(OfNat.ofNat 8),(OfNat.ofNat 8),(OfNat.ofNat 8),(OfNat.ofNat 8),(OfNat.ofNat 8),(OfNat.ofNat 8),(OfNat.ofNat 8),(OfNat.ofNat 8),(OfNat.ofNat 8),(OfNat.ofNat 8),(OfNat.ofNat 8),(OfNat.ofNat 8),(OfNat.ofNat 8),(OfNat.ofNat 8),(OfNat.ofNat 8),(OfNat.ofNat 8),(OfNat.ofNat 8),(OfNat.ofNat 8),(OfNat.ofNat 8),(OfNat.ofNat 8),(OfNat.ofNat 8),(OfNat.ofNat 8),(OfNat.ofNat 8),(OfNat.ofNat 8),(OfNat.ofNat 8),(OfNat.ofNat 8),(OfNat.ofNat 8),(OfNat.ofNat 8),(OfNat.ofNat 8),(OfNat.ofNat 8),(OfNat.ofNat 8),(OfNat.ofNat 8),(OfNat.ofNat 8),(OfNat.ofNat 8),(OfNat.ofNat 8),(OfNat.ofNat 8),(OfNat.ofNat 8),(OfNat.ofNat 8),(OfNat.ofNat 8),(OfNat.ofNat 8),(OfNat.ofNat 8),(OfNat.ofNat 8),(OfNat.ofNat 8),(OfNat.ofNat 8),(OfNat.ofNat 8)]))))
def Bg (x:Int):Int:=
 (if (x>=(4294967296:Int)) then
 (if ((Int.fdiv x (4294967296:Int))>=(65536:Int)) then
 (if ((Int.fdiv (Int.fdiv x (4294967296:Int)) (65536:Int))>=(256:Int)) then
 (ae ((56:Int)+(ae (((UInt8.toNat (ByteArray.get! tn (Int.toNat (IntKind.wrap IntKind.u8 (Int.fdiv (Int.fdiv (Int.fdiv x (4294967296:Int)) (65536:Int)) (256:Int)))))):Nat):Int)))) else
 (ae ((48:Int)+(ae (((UInt8.toNat (ByteArray.get! tn (Int.toNat (IntKind.wrap IntKind.u8 (Int.fdiv (Int.fdiv x (4294967296:Int)) (65536:Int)))))):Nat):Int))))) else
 (if ((Int.fdiv x (4294967296:Int))>=(256:Int)) then
 (ae ((40:Int)+(ae (((UInt8.toNat (ByteArray.get! tn (Int.toNat (IntKind.wrap IntKind.u8 (Int.fdiv (Int.fdiv x (4294967296:Int)) (256:Int)))))):Nat):Int)))) else
 (ae ((32:Int)+(ae (((UInt8.toNat (ByteArray.get! tn (Int.toNat (IntKind.wrap IntKind.u8 (Int.fdiv x (4294967296:Int)))))):Nat):Int)))))) else
 (if (x>=(65536:Int)) then
 (if ((Int.fdiv x (65536:Int))>=(256:Int)) then
 (ae ((24:Int)+(ae (((UInt8.toNat (ByteArray.get! tn (Int.toNat (IntKind.wrap IntKind.u8 (Int.fdiv (Int.fdiv x (65536:Int)) (256:Int)))))):Nat):Int)))) else
 (ae ((16:Int)+(ae (((UInt8.toNat (ByteArray.get! tn (Int.toNat (IntKind.wrap IntKind.u8 (Int.fdiv x (65536:Int)))))):Nat):Int))))) else
 (if (x>=(256:Int)) then
 (ae ((8:Int)+(ae (((UInt8.toNat (ByteArray.get! tn (Int.toNat (IntKind.wrap IntKind.u8 (Int.fdiv x (256:Int)))))):Nat):Int)))) else
 (ae ((0:Int)+(ae (((UInt8.toNat (ByteArray.get! tn (Int.toNat (IntKind.wrap IntKind.u8 x)))):Nat):Int)))))))
def kE (x:Int):Prop:=
 (((x>=(4294967296:Int))->
 ((((Int.fdiv x (4294967296:Int))>=(65536:Int))->
 ((((Int.fdiv (Int.fdiv x (4294967296:Int)) (65536:Int))>=(256:Int))->
 (((0:Int)<=(IntKind.wrap IntKind.u8 (Int.fdiv (Int.fdiv (Int.fdiv x (4294967296:Int)) (65536:Int)) (256:Int))))/\ ((IntKind.wrap IntKind.u8 (Int.fdiv (Int.fdiv (Int.fdiv x (4294967296:Int)) (65536:Int)) (256:Int)))<(256:Int))))/\
 (¬((Int.fdiv (Int.fdiv x (4294967296:Int)) (65536:Int))>=(256:Int))->
 (((0:Int)<=(IntKind.wrap IntKind.u8 (Int.fdiv (Int.fdiv x (4294967296:Int)) (65536:Int))))/\ ((IntKind.wrap IntKind.u8 (Int.fdiv (Int.fdiv x (4294967296:Int)) (65536:Int)))<(256:Int))))))/\
 (¬((Int.fdiv x (4294967296:Int))>=(65536:Int))->
 ((((Int.fdiv x (4294967296:Int))>=(256:Int))->
 (((0:Int)<=(IntKind.wrap IntKind.u8 (Int.fdiv (Int.fdiv x (4294967296:Int)) (256:Int))))/\ ((IntKind.wrap IntKind.u8 (Int.fdiv (Int.fdiv x (4294967296:Int)) (256:Int)))<(256:Int))))/\
 (¬((Int.fdiv x (4294967296:Int))>=(256:Int))->
 (((0:Int)<=(IntKind.wrap IntKind.u8 (Int.fdiv x (4294967296:Int))))/\ ((IntKind.wrap IntKind.u8 (Int.fdiv x (4294967296:Int)))<(256:Int))))))))/\
 (¬(x>=(4294967296:Int))->
 (((x>=(65536:Int))->
 ((((Int.fdiv x (65536:Int))>=(256:Int))->
 (((0:Int)<=(IntKind.wrap IntKind.u8 (Int.fdiv (Int.fdiv x (65536:Int)) (256:Int))))/\ ((IntKind.wrap IntKind.u8 (Int.fdiv (Int.fdiv x (65536:Int)) (256:Int)))<(256:Int))))/\
 (¬((Int.fdiv x (65536:Int))>=(256:Int))->
 (((0:Int)<=(IntKind.wrap IntKind.u8 (Int.fdiv x (65536:Int))))/\ ((IntKind.wrap IntKind.u8 (Int.fdiv x (65536:Int)))<(256:Int))))))/\
 (¬(x>=(65536:Int))->
 (((x>=(256:Int))->
 (((0:Int)<=(IntKind.wrap IntKind.u8 (Int.fdiv x (256:Int))))/\ ((IntKind.wrap IntKind.u8 (Int.fdiv x (256:Int)))<(256:Int))))/\
 (¬(x>=(256:Int))->
 (((0:Int)<=(IntKind.wrap IntKind.u8 x))/\ ((IntKind.wrap IntKind.u8 x)<(256:Int)))))))))
def O9 (x:Int):Tr Int true:=
 (.i11 (x>=(4294967296:Int))
 (.i11 ((Int.fdiv x (4294967296:Int))>=(65536:Int))
 (.i11 ((Int.fdiv (Int.fdiv x (4294967296:Int)) (65536:Int))>=(256:Int))
 (.oR (IntKind.wrap IntKind.u8 (Int.fdiv (Int.fdiv (Int.fdiv x (4294967296:Int)) (65536:Int)) (256:Int))) (256:Int)
 (.ret (ae ((56:Int)+(ae (((UInt8.toNat (ByteArray.get! tn (tN (IntKind.wrap IntKind.u8 (Int.fdiv (Int.fdiv (Int.fdiv x (4294967296:Int)) (65536:Int)) (256:Int)))))):Nat):Int))))))
 (.oR (IntKind.wrap IntKind.u8 (Int.fdiv (Int.fdiv x (4294967296:Int)) (65536:Int))) (256:Int)
 (.ret (ae ((48:Int)+(ae (((UInt8.toNat (ByteArray.get! tn (tN (IntKind.wrap IntKind.u8 (Int.fdiv (Int.fdiv x (4294967296:Int)) (65536:Int)))))):Nat):Int)))))))
 (.i11 ((Int.fdiv x (4294967296:Int))>=(256:Int))
 (.oR (IntKind.wrap IntKind.u8 (Int.fdiv (Int.fdiv x (4294967296:Int)) (256:Int))) (256:Int)
 (.ret (ae ((40:Int)+(ae (((UInt8.toNat (ByteArray.get! tn (tN (IntKind.wrap IntKind.u8 (Int.fdiv (Int.fdiv x (4294967296:Int)) (256:Int)))))):Nat):Int))))))
 (.oR (IntKind.wrap IntKind.u8 (Int.fdiv x (4294967296:Int))) (256:Int)
 (.ret (ae ((32:Int)+(ae (((UInt8.toNat (ByteArray.get! tn (tN (IntKind.wrap IntKind.u8 (Int.fdiv x (4294967296:Int)))))):Nat):Int))))))))
 (.i11 (x>=(65536:Int))
 (.i11 ((Int.fdiv x (65536:Int))>=(256:Int))
 (.oR (IntKind.wrap IntKind.u8 (Int.fdiv (Int.fdiv x (65536:Int)) (256:Int))) (256:Int)
 (.ret (ae ((24:Int)+(ae (((UInt8.toNat (ByteArray.get! tn (tN (IntKind.wrap IntKind.u8 (Int.fdiv (Int.fdiv x (65536:Int)) (256:Int)))))):Nat):Int))))))
 (.oR (IntKind.wrap IntKind.u8 (Int.fdiv x (65536:Int))) (256:Int)
 (.ret (ae ((16:Int)+(ae (((UInt8.toNat (ByteArray.get! tn (tN (IntKind.wrap IntKind.u8 (Int.fdiv x (65536:Int)))))):Nat):Int)))))))
 (.i11 (x>=(256:Int))
 (.oR (IntKind.wrap IntKind.u8 (Int.fdiv x (256:Int))) (256:Int)
 (.ret (ae ((8:Int)+(ae (((UInt8.toNat (ByteArray.get! tn (tN (IntKind.wrap IntKind.u8 (Int.fdiv x (256:Int)))))):Nat):Int))))))
 (.oR (IntKind.wrap IntKind.u8 x) (256:Int)
 (.ret (ae (z0+(ae (((UInt8.toNat (ByteArray.get! tn (tN (IntKind.wrap IntKind.u8 x)))):Nat):Int)))))))))
abbrev vM:jh:=⟨(.one (Ty.int IntKind.u64)),(.one yi),kE,Bg⟩
theorem Mv:av Try.prog 65 (aH vM):=av.tr vM O9 (fn:=Try.f65) aQ Cg mixed (by kernel_rfl) (aD.nil _ _) (fun x=>aB.nil) (fun x=>(by kernel_rfl)) fun x Q=>(by kernel_rfl)
def Ef:List (Nat×Ev.Spec):=(65,aH vM)::Lh
theorem wW:ah Try.prog Ef:=ah.add (fn:=Try.f65) (by kernel_rfl) Mv Cg
def GK (x:Int):Int:=
 (ai (Bg x) fun y=>
 y)
def vN (x:Int):Prop:=
 (kE x)
def Uv (x:Int):Tr Int true:=
 (.fn vM x fun y=>
 (.ret y))
abbrev Bh:jh:=⟨(.one (Ty.int IntKind.u64)),(.one yi),vN,GK⟩
theorem RK:av Try.prog 52 (aH Bh):=av.tr Bh Uv (fn:=Try.f52) aQ wW mixed (by kernel_rfl) (aD.nil _ _) (fun x=>aB.nil) (fun x=>(by kernel_rfl)) fun x Q=>(by kernel_rfl)
def La:List (Nat×Ev.Spec):=(52,aH Bh)::Ef
theorem B9:ah Try.prog La:=ah.add (fn:=Try.f52) (by kernel_rfl) RK wW
def G0 (x:Int):Int:=
 (ai (GK (IntKind.wrap IntKind.u64 x)) fun y=>
 (IntKind.wrap IntKind.u64 ((1:Int)*((2:Int)^(Min.min (Int.toNat y) 64)))))
def sU (x:Int):Prop:=
 ((vN (IntKind.wrap IntKind.u64 x))/\
 ay (GK (IntKind.wrap IntKind.u64 x)) fun y=>
 ((0:Int)<=y))
def RU (x:Int):Tr Int true:=
 (.fn Bh (IntKind.wrap IntKind.u64 x) fun y=>
 (.od (z0<=y)
 (.ret (IntKind.wrap IntKind.u64 (z1*((2:Int)^(Min.min (tN y) 64)))))))
abbrev zX:jh:=⟨(.one yi),(.one (Ty.int IntKind.u64)),sU,G0⟩
theorem Pp:av Try.prog 69 (aH zX):=av.tr zX RU (fn:=Try.f69) aQ B9 mixed (by kernel_rfl) (aD.nil _ _) (fun x=>aB.nil) (fun x=>(by kernel_rfl)) fun x Q=>(by kernel_rfl)
def HO:List (Nat×Ev.Spec):=(69,aH zX)::La
theorem zc:ah Try.prog HO:=ah.add (fn:=Try.f69) (by kernel_rfl) Pp B9
def DB (x:Int):I2:=
 ((IntKind.wrap IntKind.u64 (((BitVec.toNat ((BitVec.ofInt 64 (IntKind.wrap IntKind.u64 (((BitVec.toNat ((BitVec.ofInt 64 (IntKind.wrap IntKind.u64 (((BitVec.toNat ((BitVec.ofInt 64 x)^^^(BitVec.ofInt 64 (IntKind.wrap IntKind.u64 (x*(8192:Int)))))):Nat):Int)))^^^(BitVec.ofInt 64 (Int.fdiv (IntKind.wrap IntKind.u64 (((BitVec.toNat ((BitVec.ofInt 64 x)^^^(BitVec.ofInt 64 (IntKind.wrap IntKind.u64 (x*(8192:Int)))))):Nat):Int)) (128:Int))))):Nat):Int)))^^^(BitVec.ofInt 64 (IntKind.wrap IntKind.u64 ((IntKind.wrap IntKind.u64 (((BitVec.toNat ((BitVec.ofInt 64 (IntKind.wrap IntKind.u64 (((BitVec.toNat ((BitVec.ofInt 64 x)^^^(BitVec.ofInt 64 (IntKind.wrap IntKind.u64 (x*(8192:Int)))))):Nat):Int)))^^^(BitVec.ofInt 64 (Int.fdiv (IntKind.wrap IntKind.u64 (((BitVec.toNat ((BitVec.ofInt 64 x)^^^(BitVec.ofInt 64 (IntKind.wrap IntKind.u64 (x*(8192:Int)))))):Nat):Int)) (128:Int))))):Nat):Int))*(131072:Int)))))):Nat):Int)),(IntKind.wrap IntKind.u64 (((BitVec.toNat ((BitVec.ofInt 64 (IntKind.wrap IntKind.u64 (((BitVec.toNat ((BitVec.ofInt 64 (IntKind.wrap IntKind.u64 (((BitVec.toNat ((BitVec.ofInt 64 x)^^^(BitVec.ofInt 64 (IntKind.wrap IntKind.u64 (x*(8192:Int)))))):Nat):Int)))^^^(BitVec.ofInt 64 (Int.fdiv (IntKind.wrap IntKind.u64 (((BitVec.toNat ((BitVec.ofInt 64 x)^^^(BitVec.ofInt 64 (IntKind.wrap IntKind.u64 (x*(8192:Int)))))):Nat):Int)) (128:Int))))):Nat):Int)))^^^(BitVec.ofInt 64 (IntKind.wrap IntKind.u64 ((IntKind.wrap IntKind.u64 (((BitVec.toNat ((BitVec.ofInt 64 (IntKind.wrap IntKind.u64 (((BitVec.toNat ((BitVec.ofInt 64 x)^^^(BitVec.ofInt 64 (IntKind.wrap IntKind.u64 (x*(8192:Int)))))):Nat):Int)))^^^(BitVec.ofInt 64 (Int.fdiv (IntKind.wrap IntKind.u64 (((BitVec.toNat ((BitVec.ofInt 64 x)^^^(BitVec.ofInt 64 (IntKind.wrap IntKind.u64 (x*(8192:Int)))))):Nat):Int)) (128:Int))))):Nat):Int))*(131072:Int)))))):Nat):Int)))
def MF (_:Int):Prop:=True
def RR (x:Int):Tr I2 false:=
 (.pn 0 1
 (.ret ((IntKind.wrap IntKind.u64 (((BitVec.toNat ((BitVec.ofInt 64 (IntKind.wrap IntKind.u64 (((BitVec.toNat ((BitVec.ofInt 64 (IntKind.wrap IntKind.u64 (((BitVec.toNat ((BitVec.ofInt 64 x)^^^(BitVec.ofInt 64 (IntKind.wrap IntKind.u64 (x*(8192:Int)))))):Nat):Int)))^^^(BitVec.ofInt 64 (Int.fdiv (IntKind.wrap IntKind.u64 (((BitVec.toNat ((BitVec.ofInt 64 x)^^^(BitVec.ofInt 64 (IntKind.wrap IntKind.u64 (x*(8192:Int)))))):Nat):Int)) (128:Int))))):Nat):Int)))^^^(BitVec.ofInt 64 (IntKind.wrap IntKind.u64 ((IntKind.wrap IntKind.u64 (((BitVec.toNat ((BitVec.ofInt 64 (IntKind.wrap IntKind.u64 (((BitVec.toNat ((BitVec.ofInt 64 x)^^^(BitVec.ofInt 64 (IntKind.wrap IntKind.u64 (x*(8192:Int)))))):Nat):Int)))^^^(BitVec.ofInt 64 (Int.fdiv (IntKind.wrap IntKind.u64 (((BitVec.toNat ((BitVec.ofInt 64 x)^^^(BitVec.ofInt 64 (IntKind.wrap IntKind.u64 (x*(8192:Int)))))):Nat):Int)) (128:Int))))):Nat):Int))*(131072:Int)))))):Nat):Int)),(IntKind.wrap IntKind.u64 (((BitVec.toNat ((BitVec.ofInt 64 (IntKind.wrap IntKind.u64 (((BitVec.toNat ((BitVec.ofInt 64 (IntKind.wrap IntKind.u64 (((BitVec.toNat ((BitVec.ofInt 64 x)^^^(BitVec.ofInt 64 (IntKind.wrap IntKind.u64 (x*(8192:Int)))))):Nat):Int)))^^^(BitVec.ofInt 64 (Int.fdiv (IntKind.wrap IntKind.u64 (((BitVec.toNat ((BitVec.ofInt 64 x)^^^(BitVec.ofInt 64 (IntKind.wrap IntKind.u64 (x*(8192:Int)))))):Nat):Int)) (128:Int))))):Nat):Int)))^^^(BitVec.ofInt 64 (IntKind.wrap IntKind.u64 ((IntKind.wrap IntKind.u64 (((BitVec.toNat ((BitVec.ofInt 64 (IntKind.wrap IntKind.u64 (((BitVec.toNat ((BitVec.ofInt 64 x)^^^(BitVec.ofInt 64 (IntKind.wrap IntKind.u64 (x*(8192:Int)))))):Nat):Int)))^^^(BitVec.ofInt 64 (Int.fdiv (IntKind.wrap IntKind.u64 (((BitVec.toNat ((BitVec.ofInt 64 x)^^^(BitVec.ofInt 64 (IntKind.wrap IntKind.u64 (x*(8192:Int)))))):Nat):Int)) (128:Int))))):Nat):Int))*(131072:Int)))))):Nat):Int)))))
abbrev zV:Cz:=⟨(.ptr (Ty.int IntKind.u64) 112),(.one (Ty.int IntKind.u64)),MF,DB⟩
theorem Po:av Try.prog 70 (bC zV):=av.Ln zV RR (fn:=Try.f70) aQ zc mixed (by kernel_rfl) (aD.nil _ _) (fun x=>aB.nil) (fun x=>(by kernel_rfl)) fun x r0 Q=>(by kernel_rfl)
def HN:List (Nat×Ev.Spec):=(70,bC zV)::HO
theorem r8:ah Try.prog HN:=ah.add (fn:=Try.f70) (by kernel_rfl) Po zc
def C0 (x:((List Int)×(Int×(Int×((List I9)×Int))))):aS:=⟨[.env],⟨ej 67 0 [(0,.v (.one (.full 0))),(1,.v (.one (.i .i64))),(8,.v (.one (.i .i64))),(9,.v (.one (.ptr 3 0))),(10,.v (.one (.i IntKind.u64))),(11,.v (.one (.i .i64)))],[.row yi 1,.row cH 0,.de 2,.cells [.i IntKind.u64] 112],3,none,[6],[0,1,5],[4,7,2,3],[(.l yi),.i,.i,.i],[.i x.2.1,.i (ae (x.2.2.1- x.2.1)),.l cH x.2.2.2.1]⟩,[⟨(.exit 0),.normal,⟨ej 67 0 [],[.row yi 1,.row cH 0,.de 2],3,none,[2],[1],[0],[(.l yi)],[.l cH x.2.2.2.1]⟩⟩]⟩
def dX (x:((List Int)×(Int×(Int×((List I9)×Int))))) (s:((List Int)×I3)):((List Int)×I3)⊕(List Int):=
 (if (s.2.2.2<=(ae ((ae (x.2.1+(ae ((ae (Int.tdiv (ae (x.2.2.1- x.2.1)) (4:Int)))*(2:Int)))))+(1:Int)))) then
 (ai (DB s.2.1) fun y=>
 (if ((ae (IntKind.wrap IntKind.u64 (((BitVec.toNat ((BitVec.ofInt 64 y.1)&&&(BitVec.ofInt 64 (IntKind.wrap IntKind.u64 (s.2.2.1- (1:Int)))))):Nat):Int)))>=(ae (x.2.2.1- x.2.1))) then
 (ai (List.set s.1 (Int.toNat s.2.2.2) (List.getD s.1 (Int.toNat (ae (x.2.1+(ae ((ae (IntKind.wrap IntKind.u64 (((BitVec.toNat ((BitVec.ofInt 64 y.1)&&&(BitVec.ofInt 64 (IntKind.wrap IntKind.u64 (s.2.2.1- (1:Int)))))):Nat):Int)))- (ae (x.2.2.1- x.2.1))))))) (0:Int))) fun aq=>
 (ai (List.set aq (Int.toNat (ae (x.2.1+(ae ((ae (IntKind.wrap IntKind.u64 (((BitVec.toNat ((BitVec.ofInt 64 y.1)&&&(BitVec.ofInt 64 (IntKind.wrap IntKind.u64 (s.2.2.1- (1:Int)))))):Nat):Int)))- (ae (x.2.2.1- x.2.1))))))) (List.getD s.1 (Int.toNat s.2.2.2) (0:Int))) fun y_2=>
 (Sum.inl (y_2,(y.2,(s.2.2.1,(ae (s.2.2.2+(1:Int))))))))) else
 (ai (List.set s.1 (Int.toNat s.2.2.2) (List.getD s.1 (Int.toNat (ae (x.2.1+(ae (IntKind.wrap IntKind.u64 (((BitVec.toNat ((BitVec.ofInt 64 y.1)&&&(BitVec.ofInt 64 (IntKind.wrap IntKind.u64 (s.2.2.1- (1:Int)))))):Nat):Int)))))) (0:Int))) fun aq=>
 (ai (List.set aq (Int.toNat (ae (x.2.1+(ae (IntKind.wrap IntKind.u64 (((BitVec.toNat ((BitVec.ofInt 64 y.1)&&&(BitVec.ofInt 64 (IntKind.wrap IntKind.u64 (s.2.2.1- (1:Int)))))):Nat):Int)))))) (List.getD s.1 (Int.toNat s.2.2.2) (0:Int))) fun y_2=>
 (Sum.inl (y_2,(y.2,(s.2.2.1,(ae (s.2.2.2+(1:Int))))))))))) else
 (Sum.inr (s.1)))
def iW (x:((List Int)×(Int×(Int×((List I9)×Int))))) (s:((List Int)×I3)):Prop:=
 ((s.2.2.2<=(ae ((ae (x.2.1+(ae ((ae (Int.tdiv (ae (x.2.2.1- x.2.1)) (4:Int)))*(2:Int)))))+(1:Int))))->
 (ay (DB s.2.1) fun y=>
 ((((ae (IntKind.wrap IntKind.u64 (((BitVec.toNat ((BitVec.ofInt 64 y.1)&&&(BitVec.ofInt 64 (IntKind.wrap IntKind.u64 (s.2.2.1- (1:Int)))))):Nat):Int)))>=(ae (x.2.2.1- x.2.1)))->
 ((((0:Int)<=(ae (x.2.1+(ae ((ae (IntKind.wrap IntKind.u64 (((BitVec.toNat ((BitVec.ofInt 64 y.1)&&&(BitVec.ofInt 64 (IntKind.wrap IntKind.u64 (s.2.2.1- (1:Int)))))):Nat):Int)))- (ae (x.2.2.1- x.2.1)))))))/\ ((ae (x.2.1+(ae ((ae (IntKind.wrap IntKind.u64 (((BitVec.toNat ((BitVec.ofInt 64 y.1)&&&(BitVec.ofInt 64 (IntKind.wrap IntKind.u64 (s.2.2.1- (1:Int)))))):Nat):Int)))- (ae (x.2.2.1- x.2.1))))))<(s.1.length:Int)))/\
 (((Int.toNat (ae (x.2.1+(ae ((ae (IntKind.wrap IntKind.u64 (((BitVec.toNat ((BitVec.ofInt 64 y.1)&&&(BitVec.ofInt 64 (IntKind.wrap IntKind.u64 (s.2.2.1- (1:Int)))))):Nat):Int)))- (ae (x.2.2.1- x.2.1)))))))<(List.length s.1))/\
 (((Int.toNat (ae (x.2.1+(ae ((ae (IntKind.wrap IntKind.u64 (((BitVec.toNat ((BitVec.ofInt 64 y.1)&&&(BitVec.ofInt 64 (IntKind.wrap IntKind.u64 (s.2.2.1- (1:Int)))))):Nat):Int)))- (ae (x.2.2.1- x.2.1)))))))<(List.length s.1))/\
 ((((0:Int)<=s.2.2.2)/\ (s.2.2.2<(s.1.length:Int)))/\
 (((Int.toNat s.2.2.2)<(List.length s.1))/\
 (((Int.toNat s.2.2.2)<(List.length s.1))/\
 ((((0:Int)<=s.2.2.2)/\ (s.2.2.2<(s.1.length:Int)))/\
 (((Int.toNat s.2.2.2)<(List.length s.1))/\
 (((Int.toNat s.2.2.2)<(List.length s.1))/\
 (ay (List.set s.1 (Int.toNat s.2.2.2) (List.getD s.1 (Int.toNat (ae (x.2.1+(ae ((ae (IntKind.wrap IntKind.u64 (((BitVec.toNat ((BitVec.ofInt 64 y.1)&&&(BitVec.ofInt 64 (IntKind.wrap IntKind.u64 (s.2.2.1- (1:Int)))))):Nat):Int)))- (ae (x.2.2.1- x.2.1))))))) (0:Int))) fun aq=>
 ((((0:Int)<=(ae (x.2.1+(ae ((ae (IntKind.wrap IntKind.u64 (((BitVec.toNat ((BitVec.ofInt 64 y.1)&&&(BitVec.ofInt 64 (IntKind.wrap IntKind.u64 (s.2.2.1- (1:Int)))))):Nat):Int)))- (ae (x.2.2.1- x.2.1)))))))/\ ((ae (x.2.1+(ae ((ae (IntKind.wrap IntKind.u64 (((BitVec.toNat ((BitVec.ofInt 64 y.1)&&&(BitVec.ofInt 64 (IntKind.wrap IntKind.u64 (s.2.2.1- (1:Int)))))):Nat):Int)))- (ae (x.2.2.1- x.2.1))))))<(aq.length:Int)))/\
 (((Int.toNat (ae (x.2.1+(ae ((ae (IntKind.wrap IntKind.u64 (((BitVec.toNat ((BitVec.ofInt 64 y.1)&&&(BitVec.ofInt 64 (IntKind.wrap IntKind.u64 (s.2.2.1- (1:Int)))))):Nat):Int)))- (ae (x.2.2.1- x.2.1)))))))<(List.length aq))/\
 ((Int.toNat (ae (x.2.1+(ae ((ae (IntKind.wrap IntKind.u64 (((BitVec.toNat ((BitVec.ofInt 64 y.1)&&&(BitVec.ofInt 64 (IntKind.wrap IntKind.u64 (s.2.2.1- (1:Int)))))):Nat):Int)))- (ae (x.2.2.1- x.2.1)))))))<(List.length aq)))))))))))))))/\
 (¬((ae (IntKind.wrap IntKind.u64 (((BitVec.toNat ((BitVec.ofInt 64 y.1)&&&(BitVec.ofInt 64 (IntKind.wrap IntKind.u64 (s.2.2.1- (1:Int)))))):Nat):Int)))>=(ae (x.2.2.1- x.2.1)))->
 ((((0:Int)<=(ae (x.2.1+(ae (IntKind.wrap IntKind.u64 (((BitVec.toNat ((BitVec.ofInt 64 y.1)&&&(BitVec.ofInt 64 (IntKind.wrap IntKind.u64 (s.2.2.1- (1:Int)))))):Nat):Int))))))/\ ((ae (x.2.1+(ae (IntKind.wrap IntKind.u64 (((BitVec.toNat ((BitVec.ofInt 64 y.1)&&&(BitVec.ofInt 64 (IntKind.wrap IntKind.u64 (s.2.2.1- (1:Int)))))):Nat):Int)))))<(s.1.length:Int)))/\
 (((Int.toNat (ae (x.2.1+(ae (IntKind.wrap IntKind.u64 (((BitVec.toNat ((BitVec.ofInt 64 y.1)&&&(BitVec.ofInt 64 (IntKind.wrap IntKind.u64 (s.2.2.1- (1:Int)))))):Nat):Int))))))<(List.length s.1))/\
 (((Int.toNat (ae (x.2.1+(ae (IntKind.wrap IntKind.u64 (((BitVec.toNat ((BitVec.ofInt 64 y.1)&&&(BitVec.ofInt 64 (IntKind.wrap IntKind.u64 (s.2.2.1- (1:Int)))))):Nat):Int))))))<(List.length s.1))/\
 ((((0:Int)<=s.2.2.2)/\ (s.2.2.2<(s.1.length:Int)))/\
 (((Int.toNat s.2.2.2)<(List.length s.1))/\
 (((Int.toNat s.2.2.2)<(List.length s.1))/\
 ((((0:Int)<=s.2.2.2)/\ (s.2.2.2<(s.1.length:Int)))/\
 (((Int.toNat s.2.2.2)<(List.length s.1))/\
 (((Int.toNat s.2.2.2)<(List.length s.1))/\
 (ay (List.set s.1 (Int.toNat s.2.2.2) (List.getD s.1 (Int.toNat (ae (x.2.1+(ae (IntKind.wrap IntKind.u64 (((BitVec.toNat ((BitVec.ofInt 64 y.1)&&&(BitVec.ofInt 64 (IntKind.wrap IntKind.u64 (s.2.2.1- (1:Int)))))):Nat):Int)))))) (0:Int))) fun aq=>
 ((((0:Int)<=(ae (x.2.1+(ae (IntKind.wrap IntKind.u64 (((BitVec.toNat ((BitVec.ofInt 64 y.1)&&&(BitVec.ofInt 64 (IntKind.wrap IntKind.u64 (s.2.2.1- (1:Int)))))):Nat):Int))))))/\ ((ae (x.2.1+(ae (IntKind.wrap IntKind.u64 (((BitVec.toNat ((BitVec.ofInt 64 y.1)&&&(BitVec.ofInt 64 (IntKind.wrap IntKind.u64 (s.2.2.1- (1:Int)))))):Nat):Int)))))<(aq.length:Int)))/\
 (((Int.toNat (ae (x.2.1+(ae (IntKind.wrap IntKind.u64 (((BitVec.toNat ((BitVec.ofInt 64 y.1)&&&(BitVec.ofInt 64 (IntKind.wrap IntKind.u64 (s.2.2.1- (1:Int)))))):Nat):Int))))))<(List.length aq))/\
 ((Int.toNat (ae (x.2.1+(ae (IntKind.wrap IntKind.u64 (((BitVec.toNat ((BitVec.ofInt 64 y.1)&&&(BitVec.ofInt 64 (IntKind.wrap IntKind.u64 (s.2.2.1- (1:Int)))))):Nat):Int))))))<(List.length aq))))))))))))))))))
def yj (x:((List Int)×(Int×(Int×((List I9)×Int))))) (s:((List Int)×I3)):Tr (((List Int)×I3)⊕(List Int)) true:=
 (.i10 (s.2.2.2<=(w1 (ae (x.2.1+(ae ((ae (Int.tdiv (ae (x.2.2.1- x.2.1)) (4:Int)))*(2:Int)))))))
 (.X7 zV s.2.1 trivial fun y=>
 (.i11 ((ae (IntKind.wrap IntKind.u64 (((BitVec.toNat ((BitVec.ofInt 64 y.1)&&&(BitVec.ofInt 64 (IntKind.wrap IntKind.u64 (s.2.2.1- z1))))):Nat):Int)))>=(ae (x.2.2.1- x.2.1)))
 (.cf (ae (x.2.1+(ae ((ae (IntKind.wrap IntKind.u64 (((BitVec.toNat ((BitVec.ofInt 64 y.1)&&&(BitVec.ofInt 64 (IntKind.wrap IntKind.u64 (s.2.2.1- z1))))):Nat):Int)))- (ae (x.2.2.1- x.2.1)))))) s.1
 (.cf s.2.2.2 s.1
 (.cf s.2.2.2 s.1
 (.lt (List.set s.1 (tN s.2.2.2) (gI s.1 (ae (x.2.1+(ae ((ae (IntKind.wrap IntKind.u64 (((BitVec.toNat ((BitVec.ofInt 64 y.1)&&&(BitVec.ofInt 64 (IntKind.wrap IntKind.u64 (s.2.2.1- z1))))):Nat):Int)))- (ae (x.2.2.1- x.2.1)))))))) fun aq=>
 (.cf (ae (x.2.1+(ae ((ae (IntKind.wrap IntKind.u64 (((BitVec.toNat ((BitVec.ofInt 64 y.1)&&&(BitVec.ofInt 64 (IntKind.wrap IntKind.u64 (s.2.2.1- z1))))):Nat):Int)))- (ae (x.2.2.1- x.2.1)))))) aq
 (.lt (List.set aq (tN (ae (x.2.1+(ae ((ae (IntKind.wrap IntKind.u64 (((BitVec.toNat ((BitVec.ofInt 64 y.1)&&&(BitVec.ofInt 64 (IntKind.wrap IntKind.u64 (s.2.2.1- z1))))):Nat):Int)))- (ae (x.2.2.1- x.2.1))))))) (gI s.1 s.2.2.2)) fun y_2=>
 (.ret (.inl (y_2,(y.2,(s.2.2.1,(w1 s.2.2.2))))))))))))
 (.cf (ae (x.2.1+(ae (IntKind.wrap IntKind.u64 (((BitVec.toNat ((BitVec.ofInt 64 y.1)&&&(BitVec.ofInt 64 (IntKind.wrap IntKind.u64 (s.2.2.1- z1))))):Nat):Int))))) s.1
 (.cf s.2.2.2 s.1
 (.cf s.2.2.2 s.1
 (.lt (List.set s.1 (tN s.2.2.2) (gI s.1 (ae (x.2.1+(ae (IntKind.wrap IntKind.u64 (((BitVec.toNat ((BitVec.ofInt 64 y.1)&&&(BitVec.ofInt 64 (IntKind.wrap IntKind.u64 (s.2.2.1- z1))))):Nat):Int))))))) fun aq=>
 (.cf (ae (x.2.1+(ae (IntKind.wrap IntKind.u64 (((BitVec.toNat ((BitVec.ofInt 64 y.1)&&&(BitVec.ofInt 64 (IntKind.wrap IntKind.u64 (s.2.2.1- z1))))):Nat):Int))))) aq
 (.lt (List.set aq (tN (ae (x.2.1+(ae (IntKind.wrap IntKind.u64 (((BitVec.toNat ((BitVec.ofInt 64 y.1)&&&(BitVec.ofInt 64 (IntKind.wrap IntKind.u64 (s.2.2.1- z1))))):Nat):Int)))))) (gI s.1 s.2.2.2)) fun y_2=>
 (.ret (.inl (y_2,(y.2,(s.2.2.1,(w1 s.2.2.2))))))))))))))
 (.ret (.inr (s.1))))
def FY (x:((List Int)×(Int×(Int×((List I9)×Int))))):(Bool×((List Int)×(Bool×(Bool×Bool)))):=
 (if ((ae (x.2.2.1- x.2.1))>=(8:Int)) then
 (ai (G0 (ae (x.2.2.1- x.2.1))) fun y=>
 (ai (run (dX x) (x.1,((IntKind.wrap IntKind.u64 (ae (x.2.2.1- x.2.1))),(y,(ae ((ae (x.2.1+(ae ((ae (Int.tdiv (ae (x.2.2.1- x.2.1)) (4:Int)))*(2:Int)))))- (1:Int))))))) fun r=>
 (false,(r,(false,(false,false)))))) else
 (false,(x.1,(false,(false,false)))))
def oX (x:((List Int)×(Int×(Int×((List I9)×Int))))):Prop:=
 ((((ae (x.2.2.1- x.2.1))>=(8:Int))->
 ((sU (ae (x.2.2.1- x.2.1)))/\
 ay (G0 (ae (x.2.2.1- x.2.1))) fun y=>
 (Term (dX x) (iW x) (x.1,((IntKind.wrap IntKind.u64 (ae (x.2.2.1- x.2.1))),(y,(ae ((ae (x.2.1+(ae ((ae (Int.tdiv (ae (x.2.2.1- x.2.1)) (4:Int)))*(2:Int)))))- (1:Int))))))/\
 ay (run (dX x) (x.1,((IntKind.wrap IntKind.u64 (ae (x.2.2.1- x.2.1))),(y,(ae ((ae (x.2.1+(ae ((ae (Int.tdiv (ae (x.2.2.1- x.2.1)) (4:Int)))*(2:Int)))))- (1:Int))))))) fun r=>
 ((List.length r)=(List.length x.1)))))/\
 (¬((ae (x.2.2.1- x.2.1))>=(8:Int))->
 ((List.length x.1)=(List.length x.1))))
def TC (x:((List Int)×(Int×(Int×((List I9)×Int))))):Tr (Bool×((List Int)×(Bool×(Bool×Bool)))) true:=
 (.i11 ((ae (x.2.2.1- x.2.1))>=(8:Int))
 (.fn zX (ae (x.2.2.1- x.2.1)) fun y=>
 (aS.lp (C0 x) (yj x) (x.1,((IntKind.wrap IntKind.u64 (ae (x.2.2.1- x.2.1))),(y,(wm (ae (x.2.1+(ae ((ae (Int.tdiv (ae (x.2.2.1- x.2.1)) (4:Int)))*(2:Int))))))))) fun r=>
 (.pn 0 2
 (.og ((decide ((List.length r)=(List.length x.1)))&&true) ((List.length r)=(List.length x.1)) (fun h=>(cj (decide_eq_true h) rfl))
 (.ret (false,(r,(false,(false,false)))))))))
 (.pn 0 2
 (.og ((decide ((List.length x.1)=(List.length x.1)))&&true) ((List.length x.1)=(List.length x.1)) (fun h=>(cj (decide_eq_true h) rfl))
 (.ret (false,(x.1,(false,(false,false))))))))
abbrev EH:Cz:=⟨(.pair (.row yi) (.pair (.val (.one yi)) (.pair (.val (.one yi)) (.val uc)))),.none,oX,FY⟩
theorem Q9:av Try.prog 58 (bC EH):=av.Ln EH TC (fn:=Try.f58) aQ r8 mixed (by kernel_rfl) (aD.nil _ _) (fun x=>(aB.tr aQ (ah.fe r8 (aD.nil _ _)) mixed 0 (C0 x) (yj x) aB.nil (by kernel_rfl) fun g s Q=>(by kernel_rfl))) (fun x=>(by kernel_rfl)) fun x r0 Q=>(by kernel_rfl)
def K5:List (Nat×Ev.Spec):=(58,bC EH)::HN
theorem nu:ah Try.prog K5:=ah.add (fn:=Try.f58) (by kernel_rfl) Q9 r8
def yS (x:((List Int)×(Int×(Int×(Int×((List I9)×Int)))))):aS:=⟨[.env],⟨ej 90 0 [(0,.v (.one (.full 0))),(1,.v (.one (.i .i64))),(4,.v (.one (.mv 37 true [.full 1,.ext]))),(11,.v (.one (.i .i64))),(12,.v (.one (.i .i64)))],[.row yi 1,.row cH 0,.de 2],3,none,[6],[0,1,5],[4,2,3],[(.l yi),.i,.i],[.i x.2.1,.v (.int .i64 x.2.2.2.2.2),.l cH x.2.2.2.2.1]⟩,[⟨(.exit 2),.normal,⟨ej 90 0 [(0,.v (.one (.full 0))),(1,.v (.one (.i .i64))),(4,.v (.one (.mv 37 true [.full 1,.ext]))),(11,.v (.one (.i .i64))),(12,.v (.one (.i .i64)))],[.row yi 1,.row cH 0,.de 2],3,none,[6],[0,1,5],[4,2,3],[(.l yi),.i,.i],[.i x.2.1,.v (.int .i64 x.2.2.2.2.2),.l cH x.2.2.2.2.1]⟩⟩]⟩
def dV (x:((List Int)×(Int×(Int×(Int×((List I9)×Int)))))) (s:((List Int)×I2)):((List Int)×I2)⊕((List Int)×I2):=
 (if (s.2.1<=s.2.2) then
 (ai (j8 (x.2.2.2.2,((List.getD s.1 (Int.toNat x.2.1) (0:Int)),(List.getD s.1 (Int.toNat s.2.1) (0:Int))))) fun y=>
 (if ((!(decide (y<(0:Int))))=true) then
 (Sum.inl (s.1,((ae (s.2.1+(1:Int))),s.2.2))) else
 (Sum.inr ((s.1,(s.2.1,s.2.2)))))) else
 (Sum.inr ((s.1,(s.2.1,s.2.2)))))
def l5 (x:((List Int)×(Int×(Int×(Int×((List I9)×Int)))))) (s:((List Int)×I2)):Prop:=
 ((s.2.1<=s.2.2)->
 ((((0:Int)<=x.2.1)/\ (x.2.1<(s.1.length:Int)))/\
 (((Int.toNat x.2.1)<(List.length s.1))/\
 (((Int.toNat x.2.1)<(List.length s.1))/\
 ((((0:Int)<=s.2.1)/\ (s.2.1<(s.1.length:Int)))/\
 (((Int.toNat s.2.1)<(List.length s.1))/\
 (((Int.toNat s.2.1)<(List.length s.1))/\
 (bO (x.2.2.2.2,((List.getD s.1 (Int.toNat x.2.1) (0:Int)),(List.getD s.1 (Int.toNat s.2.1) (0:Int))))))))))))
def tM (x:((List Int)×(Int×(Int×(Int×((List I9)×Int)))))) (s:((List Int)×I2)):Tr (((List Int)×I2)⊕((List Int)×I2)) true:=
 (.i10 (s.2.1<=s.2.2)
 (.cf x.2.1 s.1
 (.cf s.2.1 s.1
 (.fn dO (x.2.2.2.2,((gI s.1 x.2.1),(gI s.1 s.2.1))) fun y=>
 (.CA (!(decide (y<z0)))
 (.ret (.inl (s.1,((w1 s.2.1),s.2.2))))
 (.ret (.inr ((s.1,(s.2.1,s.2.2)))))))))
 (.ret (.inr ((s.1,(s.2.1,s.2.2))))))
def yU (x:((List Int)×(Int×(Int×(Int×((List I9)×Int)))))):aS:=⟨[.env],⟨ej 90 0 [(0,.v (.one (.full 0))),(1,.v (.one (.i .i64))),(4,.v (.one (.mv 37 true [.full 1,.ext]))),(11,.v (.one (.i .i64))),(12,.v (.one (.i .i64)))],[.row yi 1,.row cH 0,.de 2],3,none,[6],[0,1,5],[4,2,3],[(.l yi),.i,.i],[.i x.2.1,.v (.int .i64 x.2.2.2.2.2),.l cH x.2.2.2.2.1]⟩,[⟨(.exit 4),.normal,⟨ej 90 0 [(0,.v (.one (.full 0))),(1,.v (.one (.i .i64))),(4,.v (.one (.mv 37 true [.full 1,.ext]))),(11,.v (.one (.i .i64))),(12,.v (.one (.i .i64)))],[.row yi 1,.row cH 0,.de 2],3,none,[6],[0,1,5],[4,2,3],[(.l yi),.i,.i],[.i x.2.1,.v (.int .i64 x.2.2.2.2.2),.l cH x.2.2.2.2.1]⟩⟩]⟩
def dW (x:((List Int)×(Int×(Int×(Int×((List I9)×Int)))))) (s:((List Int)×I2)):((List Int)×I2)⊕((List Int)×I2):=
 (if (s.2.1<=s.2.2) then
 (ai (j8 (x.2.2.2.2,((List.getD s.1 (Int.toNat x.2.1) (0:Int)),(List.getD s.1 (Int.toNat s.2.2) (0:Int))))) fun y=>
 (if (y<(0:Int)) then
 (Sum.inl (s.1,(s.2.1,(ae (s.2.2- (1:Int)))))) else
 (Sum.inr ((s.1,(s.2.1,s.2.2)))))) else
 (Sum.inr ((s.1,(s.2.1,s.2.2)))))
def l6 (x:((List Int)×(Int×(Int×(Int×((List I9)×Int)))))) (s:((List Int)×I2)):Prop:=
 ((s.2.1<=s.2.2)->
 ((((0:Int)<=x.2.1)/\ (x.2.1<(s.1.length:Int)))/\
 (((Int.toNat x.2.1)<(List.length s.1))/\
 (((Int.toNat x.2.1)<(List.length s.1))/\
 ((((0:Int)<=s.2.2)/\ (s.2.2<(s.1.length:Int)))/\
 (((Int.toNat s.2.2)<(List.length s.1))/\
 (((Int.toNat s.2.2)<(List.length s.1))/\
 (bO (x.2.2.2.2,((List.getD s.1 (Int.toNat x.2.1) (0:Int)),(List.getD s.1 (Int.toNat s.2.2) (0:Int))))))))))))
def tO (x:((List Int)×(Int×(Int×(Int×((List I9)×Int)))))) (s:((List Int)×I2)):Tr (((List Int)×I2)⊕((List Int)×I2)) true:=
 (.i10 (s.2.1<=s.2.2)
 (.cf x.2.1 s.1
 (.cf s.2.2 s.1
 (.fn dO (x.2.2.2.2,((gI s.1 x.2.1),(gI s.1 s.2.2))) fun y=>
 (.Ii (y<z0)
 (.ret (.inl (s.1,(s.2.1,(wm s.2.2)))))
 (.ret (.inr ((s.1,(s.2.1,s.2.2)))))))))
 (.ret (.inr ((s.1,(s.2.1,s.2.2))))))
def yQ (x:((List Int)×(Int×(Int×(Int×((List I9)×Int)))))):aS:=⟨[.env],⟨ej 90 0 [(0,.v (.one (.full 0))),(1,.v (.one (.i .i64))),(4,.v (.one (.mv 37 true [.full 1,.ext]))),(11,.v (.one (.i .i64))),(12,.v (.one (.i .i64)))],[.row yi 1,.row cH 0,.de 2],3,none,[6],[0,1,5],[4,2,3],[(.l yi),.i,.i],[.i x.2.1,.v (.int .i64 x.2.2.2.2.2),.l cH x.2.2.2.2.1]⟩,[⟨(.exit 0),.normal,⟨ej 90 0 [(11,.v (.one (.i .i64)))],[.row yi 1,.row cH 0,.de 2],3,none,[3],[2],[1,0],[(.l yi),.i],[.l cH x.2.2.2.2.1]⟩⟩]⟩
def cQ (x:((List Int)×(Int×(Int×(Int×((List I9)×Int)))))) (s:((List Int)×I2)):((List Int)×I2)⊕((List Int)×Int):=
 (ai (run (dV x) (s.1,(s.2.1,s.2.2))) fun r=>
 (ai (run (dW x) (r.1,(r.2.1,r.2.2))) fun r_1=>
 (if (r_1.2.1>r_1.2.2) then
 (Sum.inr ((r_1.1,r_1.2.1))) else
 (ai (List.set r_1.1 (Int.toNat r_1.2.1) (List.getD r_1.1 (Int.toNat r_1.2.2) (0:Int))) fun y=>
 (ai (List.set y (Int.toNat r_1.2.2) (List.getD r_1.1 (Int.toNat r_1.2.1) (0:Int))) fun aq=>
 (Sum.inl (aq,((ae (r_1.2.1+(1:Int))),(ae (r_1.2.2- (1:Int)))))))))))
def jf (x:((List Int)×(Int×(Int×(Int×((List I9)×Int)))))) (s:((List Int)×I2)):Prop:=
 (Term (dV x) (l5 x) (s.1,(s.2.1,s.2.2))/\
 ay (run (dV x) (s.1,(s.2.1,s.2.2))) fun r=>
 (Term (dW x) (l6 x) (r.1,(r.2.1,r.2.2))/\
 ay (run (dW x) (r.1,(r.2.1,r.2.2))) fun r_1=>
 (¬(r_1.2.1>r_1.2.2)->
 ((((0:Int)<=r_1.2.2)/\ (r_1.2.2<(r_1.1.length:Int)))/\
 (((Int.toNat r_1.2.2)<(List.length r_1.1))/\
 (((Int.toNat r_1.2.2)<(List.length r_1.1))/\
 ((((0:Int)<=r_1.2.1)/\ (r_1.2.1<(r_1.1.length:Int)))/\
 (((Int.toNat r_1.2.1)<(List.length r_1.1))/\
 (((Int.toNat r_1.2.1)<(List.length r_1.1))/\
 ((((0:Int)<=r_1.2.1)/\ (r_1.2.1<(r_1.1.length:Int)))/\
 (((Int.toNat r_1.2.1)<(List.length r_1.1))/\
 (((Int.toNat r_1.2.1)<(List.length r_1.1))/\
 (ay (List.set r_1.1 (Int.toNat r_1.2.1) (List.getD r_1.1 (Int.toNat r_1.2.2) (0:Int))) fun y=>
 ((((0:Int)<=r_1.2.2)/\ (r_1.2.2<(y.length:Int)))/\
 (((Int.toNat r_1.2.2)<(List.length y))/\
 ((Int.toNat r_1.2.2)<(List.length y)))))))))))))))))
def tL (x:((List Int)×(Int×(Int×(Int×((List I9)×Int)))))) (s:((List Int)×I2)):Tr (((List Int)×I2)⊕((List Int)×Int)) true:=
 (aS.lp (yS x) (tM x) (s.1,(s.2.1,s.2.2)) fun r=>
 (aS.lp (yU x) (tO x) (r.1,(r.2.1,r.2.2)) fun r_1=>
 (.Ja (r_1.2.1>r_1.2.2)
 (.ret (.inr ((r_1.1,r_1.2.1))))
 (.cf r_1.2.2 r_1.1
 (.cf r_1.2.1 r_1.1
 (.cf r_1.2.1 r_1.1
 (.lt (List.set r_1.1 (tN r_1.2.1) (gI r_1.1 r_1.2.2)) fun y=>
 (.cf r_1.2.2 y
 (.lt (List.set y (tN r_1.2.2) (gI r_1.1 r_1.2.1)) fun aq=>
 (.ret (.inl (aq,((w1 r_1.2.1),(wm r_1.2.2))))))))))))))
def ef (x:((List Int)×(Int×(Int×(Int×((List I9)×Int)))))):(Int×((List Int)×(Bool×(Bool×(Bool×Bool))))):=
 (ai (List.set x.1 (Int.toNat x.2.1) (List.getD x.1 (Int.toNat x.2.2.2.1) (0:Int))) fun y=>
 (ai (List.set y (Int.toNat x.2.2.2.1) (List.getD x.1 (Int.toNat x.2.1) (0:Int))) fun aq=>
 (ai (run (cQ x) (aq,((ae (x.2.1+(1:Int))),(ae (x.2.2.1- (1:Int)))))) fun r=>
 (r.2,(r.1,(false,(false,(false,false))))))))
def cu (x:((List Int)×(Int×(Int×(Int×((List I9)×Int)))))):Prop:=
 ((((0:Int)<=x.2.2.2.1)/\ (x.2.2.2.1<(x.1.length:Int)))/\
 (((Int.toNat x.2.2.2.1)<(List.length x.1))/\
 (((Int.toNat x.2.2.2.1)<(List.length x.1))/\
 ((((0:Int)<=x.2.1)/\ (x.2.1<(x.1.length:Int)))/\
 (((Int.toNat x.2.1)<(List.length x.1))/\
 (((Int.toNat x.2.1)<(List.length x.1))/\
 ((((0:Int)<=x.2.1)/\ (x.2.1<(x.1.length:Int)))/\
 (((Int.toNat x.2.1)<(List.length x.1))/\
 (((Int.toNat x.2.1)<(List.length x.1))/\
 (ay (List.set x.1 (Int.toNat x.2.1) (List.getD x.1 (Int.toNat x.2.2.2.1) (0:Int))) fun y=>
 ((((0:Int)<=x.2.2.2.1)/\ (x.2.2.2.1<(y.length:Int)))/\
 (((Int.toNat x.2.2.2.1)<(List.length y))/\
 (((Int.toNat x.2.2.2.1)<(List.length y))/\
 (ay (List.set y (Int.toNat x.2.2.2.1) (List.getD x.1 (Int.toNat x.2.1) (0:Int))) fun aq=>
 (Term (cQ x) (jf x) (aq,((ae (x.2.1+(1:Int))),(ae (x.2.2.1- (1:Int)))))/\
 ay (run (cQ x) (aq,((ae (x.2.1+(1:Int))),(ae (x.2.2.1- (1:Int)))))) fun r=>
 ((List.length r.1)=(List.length x.1)))))))))))))))))
def Py (x:((List Int)×(Int×(Int×(Int×((List I9)×Int)))))):Tr (Int×((List Int)×(Bool×(Bool×(Bool×Bool))))) true:=
 (.cf x.2.2.2.1 x.1
 (.cf x.2.1 x.1
 (.cf x.2.1 x.1
 (.lt (List.set x.1 (tN x.2.1) (gI x.1 x.2.2.2.1)) fun y=>
 (.cf x.2.2.2.1 y
 (.lt (List.set y (tN x.2.2.2.1) (gI x.1 x.2.1)) fun aq=>
 (aS.lp (yQ x) (tL x) (aq,((w1 x.2.1),(wm x.2.2.1))) fun r=>
 (.pn 0 2
 (.og ((decide ((List.length r.1)=(List.length x.1)))&&true) ((List.length r.1)=(List.length x.1)) (fun h=>(cj (decide_eq_true h) rfl))
 (.ret (r.2,(r.1,(false,(false,(false,false)))))))))))))))
abbrev dy:Cz:=⟨(.pair (.row yi) (.pair (.val (.one yi)) (.pair (.val (.one yi)) (.pair (.val (.one yi)) (.val uc))))),(.one yi),cu,ef⟩
theorem MO:av Try.prog 62 (bC dy):=av.Ln dy Py (fn:=Try.f62) aQ nu mixed (by kernel_rfl) (aD.nil _ _) (fun x=>(aB.tr aQ (ah.fe nu (aD.nil _ _)) mixed 0 (yQ x) (tL x) (aB.tr aQ (ah.fe nu (aD.nil _ _)) mixed 2 (yS x) (tM x) (aB.tr aQ (ah.fe nu (aD.nil _ _)) mixed 4 (yU x) (tO x) aB.nil (by kernel_rfl) fun g s Q=>(by kernel_rfl)) (by kernel_rfl) fun g s Q=>(by kernel_rfl)) (by kernel_rfl) fun g s Q=>(by kernel_rfl))) (fun x=>(by kernel_rfl)) fun x r0 Q=>(by kernel_rfl)
def Ej:List (Nat×Ev.Spec):=(62,bC dy)::K5
theorem fQ:ah Try.prog Ej:=ah.add (fn:=Try.f62) (by kernel_rfl) MO nu
def BA (x:((List Int)×(Int×(Int×(Int×((List I9)×Int)))))):aS:=⟨[.env],⟨ej 178 0 [(0,.v (.one (.full 0))),(1,.v (.one (.i .i64))),(4,.v (.one (.mv 37 true [.full 1,.ext]))),(12,.v (.one (.i .i64))),(13,.v (.one (.i .i64)))],[.row yi 1,.row cH 0,.de 2],3,none,[6],[0,1,3,5],[4,2],[(.l yi),.i],[.i x.2.1,.v (.int .i64 x.2.2.2.2.2),.i (ae (x.2.2.1- (1:Int))),.l cH x.2.2.2.2.1]⟩,[⟨(.exit 0),.normal,⟨ej 178 0 [(0,.v (.one (.full 0))),(1,.v (.one (.i .i64))),(4,.v (.one (.mv 37 true [.full 1,.ext]))),(12,.v (.one (.i .i64))),(13,.v (.one (.i .i64)))],[.row yi 1,.row cH 0,.de 2],3,none,[6],[0,1,3,5],[4,2],[(.l yi),.i],[.i x.2.1,.v (.int .i64 x.2.2.2.2.2),.i (ae (x.2.2.1- (1:Int))),.l cH x.2.2.2.2.1]⟩⟩]⟩
def eI (x:((List Int)×(Int×(Int×(Int×((List I9)×Int)))))) (s:((List Int)×Int)):((List Int)×Int)⊕((List Int)×Int):=
 (if (s.2<=(ae (x.2.2.1- (1:Int)))) then
 (ai (j8 (x.2.2.2.2,((List.getD s.1 (Int.toNat s.2) (0:Int)),(List.getD s.1 (Int.toNat x.2.1) (0:Int))))) fun y=>
 (if (y<(0:Int)) then
 (Sum.inl (s.1,(ae (s.2+(1:Int))))) else
 (Sum.inr ((s.1,s.2))))) else
 (Sum.inr ((s.1,s.2))))
def m8 (x:((List Int)×(Int×(Int×(Int×((List I9)×Int)))))) (s:((List Int)×Int)):Prop:=
 ((s.2<=(ae (x.2.2.1- (1:Int))))->
 ((((0:Int)<=s.2)/\ (s.2<(s.1.length:Int)))/\
 (((Int.toNat s.2)<(List.length s.1))/\
 (((Int.toNat s.2)<(List.length s.1))/\
 ((((0:Int)<=x.2.1)/\ (x.2.1<(s.1.length:Int)))/\
 (((Int.toNat x.2.1)<(List.length s.1))/\
 (((Int.toNat x.2.1)<(List.length s.1))/\
 (bO (x.2.2.2.2,((List.getD s.1 (Int.toNat s.2) (0:Int)),(List.getD s.1 (Int.toNat x.2.1) (0:Int))))))))))))
def v9 (x:((List Int)×(Int×(Int×(Int×((List I9)×Int)))))) (s:((List Int)×Int)):Tr (((List Int)×Int)⊕((List Int)×Int)) true:=
 (.i10 (s.2<=(wm x.2.2.1))
 (.cf s.2 s.1
 (.cf x.2.1 s.1
 (.fn dO (x.2.2.2.2,((gI s.1 s.2),(gI s.1 x.2.1))) fun y=>
 (.Ii (y<z0)
 (.ret (.inl (s.1,(w1 s.2))))
 (.ret (.inr ((s.1,s.2))))))))
 (.ret (.inr ((s.1,s.2)))))
def BB (x:((List Int)×(Int×(Int×(Int×((List I9)×Int)))))):aS:=⟨[.env],⟨ej 178 0 [(0,.v (.one (.full 0))),(1,.v (.one (.i .i64))),(4,.v (.one (.mv 37 true [.full 1,.ext]))),(12,.v (.one (.i .i64))),(13,.v (.one (.i .i64)))],[.row yi 1,.row cH 0,.de 2],3,none,[6],[0,1,5],[4,2,3],[(.l yi),.i,.i],[.i x.2.1,.v (.int .i64 x.2.2.2.2.2),.l cH x.2.2.2.2.1]⟩,[⟨(.exit 2),.normal,⟨ej 178 0 [(0,.v (.one (.full 0))),(1,.v (.one (.i .i64))),(4,.v (.one (.mv 37 true [.full 1,.ext]))),(12,.v (.one (.i .i64))),(13,.v (.one (.i .i64)))],[.row yi 1,.row cH 0,.de 2],3,none,[6],[0,1,5],[4,2,3],[(.l yi),.i,.i],[.i x.2.1,.v (.int .i64 x.2.2.2.2.2),.l cH x.2.2.2.2.1]⟩⟩]⟩
def eJ (x:((List Int)×(Int×(Int×(Int×((List I9)×Int)))))) (s:((List Int)×I2)):((List Int)×I2)⊕((List Int)×I2):=
 (if (s.2.1<=s.2.2) then
 (ai (j8 (x.2.2.2.2,((List.getD s.1 (Int.toNat s.2.2) (0:Int)),(List.getD s.1 (Int.toNat x.2.1) (0:Int))))) fun y=>
 (if ((!(decide (y<(0:Int))))=true) then
 (Sum.inl (s.1,(s.2.1,(ae (s.2.2- (1:Int)))))) else
 (Sum.inr ((s.1,(s.2.1,s.2.2)))))) else
 (Sum.inr ((s.1,(s.2.1,s.2.2)))))
def m9 (x:((List Int)×(Int×(Int×(Int×((List I9)×Int)))))) (s:((List Int)×I2)):Prop:=
 ((s.2.1<=s.2.2)->
 ((((0:Int)<=s.2.2)/\ (s.2.2<(s.1.length:Int)))/\
 (((Int.toNat s.2.2)<(List.length s.1))/\
 (((Int.toNat s.2.2)<(List.length s.1))/\
 ((((0:Int)<=x.2.1)/\ (x.2.1<(s.1.length:Int)))/\
 (((Int.toNat x.2.1)<(List.length s.1))/\
 (((Int.toNat x.2.1)<(List.length s.1))/\
 (bO (x.2.2.2.2,((List.getD s.1 (Int.toNat s.2.2) (0:Int)),(List.getD s.1 (Int.toNat x.2.1) (0:Int))))))))))))
def we (x:((List Int)×(Int×(Int×(Int×((List I9)×Int)))))) (s:((List Int)×I2)):Tr (((List Int)×I2)⊕((List Int)×I2)) true:=
 (.i10 (s.2.1<=s.2.2)
 (.cf s.2.2 s.1
 (.cf x.2.1 s.1
 (.fn dO (x.2.2.2.2,((gI s.1 s.2.2),(gI s.1 x.2.1))) fun y=>
 (.CA (!(decide (y<z0)))
 (.ret (.inl (s.1,(s.2.1,(wm s.2.2)))))
 (.ret (.inr ((s.1,(s.2.1,s.2.2)))))))))
 (.ret (.inr ((s.1,(s.2.1,s.2.2))))))
def BE (x:((List Int)×(Int×(Int×(Int×((List I9)×Int)))))):aS:=⟨[.env],⟨ej 178 0 [(0,.v (.one (.full 0))),(1,.v (.one (.i .i64))),(4,.v (.one (.mv 37 true [.full 1,.ext]))),(12,.v (.one (.i .i64))),(13,.v (.one (.i .i64)))],[.row yi 1,.row cH 0,.de 2],3,none,[6],[0,1,5],[4,2,3],[(.l yi),.i,.i],[.i x.2.1,.v (.int .i64 x.2.2.2.2.2),.l cH x.2.2.2.2.1]⟩,[⟨(.exit 6),.normal,⟨ej 178 0 [(0,.v (.one (.full 0))),(1,.v (.one (.i .i64))),(4,.v (.one (.mv 37 true [.full 1,.ext]))),(12,.v (.one (.i .i64))),(13,.v (.one (.i .i64)))],[.row yi 1,.row cH 0,.de 2],3,none,[6],[0,1,5],[4,2,3],[(.l yi),.i,.i],[.i x.2.1,.v (.int .i64 x.2.2.2.2.2),.l cH x.2.2.2.2.1]⟩⟩]⟩
def eL (x:((List Int)×(Int×(Int×(Int×((List I9)×Int)))))) (s:((List Int)×I2)):((List Int)×I2)⊕((List Int)×I2):=
 (if (s.2.1<=s.2.2) then
 (ai (j8 (x.2.2.2.2,((List.getD s.1 (Int.toNat s.2.1) (0:Int)),(List.getD s.1 (Int.toNat x.2.1) (0:Int))))) fun y=>
 (if (y<(0:Int)) then
 (Sum.inl (s.1,((ae (s.2.1+(1:Int))),s.2.2))) else
 (Sum.inr ((s.1,(s.2.1,s.2.2)))))) else
 (Sum.inr ((s.1,(s.2.1,s.2.2)))))
def nc (x:((List Int)×(Int×(Int×(Int×((List I9)×Int)))))) (s:((List Int)×I2)):Prop:=
 ((s.2.1<=s.2.2)->
 ((((0:Int)<=s.2.1)/\ (s.2.1<(s.1.length:Int)))/\
 (((Int.toNat s.2.1)<(List.length s.1))/\
 (((Int.toNat s.2.1)<(List.length s.1))/\
 ((((0:Int)<=x.2.1)/\ (x.2.1<(s.1.length:Int)))/\
 (((Int.toNat x.2.1)<(List.length s.1))/\
 (((Int.toNat x.2.1)<(List.length s.1))/\
 (bO (x.2.2.2.2,((List.getD s.1 (Int.toNat s.2.1) (0:Int)),(List.getD s.1 (Int.toNat x.2.1) (0:Int))))))))))))
def wh (x:((List Int)×(Int×(Int×(Int×((List I9)×Int)))))) (s:((List Int)×I2)):Tr (((List Int)×I2)⊕((List Int)×I2)) true:=
 (.i10 (s.2.1<=s.2.2)
 (.cf s.2.1 s.1
 (.cf x.2.1 s.1
 (.fn dO (x.2.2.2.2,((gI s.1 s.2.1),(gI s.1 x.2.1))) fun y=>
 (.Ii (y<z0)
 (.ret (.inl (s.1,((w1 s.2.1),s.2.2))))
 (.ret (.inr ((s.1,(s.2.1,s.2.2)))))))))
 (.ret (.inr ((s.1,(s.2.1,s.2.2))))))
def BF (x:((List Int)×(Int×(Int×(Int×((List I9)×Int)))))):aS:=⟨[.env],⟨ej 178 0 [(0,.v (.one (.full 0))),(1,.v (.one (.i .i64))),(4,.v (.one (.mv 37 true [.full 1,.ext]))),(12,.v (.one (.i .i64))),(13,.v (.one (.i .i64)))],[.row yi 1,.row cH 0,.de 2],3,none,[6],[0,1,5],[4,2,3],[(.l yi),.i,.i],[.i x.2.1,.v (.int .i64 x.2.2.2.2.2),.l cH x.2.2.2.2.1]⟩,[⟨(.exit 8),.normal,⟨ej 178 0 [(0,.v (.one (.full 0))),(1,.v (.one (.i .i64))),(4,.v (.one (.mv 37 true [.full 1,.ext]))),(12,.v (.one (.i .i64))),(13,.v (.one (.i .i64)))],[.row yi 1,.row cH 0,.de 2],3,none,[6],[0,1,5],[4,2,3],[(.l yi),.i,.i],[.i x.2.1,.v (.int .i64 x.2.2.2.2.2),.l cH x.2.2.2.2.1]⟩⟩]⟩
def eM (x:((List Int)×(Int×(Int×(Int×((List I9)×Int)))))) (s:((List Int)×I2)):((List Int)×I2)⊕((List Int)×I2):=
 (if (s.2.1<=s.2.2) then
 (ai (j8 (x.2.2.2.2,((List.getD s.1 (Int.toNat s.2.2) (0:Int)),(List.getD s.1 (Int.toNat x.2.1) (0:Int))))) fun y=>
 (if ((!(decide (y<(0:Int))))=true) then
 (Sum.inl (s.1,(s.2.1,(ae (s.2.2- (1:Int)))))) else
 (Sum.inr ((s.1,(s.2.1,s.2.2)))))) else
 (Sum.inr ((s.1,(s.2.1,s.2.2)))))
def ng (x:((List Int)×(Int×(Int×(Int×((List I9)×Int)))))) (s:((List Int)×I2)):Prop:=
 ((s.2.1<=s.2.2)->
 ((((0:Int)<=s.2.2)/\ (s.2.2<(s.1.length:Int)))/\
 (((Int.toNat s.2.2)<(List.length s.1))/\
 (((Int.toNat s.2.2)<(List.length s.1))/\
 ((((0:Int)<=x.2.1)/\ (x.2.1<(s.1.length:Int)))/\
 (((Int.toNat x.2.1)<(List.length s.1))/\
 (((Int.toNat x.2.1)<(List.length s.1))/\
 (bO (x.2.2.2.2,((List.getD s.1 (Int.toNat s.2.2) (0:Int)),(List.getD s.1 (Int.toNat x.2.1) (0:Int))))))))))))
def wj (x:((List Int)×(Int×(Int×(Int×((List I9)×Int)))))) (s:((List Int)×I2)):Tr (((List Int)×I2)⊕((List Int)×I2)) true:=
 (.i10 (s.2.1<=s.2.2)
 (.cf s.2.2 s.1
 (.cf x.2.1 s.1
 (.fn dO (x.2.2.2.2,((gI s.1 s.2.2),(gI s.1 x.2.1))) fun y=>
 (.CA (!(decide (y<z0)))
 (.ret (.inl (s.1,(s.2.1,(wm s.2.2)))))
 (.ret (.inr ((s.1,(s.2.1,s.2.2)))))))))
 (.ret (.inr ((s.1,(s.2.1,s.2.2))))))
def BD (x:((List Int)×(Int×(Int×(Int×((List I9)×Int)))))):aS:=⟨[.env],⟨ej 178 0 [(0,.v (.one (.full 0))),(1,.v (.one (.i .i64))),(4,.v (.one (.mv 37 true [.full 1,.ext]))),(12,.v (.one (.i .i64))),(13,.v (.one (.i .i64)))],[.row yi 1,.row cH 0,.de 2],3,none,[6],[0,1,5],[4,2,3],[(.l yi),.i,.i],[.i x.2.1,.v (.int .i64 x.2.2.2.2.2),.l cH x.2.2.2.2.1]⟩,[⟨(.exit 4),.normal,⟨ej 178 0 [(0,.v (.one (.full 0))),(1,.v (.one (.i .i64))),(13,.v (.one (.i .i64)))],[.row yi 1,.row cH 0,.de 2],3,none,[4],[0,3],[2,1],[(.l yi),.i],[.i x.2.1,.l cH x.2.2.2.2.1]⟩⟩]⟩
def bI (x:((List Int)×(Int×(Int×(Int×((List I9)×Int)))))) (s:((List Int)×I2)):((List Int)×I2)⊕((List Int)×Int):=
 (ai (run (eL x) (s.1,(s.2.1,s.2.2))) fun r=>
 (ai (run (eM x) (r.1,(r.2.1,r.2.2))) fun r_1=>
 (if (r_1.2.1>r_1.2.2) then
 (Sum.inr ((r_1.1,r_1.2.2))) else
 (ai (List.set r_1.1 (Int.toNat r_1.2.1) (List.getD r_1.1 (Int.toNat r_1.2.2) (0:Int))) fun y=>
 (ai (List.set y (Int.toNat r_1.2.2) (List.getD r_1.1 (Int.toNat r_1.2.1) (0:Int))) fun aq=>
 (Sum.inl (aq,((ae (r_1.2.1+(1:Int))),(ae (r_1.2.2- (1:Int)))))))))))
def jU (x:((List Int)×(Int×(Int×(Int×((List I9)×Int)))))) (s:((List Int)×I2)):Prop:=
 (Term (eL x) (nc x) (s.1,(s.2.1,s.2.2))/\
 ay (run (eL x) (s.1,(s.2.1,s.2.2))) fun r=>
 (Term (eM x) (ng x) (r.1,(r.2.1,r.2.2))/\
 ay (run (eM x) (r.1,(r.2.1,r.2.2))) fun r_1=>
 (¬(r_1.2.1>r_1.2.2)->
 ((((0:Int)<=r_1.2.2)/\ (r_1.2.2<(r_1.1.length:Int)))/\
 (((Int.toNat r_1.2.2)<(List.length r_1.1))/\
 (((Int.toNat r_1.2.2)<(List.length r_1.1))/\
 ((((0:Int)<=r_1.2.1)/\ (r_1.2.1<(r_1.1.length:Int)))/\
 (((Int.toNat r_1.2.1)<(List.length r_1.1))/\
 (((Int.toNat r_1.2.1)<(List.length r_1.1))/\
 ((((0:Int)<=r_1.2.1)/\ (r_1.2.1<(r_1.1.length:Int)))/\
 (((Int.toNat r_1.2.1)<(List.length r_1.1))/\
 (((Int.toNat r_1.2.1)<(List.length r_1.1))/\
 (ay (List.set r_1.1 (Int.toNat r_1.2.1) (List.getD r_1.1 (Int.toNat r_1.2.2) (0:Int))) fun y=>
 ((((0:Int)<=r_1.2.2)/\ (r_1.2.2<(y.length:Int)))/\
 (((Int.toNat r_1.2.2)<(List.length y))/\
 ((Int.toNat r_1.2.2)<(List.length y)))))))))))))))))
def wg (x:((List Int)×(Int×(Int×(Int×((List I9)×Int)))))) (s:((List Int)×I2)):Tr (((List Int)×I2)⊕((List Int)×Int)) true:=
 (aS.lp (BE x) (wh x) (s.1,(s.2.1,s.2.2)) fun r=>
 (aS.lp (BF x) (wj x) (r.1,(r.2.1,r.2.2)) fun r_1=>
 (.Ja (r_1.2.1>r_1.2.2)
 (.ret (.inr ((r_1.1,r_1.2.2))))
 (.cf r_1.2.2 r_1.1
 (.cf r_1.2.1 r_1.1
 (.cf r_1.2.1 r_1.1
 (.lt (List.set r_1.1 (tN r_1.2.1) (gI r_1.1 r_1.2.2)) fun y=>
 (.cf r_1.2.2 y
 (.lt (List.set y (tN r_1.2.2) (gI r_1.1 r_1.2.1)) fun aq=>
 (.ret (.inl (aq,((w1 r_1.2.1),(wm r_1.2.2))))))))))))))
def bA (x:((List Int)×(Int×(Int×(Int×((List I9)×Int)))))):((Int×Bool)×((List Int)×(Bool×(Bool×(Bool×Bool))))):=
 (ai (List.set x.1 (Int.toNat x.2.1) (List.getD x.1 (Int.toNat x.2.2.2.1) (0:Int))) fun y=>
 (ai (List.set y (Int.toNat x.2.2.2.1) (List.getD x.1 (Int.toNat x.2.1) (0:Int))) fun aq=>
 (ai (run (eI x) (aq,(ae (x.2.1+(1:Int))))) fun r=>
 (ai (run (eJ x) (r.1,(r.2,(ae (x.2.2.1- (1:Int)))))) fun r_1=>
 (if (r_1.2.1>r_1.2.2) then
 (ai (List.set r_1.1 (Int.toNat r_1.2.2) (List.getD r_1.1 (Int.toNat x.2.1) (0:Int))) fun y_2=>
 (ai (List.set y_2 (Int.toNat x.2.1) (List.getD r_1.1 (Int.toNat r_1.2.2) (0:Int))) fun au=>
 ((r_1.2.2,true),(au,(false,(false,(false,false))))))) else
 (ai (List.set r_1.1 (Int.toNat r_1.2.1) (List.getD r_1.1 (Int.toNat r_1.2.2) (0:Int))) fun y_2=>
 (ai (List.set y_2 (Int.toNat r_1.2.2) (List.getD r_1.1 (Int.toNat r_1.2.1) (0:Int))) fun au=>
 (ai (run (bI x) (au,((ae (r_1.2.1+(1:Int))),(ae (r_1.2.2- (1:Int)))))) fun r_2=>
 (ai (List.set r_2.1 (Int.toNat r_2.2) (List.getD r_2.1 (Int.toNat x.2.1) (0:Int))) fun aR=>
 (ai (List.set aR (Int.toNat x.2.1) (List.getD r_2.1 (Int.toNat r_2.2) (0:Int))) fun cA=>
 ((r_2.2,false),(cA,(false,(false,(false,false)))))))))))))))
def bj (x:((List Int)×(Int×(Int×(Int×((List I9)×Int)))))):Prop:=
 ((((0:Int)<=x.2.2.2.1)/\ (x.2.2.2.1<(x.1.length:Int)))/\
 (((Int.toNat x.2.2.2.1)<(List.length x.1))/\
 (((Int.toNat x.2.2.2.1)<(List.length x.1))/\
 ((((0:Int)<=x.2.1)/\ (x.2.1<(x.1.length:Int)))/\
 (((Int.toNat x.2.1)<(List.length x.1))/\
 (((Int.toNat x.2.1)<(List.length x.1))/\
 ((((0:Int)<=x.2.1)/\ (x.2.1<(x.1.length:Int)))/\
 (((Int.toNat x.2.1)<(List.length x.1))/\
 (((Int.toNat x.2.1)<(List.length x.1))/\
 (ay (List.set x.1 (Int.toNat x.2.1) (List.getD x.1 (Int.toNat x.2.2.2.1) (0:Int))) fun y=>
 ((((0:Int)<=x.2.2.2.1)/\ (x.2.2.2.1<(y.length:Int)))/\
 (((Int.toNat x.2.2.2.1)<(List.length y))/\
 (((Int.toNat x.2.2.2.1)<(List.length y))/\
 (ay (List.set y (Int.toNat x.2.2.2.1) (List.getD x.1 (Int.toNat x.2.1) (0:Int))) fun aq=>
 (Term (eI x) (m8 x) (aq,(ae (x.2.1+(1:Int))))/\
 ay (run (eI x) (aq,(ae (x.2.1+(1:Int))))) fun r=>
 (Term (eJ x) (m9 x) (r.1,(r.2,(ae (x.2.2.1- (1:Int)))))/\
 ay (run (eJ x) (r.1,(r.2,(ae (x.2.2.1- (1:Int)))))) fun r_1=>
 (((r_1.2.1>r_1.2.2)->
 ((((0:Int)<=x.2.1)/\ (x.2.1<(r_1.1.length:Int)))/\
 (((Int.toNat x.2.1)<(List.length r_1.1))/\
 (((Int.toNat x.2.1)<(List.length r_1.1))/\
 ((((0:Int)<=r_1.2.2)/\ (r_1.2.2<(r_1.1.length:Int)))/\
 (((Int.toNat r_1.2.2)<(List.length r_1.1))/\
 (((Int.toNat r_1.2.2)<(List.length r_1.1))/\
 ((((0:Int)<=r_1.2.2)/\ (r_1.2.2<(r_1.1.length:Int)))/\
 (((Int.toNat r_1.2.2)<(List.length r_1.1))/\
 (((Int.toNat r_1.2.2)<(List.length r_1.1))/\
 (ay (List.set r_1.1 (Int.toNat r_1.2.2) (List.getD r_1.1 (Int.toNat x.2.1) (0:Int))) fun y_2=>
 ((((0:Int)<=x.2.1)/\ (x.2.1<(y_2.length:Int)))/\
 (((Int.toNat x.2.1)<(List.length y_2))/\
 (((Int.toNat x.2.1)<(List.length y_2))/\
 (ay (List.set y_2 (Int.toNat x.2.1) (List.getD r_1.1 (Int.toNat r_1.2.2) (0:Int))) fun au=>
 ((List.length au)=(List.length x.1)))))))))))))))))/\
 (¬(r_1.2.1>r_1.2.2)->
 ((((0:Int)<=r_1.2.2)/\ (r_1.2.2<(r_1.1.length:Int)))/\
 (((Int.toNat r_1.2.2)<(List.length r_1.1))/\
 (((Int.toNat r_1.2.2)<(List.length r_1.1))/\
 ((((0:Int)<=r_1.2.1)/\ (r_1.2.1<(r_1.1.length:Int)))/\
 (((Int.toNat r_1.2.1)<(List.length r_1.1))/\
 (((Int.toNat r_1.2.1)<(List.length r_1.1))/\
 ((((0:Int)<=r_1.2.1)/\ (r_1.2.1<(r_1.1.length:Int)))/\
 (((Int.toNat r_1.2.1)<(List.length r_1.1))/\
 (((Int.toNat r_1.2.1)<(List.length r_1.1))/\
 (ay (List.set r_1.1 (Int.toNat r_1.2.1) (List.getD r_1.1 (Int.toNat r_1.2.2) (0:Int))) fun y_2=>
 ((((0:Int)<=r_1.2.2)/\ (r_1.2.2<(y_2.length:Int)))/\
 (((Int.toNat r_1.2.2)<(List.length y_2))/\
 (((Int.toNat r_1.2.2)<(List.length y_2))/\
 (ay (List.set y_2 (Int.toNat r_1.2.2) (List.getD r_1.1 (Int.toNat r_1.2.1) (0:Int))) fun au=>
 (Term (bI x) (jU x) (au,((ae (r_1.2.1+(1:Int))),(ae (r_1.2.2- (1:Int)))))/\
 ay (run (bI x) (au,((ae (r_1.2.1+(1:Int))),(ae (r_1.2.2- (1:Int)))))) fun r_2=>
 ((((0:Int)<=x.2.1)/\ (x.2.1<(r_2.1.length:Int)))/\
 (((Int.toNat x.2.1)<(List.length r_2.1))/\
 (((Int.toNat x.2.1)<(List.length r_2.1))/\
 ((((0:Int)<=r_2.2)/\ (r_2.2<(r_2.1.length:Int)))/\
 (((Int.toNat r_2.2)<(List.length r_2.1))/\
 (((Int.toNat r_2.2)<(List.length r_2.1))/\
 ((((0:Int)<=r_2.2)/\ (r_2.2<(r_2.1.length:Int)))/\
 (((Int.toNat r_2.2)<(List.length r_2.1))/\
 (((Int.toNat r_2.2)<(List.length r_2.1))/\
 (ay (List.set r_2.1 (Int.toNat r_2.2) (List.getD r_2.1 (Int.toNat x.2.1) (0:Int))) fun aR=>
 ((((0:Int)<=x.2.1)/\ (x.2.1<(aR.length:Int)))/\
 (((Int.toNat x.2.1)<(List.length aR))/\
 (((Int.toNat x.2.1)<(List.length aR))/\
 (ay (List.set aR (Int.toNat x.2.1) (List.getD r_2.1 (Int.toNat r_2.2) (0:Int))) fun cA=>
 ((List.length cA)=(List.length x.1)))))))))))))))))))))))))))))))))))))))))))))))))
def R6 (x:((List Int)×(Int×(Int×(Int×((List I9)×Int)))))):Tr ((Int×Bool)×((List Int)×(Bool×(Bool×(Bool×Bool))))) true:=
 (.cf x.2.2.2.1 x.1
 (.cf x.2.1 x.1
 (.cf x.2.1 x.1
 (.lt (List.set x.1 (tN x.2.1) (gI x.1 x.2.2.2.1)) fun y=>
 (.cf x.2.2.2.1 y
 (.lt (List.set y (tN x.2.2.2.1) (gI x.1 x.2.1)) fun aq=>
 (aS.lp (BA x) (v9 x) (aq,(w1 x.2.1)) fun r=>
 (aS.lp (BB x) (we x) (r.1,(r.2,(wm x.2.2.1))) fun r_1=>
 (.i11 (r_1.2.1>r_1.2.2)
 (.cf x.2.1 r_1.1
 (.cf r_1.2.2 r_1.1
 (.cf r_1.2.2 r_1.1
 (.lt (List.set r_1.1 (tN r_1.2.2) (gI r_1.1 x.2.1)) fun y_2=>
 (.cf x.2.1 y_2
 (.lt (List.set y_2 (tN x.2.1) (gI r_1.1 r_1.2.2)) fun au=>
 (.pn 0 2
 (.og ((decide ((List.length au)=(List.length x.1)))&&true) ((List.length au)=(List.length x.1)) (fun h=>(cj (decide_eq_true h) rfl))
 (.ret ((r_1.2.2,true),(au,(false,(false,(false,false))))))))))))))
 (.cf r_1.2.2 r_1.1
 (.cf r_1.2.1 r_1.1
 (.cf r_1.2.1 r_1.1
 (.lt (List.set r_1.1 (tN r_1.2.1) (gI r_1.1 r_1.2.2)) fun y_2=>
 (.cf r_1.2.2 y_2
 (.lt (List.set y_2 (tN r_1.2.2) (gI r_1.1 r_1.2.1)) fun au=>
 (aS.lp (BD x) (wg x) (au,((w1 r_1.2.1),(wm r_1.2.2))) fun r_2=>
 (.cf x.2.1 r_2.1
 (.cf r_2.2 r_2.1
 (.cf r_2.2 r_2.1
 (.lt (List.set r_2.1 (tN r_2.2) (gI r_2.1 x.2.1)) fun aR=>
 (.cf x.2.1 aR
 (.lt (List.set aR (tN x.2.1) (gI r_2.1 r_2.2)) fun cA=>
 (.pn 0 2
 (.og ((decide ((List.length cA)=(List.length x.1)))&&true) ((List.length cA)=(List.length x.1)) (fun h=>(cj (decide_eq_true h) rfl))
 (.ret ((r_2.2,false),(cA,(false,(false,(false,false))))))))))))))))))))))))))))))
abbrev b7:Cz:=⟨(.pair (.row yi) (.pair (.val (.one yi)) (.pair (.val (.one yi)) (.pair (.val (.one yi)) (.val uc))))),(.pair (.one yi) (.one Ty.bool)),bj,bA⟩
theorem Pz:av Try.prog 63 (bC b7):=av.Ln b7 R6 (fn:=Try.f63) aQ fQ mixed (by kernel_rfl) (aD.nil _ _) (fun x=>(aB.tr aQ (ah.fe fQ (aD.nil _ _)) mixed 0 (BA x) (v9 x) (aB.tr aQ (ah.fe fQ (aD.nil _ _)) mixed 2 (BB x) (we x) (aB.tr aQ (ah.fe fQ (aD.nil _ _)) mixed 4 (BD x) (wg x) (aB.tr aQ (ah.fe fQ (aD.nil _ _)) mixed 6 (BE x) (wh x) (aB.tr aQ (ah.fe fQ (aD.nil _ _)) mixed 8 (BF x) (wj x) aB.nil (by kernel_rfl) fun g s Q=>(by kernel_rfl)) (by kernel_rfl) fun g s Q=>(by kernel_rfl)) (by kernel_rfl) fun g s Q=>(by kernel_rfl)) (by kernel_rfl) fun g s Q=>(by kernel_rfl)) (by kernel_rfl) fun g s Q=>(by kernel_rfl))) (fun x=>(by kernel_rfl)) fun x r0 Q=>(by kernel_rfl)
def HQ:List (Nat×Ev.Spec):=(63,bC b7)::Ej
theorem jz:ah Try.prog HQ:=ah.add (fn:=Try.f63) (by kernel_rfl) Pz fQ
def By (x:((List Int)×(Int×(Int×((List I9)×Int))))):aS:=⟨[.env],⟨ej 141 0 [(0,.v (.one (.full 0))),(1,.v (.one (.i .i64))),(2,.v (.one (.i .i64))),(3,.v (.one (.mv 37 true [.full 1,.ext]))),(9,.v (.one (.i .i64))),(10,.v (.one (.i .i64)))],[.row yi 1,.row cH 0,.de 2],3,none,[7],[0,1,2,6],[5,3,4],[(.l yi),.i,.i],[.i x.2.1,.i x.2.2.1,.v (.int .i64 x.2.2.2.2),.l cH x.2.2.2.1]⟩,[⟨(.exit 2),.normal,⟨ej 141 0 [(0,.v (.one (.full 0))),(1,.v (.one (.i .i64))),(2,.v (.one (.i .i64))),(3,.v (.one (.mv 37 true [.full 1,.ext]))),(9,.v (.one (.i .i64))),(10,.v (.one (.i .i64)))],[.row yi 1,.row cH 0,.de 2],3,none,[7],[0,1,2,6],[5,3,4],[(.l yi),.i,.i],[.i x.2.1,.i x.2.2.1,.v (.int .i64 x.2.2.2.2),.l cH x.2.2.2.1]⟩⟩]⟩
def c9 (x:((List Int)×(Int×(Int×((List I9)×Int))))) (s:((List Int)×I2)):((List Int)×I2)⊕((List Int)×I2):=
 (if (s.2.1<x.2.2.1) then
 (ai (j8 (x.2.2.2,((List.getD s.1 (Int.toNat s.2.1) (0:Int)),(List.getD s.1 (Int.toNat (ae (s.2.1- (1:Int)))) (0:Int))))) fun y=>
 (if ((!(decide (y<(0:Int))))=true) then
 (Sum.inl (s.1,((ae (s.2.1+(1:Int))),s.2.2))) else
 (Sum.inr ((s.1,(s.2.1,s.2.2)))))) else
 (Sum.inr ((s.1,(s.2.1,s.2.2)))))
def jT (x:((List Int)×(Int×(Int×((List I9)×Int))))) (s:((List Int)×I2)):Prop:=
 ((s.2.1<x.2.2.1)->
 ((((0:Int)<=s.2.1)/\ (s.2.1<(s.1.length:Int)))/\
 (((Int.toNat s.2.1)<(List.length s.1))/\
 (((Int.toNat s.2.1)<(List.length s.1))/\
 ((((0:Int)<=(ae (s.2.1- (1:Int))))/\ ((ae (s.2.1- (1:Int)))<(s.1.length:Int)))/\
 (((Int.toNat (ae (s.2.1- (1:Int))))<(List.length s.1))/\
 (((Int.toNat (ae (s.2.1- (1:Int))))<(List.length s.1))/\
 (bO (x.2.2.2,((List.getD s.1 (Int.toNat s.2.1) (0:Int)),(List.getD s.1 (Int.toNat (ae (s.2.1- (1:Int)))) (0:Int))))))))))))
def vZ (x:((List Int)×(Int×(Int×((List I9)×Int))))) (s:((List Int)×I2)):Tr (((List Int)×I2)⊕((List Int)×I2)) true:=
 (.i10 (s.2.1<x.2.2.1)
 (.cf s.2.1 s.1
 (.cf (wm s.2.1) s.1
 (.fn dO (x.2.2.2,((gI s.1 s.2.1),(gI s.1 (wm s.2.1)))) fun y=>
 (.CA (!(decide (y<z0)))
 (.ret (.inl (s.1,((w1 s.2.1),s.2.2))))
 (.ret (.inr ((s.1,(s.2.1,s.2.2)))))))))
 (.ret (.inr ((s.1,(s.2.1,s.2.2))))))
def Bz (x:((List Int)×(Int×(Int×((List I9)×Int))))):aS:=⟨[.env],⟨ej 141 0 [(0,.v (.one (.full 0))),(1,.v (.one (.i .i64))),(2,.v (.one (.i .i64))),(3,.v (.one (.mv 37 true [.full 1,.ext]))),(9,.v (.one (.i .i64))),(10,.v (.one (.i .i64))),(11,.v (.one (.i .i64)))],[.row yi 1,.row cH 0,.de 2],3,none,[8],[0,1,2,7],[6,3,4,5],[(.l yi),.i,.i,.i],[.i x.2.1,.i x.2.2.1,.v (.int .i64 x.2.2.2.2),.l cH x.2.2.2.1]⟩,[⟨(.exit 4),.normal,⟨ej 141 0 [(0,.v (.one (.full 0))),(1,.v (.one (.i .i64))),(2,.v (.one (.i .i64))),(3,.v (.one (.mv 37 true [.full 1,.ext]))),(9,.v (.one (.i .i64))),(10,.v (.one (.i .i64)))],[.row yi 1,.row cH 0,.de 2],3,none,[7],[0,1,2,6],[5,3,4],[(.l yi),.i,.i],[.i x.2.1,.i x.2.2.1,.v (.int .i64 x.2.2.2.2),.l cH x.2.2.2.1]⟩⟩]⟩
def da (x:((List Int)×(Int×(Int×((List I9)×Int))))) (s:((List Int)×I3)):((List Int)×I3)⊕((List Int)×I2):=
 (if (s.2.2.2>=(1:Int)) then
 (ai (j8 (x.2.2.2,((List.getD s.1 (Int.toNat s.2.2.2) (0:Int)),(List.getD s.1 (Int.toNat (ae (s.2.2.2- (1:Int)))) (0:Int))))) fun y=>
 (if ((!(decide (y<(0:Int))))=true) then
 (Sum.inr ((s.1,(s.2.1,s.2.2.1)))) else
 (ai (List.set s.1 (Int.toNat s.2.2.2) (List.getD s.1 (Int.toNat (ae (s.2.2.2- (1:Int)))) (0:Int))) fun aq=>
 (ai (List.set aq (Int.toNat (ae (s.2.2.2- (1:Int)))) (List.getD s.1 (Int.toNat s.2.2.2) (0:Int))) fun y_2=>
 (Sum.inl (y_2,(s.2.1,(s.2.2.1,(ae (s.2.2.2- (1:Int))))))))))) else
 (Sum.inr ((s.1,(s.2.1,s.2.2.1)))))
def ij (x:((List Int)×(Int×(Int×((List I9)×Int))))) (s:((List Int)×I3)):Prop:=
 ((s.2.2.2>=(1:Int))->
 ((((0:Int)<=s.2.2.2)/\ (s.2.2.2<(s.1.length:Int)))/\
 (((Int.toNat s.2.2.2)<(List.length s.1))/\
 (((Int.toNat s.2.2.2)<(List.length s.1))/\
 ((((0:Int)<=(ae (s.2.2.2- (1:Int))))/\ ((ae (s.2.2.2- (1:Int)))<(s.1.length:Int)))/\
 (((Int.toNat (ae (s.2.2.2- (1:Int))))<(List.length s.1))/\
 (((Int.toNat (ae (s.2.2.2- (1:Int))))<(List.length s.1))/\
 ((bO (x.2.2.2,((List.getD s.1 (Int.toNat s.2.2.2) (0:Int)),(List.getD s.1 (Int.toNat (ae (s.2.2.2- (1:Int)))) (0:Int)))))/\
 ay (j8 (x.2.2.2,((List.getD s.1 (Int.toNat s.2.2.2) (0:Int)),(List.getD s.1 (Int.toNat (ae (s.2.2.2- (1:Int)))) (0:Int))))) fun y=>
 (¬((!(decide (y<(0:Int))))=true)->
 ((((0:Int)<=(ae (s.2.2.2- (1:Int))))/\ ((ae (s.2.2.2- (1:Int)))<(s.1.length:Int)))/\
 (((Int.toNat (ae (s.2.2.2- (1:Int))))<(List.length s.1))/\
 (((Int.toNat (ae (s.2.2.2- (1:Int))))<(List.length s.1))/\
 ((((0:Int)<=s.2.2.2)/\ (s.2.2.2<(s.1.length:Int)))/\
 (((Int.toNat s.2.2.2)<(List.length s.1))/\
 (((Int.toNat s.2.2.2)<(List.length s.1))/\
 ((((0:Int)<=s.2.2.2)/\ (s.2.2.2<(s.1.length:Int)))/\
 (((Int.toNat s.2.2.2)<(List.length s.1))/\
 (((Int.toNat s.2.2.2)<(List.length s.1))/\
 (ay (List.set s.1 (Int.toNat s.2.2.2) (List.getD s.1 (Int.toNat (ae (s.2.2.2- (1:Int)))) (0:Int))) fun aq=>
 ((((0:Int)<=(ae (s.2.2.2- (1:Int))))/\ ((ae (s.2.2.2- (1:Int)))<(aq.length:Int)))/\
 (((Int.toNat (ae (s.2.2.2- (1:Int))))<(List.length aq))/\
 ((Int.toNat (ae (s.2.2.2- (1:Int))))<(List.length aq)))))))))))))))))))))))
def v7 (x:((List Int)×(Int×(Int×((List I9)×Int))))) (s:((List Int)×I3)):Tr (((List Int)×I3)⊕((List Int)×I2)) true:=
 (.i10 (s.2.2.2>=z1)
 (.cf s.2.2.2 s.1
 (.cf (wm s.2.2.2) s.1
 (.fn dO (x.2.2.2,((gI s.1 s.2.2.2),(gI s.1 (wm s.2.2.2)))) fun y=>
 (.zo (!(decide (y<z0)))
 (.ret (.inr ((s.1,(s.2.1,s.2.2.1)))))
 (.cf (wm s.2.2.2) s.1
 (.cf s.2.2.2 s.1
 (.cf s.2.2.2 s.1
 (.lt (List.set s.1 (tN s.2.2.2) (gI s.1 (wm s.2.2.2))) fun aq=>
 (.cf (wm s.2.2.2) aq
 (.lt (List.set aq (tN (wm s.2.2.2)) (gI s.1 s.2.2.2)) fun y_2=>
 (.ret (.inl (y_2,(s.2.1,(s.2.2.1,(wm s.2.2.2))))))))))))))))
 (.ret (.inr ((s.1,(s.2.1,s.2.2.1))))))
def uE (x:((List Int)×(Int×(Int×((List I9)×Int))))):aS:=⟨[.env],⟨ej 141 0 [(0,.v (.one (.full 0))),(1,.v (.one (.i .i64))),(2,.v (.one (.i .i64))),(3,.v (.one (.mv 37 true [.full 1,.ext]))),(9,.v (.one (.i .i64))),(10,.v (.one (.i .i64))),(12,.v (.one (.i .i64)))],[.row yi 1,.row cH 0,.de 2],3,none,[8],[0,1,2,7],[6,3,4,5],[(.l yi),.i,.i,.i],[.i x.2.1,.i x.2.2.1,.v (.int .i64 x.2.2.2.2),.l cH x.2.2.2.1]⟩,[⟨(.exit 6),.normal,⟨ej 141 0 [(0,.v (.one (.full 0))),(1,.v (.one (.i .i64))),(2,.v (.one (.i .i64))),(3,.v (.one (.mv 37 true [.full 1,.ext]))),(9,.v (.one (.i .i64))),(10,.v (.one (.i .i64)))],[.row yi 1,.row cH 0,.de 2],3,none,[7],[0,1,2,6],[5,3,4],[(.l yi),.i,.i],[.i x.2.1,.i x.2.2.1,.v (.int .i64 x.2.2.2.2),.l cH x.2.2.2.1]⟩⟩]⟩
def bu (x:((List Int)×(Int×(Int×((List I9)×Int))))) (s:((List Int)×I3)):((List Int)×I3)⊕((List Int)×I2):=
 (if (s.2.2.2<x.2.2.1) then
 (ai (j8 (x.2.2.2,((List.getD s.1 (Int.toNat s.2.2.2) (0:Int)),(List.getD s.1 (Int.toNat (ae (s.2.2.2- (1:Int)))) (0:Int))))) fun y=>
 (if ((!(decide (y<(0:Int))))=true) then
 (Sum.inr ((s.1,(s.2.1,s.2.2.1)))) else
 (ai (List.set s.1 (Int.toNat s.2.2.2) (List.getD s.1 (Int.toNat (ae (s.2.2.2- (1:Int)))) (0:Int))) fun aq=>
 (ai (List.set aq (Int.toNat (ae (s.2.2.2- (1:Int)))) (List.getD s.1 (Int.toNat s.2.2.2) (0:Int))) fun y_2=>
 (Sum.inl (y_2,(s.2.1,(s.2.2.1,(ae (s.2.2.2+(1:Int))))))))))) else
 (Sum.inr ((s.1,(s.2.1,s.2.2.1)))))
def dx (x:((List Int)×(Int×(Int×((List I9)×Int))))) (s:((List Int)×I3)):Prop:=
 ((s.2.2.2<x.2.2.1)->
 ((((0:Int)<=s.2.2.2)/\ (s.2.2.2<(s.1.length:Int)))/\
 (((Int.toNat s.2.2.2)<(List.length s.1))/\
 (((Int.toNat s.2.2.2)<(List.length s.1))/\
 ((((0:Int)<=(ae (s.2.2.2- (1:Int))))/\ ((ae (s.2.2.2- (1:Int)))<(s.1.length:Int)))/\
 (((Int.toNat (ae (s.2.2.2- (1:Int))))<(List.length s.1))/\
 (((Int.toNat (ae (s.2.2.2- (1:Int))))<(List.length s.1))/\
 ((bO (x.2.2.2,((List.getD s.1 (Int.toNat s.2.2.2) (0:Int)),(List.getD s.1 (Int.toNat (ae (s.2.2.2- (1:Int)))) (0:Int)))))/\
 ay (j8 (x.2.2.2,((List.getD s.1 (Int.toNat s.2.2.2) (0:Int)),(List.getD s.1 (Int.toNat (ae (s.2.2.2- (1:Int)))) (0:Int))))) fun y=>
 (¬((!(decide (y<(0:Int))))=true)->
 ((((0:Int)<=(ae (s.2.2.2- (1:Int))))/\ ((ae (s.2.2.2- (1:Int)))<(s.1.length:Int)))/\
 (((Int.toNat (ae (s.2.2.2- (1:Int))))<(List.length s.1))/\
 (((Int.toNat (ae (s.2.2.2- (1:Int))))<(List.length s.1))/\
 ((((0:Int)<=s.2.2.2)/\ (s.2.2.2<(s.1.length:Int)))/\
 (((Int.toNat s.2.2.2)<(List.length s.1))/\
 (((Int.toNat s.2.2.2)<(List.length s.1))/\
 ((((0:Int)<=s.2.2.2)/\ (s.2.2.2<(s.1.length:Int)))/\
 (((Int.toNat s.2.2.2)<(List.length s.1))/\
 (((Int.toNat s.2.2.2)<(List.length s.1))/\
 (ay (List.set s.1 (Int.toNat s.2.2.2) (List.getD s.1 (Int.toNat (ae (s.2.2.2- (1:Int)))) (0:Int))) fun aq=>
 ((((0:Int)<=(ae (s.2.2.2- (1:Int))))/\ ((ae (s.2.2.2- (1:Int)))<(aq.length:Int)))/\
 (((Int.toNat (ae (s.2.2.2- (1:Int))))<(List.length aq))/\
 ((Int.toNat (ae (s.2.2.2- (1:Int))))<(List.length aq)))))))))))))))))))))))
def qg (x:((List Int)×(Int×(Int×((List I9)×Int))))) (s:((List Int)×I3)):Tr (((List Int)×I3)⊕((List Int)×I2)) true:=
 (.i10 (s.2.2.2<x.2.2.1)
 (.cf s.2.2.2 s.1
 (.cf (wm s.2.2.2) s.1
 (.fn dO (x.2.2.2,((gI s.1 s.2.2.2),(gI s.1 (wm s.2.2.2)))) fun y=>
 (.zo (!(decide (y<z0)))
 (.ret (.inr ((s.1,(s.2.1,s.2.2.1)))))
 (.cf (wm s.2.2.2) s.1
 (.cf s.2.2.2 s.1
 (.cf s.2.2.2 s.1
 (.lt (List.set s.1 (tN s.2.2.2) (gI s.1 (wm s.2.2.2))) fun aq=>
 (.cf (wm s.2.2.2) aq
 (.lt (List.set aq (tN (wm s.2.2.2)) (gI s.1 s.2.2.2)) fun y_2=>
 (.ret (.inl (y_2,(s.2.1,(s.2.2.1,(w1 s.2.2.2))))))))))))))))
 (.ret (.inr ((s.1,(s.2.1,s.2.2.1))))))
def Bx (x:((List Int)×(Int×(Int×((List I9)×Int))))):aS:=⟨[.env],⟨ej 141 0 [(0,.v (.one (.full 0))),(1,.v (.one (.i .i64))),(2,.v (.one (.i .i64))),(3,.v (.one (.mv 37 true [.full 1,.ext]))),(9,.v (.one (.i .i64))),(10,.v (.one (.i .i64)))],[.row yi 1,.row cH 0,.de 2],3,none,[7],[0,1,2,6],[5,3,4],[(.l yi),.i,.i],[.i x.2.1,.i x.2.2.1,.v (.int .i64 x.2.2.2.2),.l cH x.2.2.2.1]⟩,[⟨.ret,.ret,⟨ej 141 0 [(8,.v (.one (.b)))],[.row yi 1,.row cH 0,.de 2],3,none,[3],[2],[1,0],[(.l yi),.b],[.l cH x.2.2.2.1]⟩⟩,⟨(.exit 0),.normal,⟨ej 141 0 [],[.row yi 1,.row cH 0,.de 2],3,none,[2],[1],[0],[(.l yi)],[.l cH x.2.2.2.1]⟩⟩]⟩
def bE (x:((List Int)×(Int×(Int×((List I9)×Int))))) (s:((List Int)×I2)):((List Int)×I2)⊕(((List Int)×Bool)⊕(List Int)):=
 (if (s.2.2<(5:Int)) then
 (ai (run (c9 x) (s.1,(s.2.1,s.2.2))) fun r=>
 (if ((r.2.1==x.2.2.1)=true) then
 (Sum.inr (Sum.inl (r.1,true))) else
 (if ((ae (x.2.2.1- x.2.1))<(50:Int)) then
 (Sum.inr (Sum.inl (r.1,false))) else
 (ai (List.set r.1 (Int.toNat r.2.1) (List.getD r.1 (Int.toNat (ae (r.2.1- (1:Int)))) (0:Int))) fun y=>
 (ai (List.set y (Int.toNat (ae (r.2.1- (1:Int)))) (List.getD r.1 (Int.toNat r.2.1) (0:Int))) fun aq=>
 (if ((ae (r.2.1- x.2.1))>=(2:Int)) then
 (ai (run (da x) (aq,(r.2.1,(r.2.2,(ae (r.2.1- (1:Int))))))) fun r_1=>
 (if ((ae (x.2.2.1- r_1.2.1))>=(2:Int)) then
 (ai (run (bu x) (r_1.1,(r_1.2.1,(r_1.2.2,(ae (r_1.2.1+(1:Int))))))) fun r_2=>
 (Sum.inl (r_2.1,(r_2.2.1,(ae (r_2.2.2+(1:Int))))))) else
 (Sum.inl (r_1.1,(r_1.2.1,(ae (r_1.2.2+(1:Int)))))))) else
 (if ((ae (x.2.2.1- r.2.1))>=(2:Int)) then
 (ai (run (bu x) (aq,(r.2.1,(r.2.2,(ae (r.2.1+(1:Int))))))) fun r_1=>
 (Sum.inl (r_1.1,(r_1.2.1,(ae (r_1.2.2+(1:Int))))))) else
 (Sum.inl (aq,(r.2.1,(ae (r.2.2+(1:Int))))))))))))) else
 (Sum.inr (Sum.inr (s.1))))
def dw (x:((List Int)×(Int×(Int×((List I9)×Int))))) (s:((List Int)×I2)):Prop:=
 ((s.2.2<(5:Int))->
 (Term (c9 x) (jT x) (s.1,(s.2.1,s.2.2))/\
 ay (run (c9 x) (s.1,(s.2.1,s.2.2))) fun r=>
 (¬((r.2.1==x.2.2.1)=true)->
 (¬((ae (x.2.2.1- x.2.1))<(50:Int))->
 ((((0:Int)<=(ae (r.2.1- (1:Int))))/\ ((ae (r.2.1- (1:Int)))<(r.1.length:Int)))/\
 (((Int.toNat (ae (r.2.1- (1:Int))))<(List.length r.1))/\
 (((Int.toNat (ae (r.2.1- (1:Int))))<(List.length r.1))/\
 ((((0:Int)<=r.2.1)/\ (r.2.1<(r.1.length:Int)))/\
 (((Int.toNat r.2.1)<(List.length r.1))/\
 (((Int.toNat r.2.1)<(List.length r.1))/\
 ((((0:Int)<=r.2.1)/\ (r.2.1<(r.1.length:Int)))/\
 (((Int.toNat r.2.1)<(List.length r.1))/\
 (((Int.toNat r.2.1)<(List.length r.1))/\
 (ay (List.set r.1 (Int.toNat r.2.1) (List.getD r.1 (Int.toNat (ae (r.2.1- (1:Int)))) (0:Int))) fun y=>
 ((((0:Int)<=(ae (r.2.1- (1:Int))))/\ ((ae (r.2.1- (1:Int)))<(y.length:Int)))/\
 (((Int.toNat (ae (r.2.1- (1:Int))))<(List.length y))/\
 (((Int.toNat (ae (r.2.1- (1:Int))))<(List.length y))/\
 (ay (List.set y (Int.toNat (ae (r.2.1- (1:Int)))) (List.getD r.1 (Int.toNat r.2.1) (0:Int))) fun aq=>
 ((((ae (r.2.1- x.2.1))>=(2:Int))->
 (Term (da x) (ij x) (aq,(r.2.1,(r.2.2,(ae (r.2.1- (1:Int))))))/\
 ay (run (da x) (aq,(r.2.1,(r.2.2,(ae (r.2.1- (1:Int))))))) fun r_1=>
 (((ae (x.2.2.1- r_1.2.1))>=(2:Int))->
 (Term (bu x) (dx x) (r_1.1,(r_1.2.1,(r_1.2.2,(ae (r_1.2.1+(1:Int))))))))))/\
 (¬((ae (r.2.1- x.2.1))>=(2:Int))->
 (((ae (x.2.2.1- r.2.1))>=(2:Int))->
 (Term (bu x) (dx x) (aq,(r.2.1,(r.2.2,(ae (r.2.1+(1:Int))))))))))))))))))))))))))))
def vY (x:((List Int)×(Int×(Int×((List I9)×Int))))) (s:((List Int)×I2)):Tr (((List Int)×I2)⊕(((List Int)×Bool)⊕(List Int))) true:=
 (.i10 (s.2.2<(5:Int))
 (aS.lp (By x) (vZ x) (s.1,(s.2.1,s.2.2)) fun r=>
 (.zo (r.2.1==x.2.2.1)
 (.ret (.inr (Sum.inl (r.1,true))))
 (.Ja ((ae (x.2.2.1- x.2.1))<(50:Int))
 (.ret (.inr (Sum.inl (r.1,false))))
 (.cf (wm r.2.1) r.1
 (.cf r.2.1 r.1
 (.cf r.2.1 r.1
 (.lt (List.set r.1 (tN r.2.1) (gI r.1 (wm r.2.1))) fun y=>
 (.cf (wm r.2.1) y
 (.lt (List.set y (tN (wm r.2.1)) (gI r.1 r.2.1)) fun aq=>
 (.i11 ((ae (r.2.1- x.2.1))>=(2:Int))
 (aS.lp (Bz x) (v7 x) (aq,(r.2.1,(r.2.2,(wm r.2.1)))) fun r_1=>
 (.i10 ((ae (x.2.2.1- r_1.2.1))>=(2:Int))
 (aS.lp (uE x) (qg x) (r_1.1,(r_1.2.1,(r_1.2.2,(w1 r_1.2.1)))) fun r_2=>
 (.ret (.inl (r_2.1,(r_2.2.1,(w1 r_2.2.2))))))
 (.ret (.inl (r_1.1,(r_1.2.1,(w1 r_1.2.2)))))))
 (.i10 ((ae (x.2.2.1- r.2.1))>=(2:Int))
 (aS.lp (uE x) (qg x) (aq,(r.2.1,(r.2.2,(w1 r.2.1)))) fun r_1=>
 (.ret (.inl (r_1.1,(r_1.2.1,(w1 r_1.2.2))))))
 (.ret (.inl (aq,(r.2.1,(w1 r.2.2))))))))))))))))
 (.ret (.inr (Sum.inr (s.1)))))
def lN (x:((List Int)×(Int×(Int×((List I9)×Int))))):(Bool×((List Int)×(Bool×(Bool×Bool)))):=
 (ai (run (bE x) (x.1,((ae (x.2.1+(1:Int))),(0:Int)))) fun r=>
 (Sum.elim (fun a=>
 (a.2,(a.1,(false,(false,false))))) (fun b=>
 (false,(b,(false,(false,false))))) r))
def jx (x:((List Int)×(Int×(Int×((List I9)×Int))))):Prop:=
 (Term (bE x) (dw x) (x.1,((ae (x.2.1+(1:Int))),(0:Int)))/\
 ay (run (bE x) (x.1,((ae (x.2.1+(1:Int))),(0:Int)))) fun r=>
 (cS r (fun a=>
 ((List.length a.1)=(List.length x.1))) (fun b=>
 ((List.length b)=(List.length x.1)))))
def R5 (x:((List Int)×(Int×(Int×((List I9)×Int))))):Tr (Bool×((List Int)×(Bool×(Bool×Bool)))) true:=
 (aS.lp (Bx x) (vY x) (x.1,((w1 x.2.1),z0)) fun r=>
 (.s11 r (fun a=>
 (.pn 0 2
 (.og ((decide ((List.length a.1)=(List.length x.1)))&&true) ((List.length a.1)=(List.length x.1)) (fun h=>(cj (decide_eq_true h) rfl))
 (.ret (a.2,(a.1,(false,(false,false)))))))) (fun b=>
 (.pn 0 2
 (.og ((decide ((List.length b)=(List.length x.1)))&&true) ((List.length b)=(List.length x.1)) (fun h=>(cj (decide_eq_true h) rfl))
 (.ret (false,(b,(false,(false,false))))))))))
abbrev qf:Cz:=⟨(.pair (.row yi) (.pair (.val (.one yi)) (.pair (.val (.one yi)) (.val uc)))),(.one Ty.bool),jx,lN⟩
theorem Pw:av Try.prog 61 (bC qf):=av.Ln qf R5 (fn:=Try.f61) aQ jz mixed (by kernel_rfl) (aD.nil _ _) (fun x=>(aB.tr aQ (ah.fe jz (aD.nil _ _)) mixed 0 (Bx x) (vY x) (aB.tr aQ (ah.fe jz (aD.nil _ _)) mixed 2 (By x) (vZ x) (aB.tr aQ (ah.fe jz (aD.nil _ _)) mixed 4 (Bz x) (v7 x) (aB.tr aQ (ah.fe jz (aD.nil _ _)) mixed 6 (uE x) (qg x) aB.nil (by kernel_rfl) fun g s Q=>(by kernel_rfl)) (by kernel_rfl) fun g s Q=>(by kernel_rfl)) (by kernel_rfl) fun g s Q=>(by kernel_rfl)) (by kernel_rfl) fun g s Q=>(by kernel_rfl))) (fun x=>(by kernel_rfl)) fun x r0 Q=>(by kernel_rfl)
def Cd:List (Nat×Ev.Spec):=(61,bC qf)::HQ
theorem ze:ah Try.prog Cd:=ah.add (fn:=Try.f61) (by kernel_rfl) Pw jz
end Go.Proofs.Ytaipcbdilkcdbaa
