/- Models of slices' functions that sort. -/
import Derived.Test.YtlkgabjhkfhgaaaGreatCm
noncomputable section
set_option linter.unusedSectionVars false
set_option linter.unusedVariables false
set_option linter.unusedSimpArgs false
namespace Go.Proofs.YtlkgabjhkfhgaaaGreat
open Go Go.Ev Go.Proofs
def E0 (x:((List Int)×(Int×(Int×((List I9)×Int))))):aI:=⟨[.env],⟨cA 34 0 [(0,.v (.one (.full 0))),(8,.v (.one (.i .i64))),(9,.v (.one (.i .i64)))],[.row yi 1,.row bP 0,.dO 2],3,none,[4],[3],[2,0,1],[(.l yi),.i,.i],[.l bP x.2.2.2.1]⟩,[⟨(.exit 0),.normal,⟨cA 34 0 [],[.row yi 1,.row bP 0,.dO 2],3,none,[2],[1],[0],[(.l yi)],[.l bP x.2.2.2.1]⟩⟩]⟩
def dP (x:((List Int)×(Int×(Int×((List I9)×Int))))) (s:((List Int)×I2)):((List Int)×I2)⊕(List Int):=
 (if (s.2.1<s.2.2) then
 (ai (List.set s.1 (Int.toNat s.2.1) (List.getD s.1 (Int.toNat s.2.2) (0:Int))) fun y=>
 (ai (List.set y (Int.toNat s.2.2) (List.getD s.1 (Int.toNat s.2.1) (0:Int))) fun aq=>
 (Sum.inl (aq,((ae (s.2.1+(1:Int))),(ae (s.2.2- (1:Int)))))))) else
 (Sum.inr (s.1)))
def iN (x:((List Int)×(Int×(Int×((List I9)×Int))))) (s:((List Int)×I2)):Prop:=
 ((s.2.1<s.2.2)->
 ((((0:Int)<=s.2.2)/\ (s.2.2<(s.1.length:Int)))/\
 (((Int.toNat s.2.2)<(List.length s.1))/\
 (((Int.toNat s.2.2)<(List.length s.1))/\
 ((((0:Int)<=s.2.1)/\ (s.2.1<(s.1.length:Int)))/\
 (((Int.toNat s.2.1)<(List.length s.1))/\
 (((Int.toNat s.2.1)<(List.length s.1))/\
 ((((0:Int)<=s.2.1)/\ (s.2.1<(s.1.length:Int)))/\
 (((Int.toNat s.2.1)<(List.length s.1))/\
 (((Int.toNat s.2.1)<(List.length s.1))/\
 (az (List.set s.1 (Int.toNat s.2.1) (List.getD s.1 (Int.toNat s.2.2) (0:Int))) fun y=>
 ((((0:Int)<=s.2.2)/\ (s.2.2<(y.length:Int)))/\
 (((Int.toNat s.2.2)<(List.length y))/\
 ((Int.toNat s.2.2)<(List.length y)))))))))))))))
def ze (x:((List Int)×(Int×(Int×((List I9)×Int))))) (s:((List Int)×I2)):Tr (((List Int)×I2)⊕(List Int)) true:=
 (.i10 (s.2.1<s.2.2)
 (.bO s.2.2 s.1
 (.bO s.2.1 s.1
 (.bO s.2.1 s.1
 (.lt (List.set s.1 (tN s.2.1) (gI s.1 s.2.2)) fun y=>
 (.bO s.2.2 y
 (.lt (List.set y (tN s.2.2) (gI s.1 s.2.1)) fun aq=>
 (.ret (.inl (aq,((w1 s.2.1),(wm s.2.2)))))))))))
 (.ret (.inr (s.1))))
def DL (x:((List Int)×(Int×(Int×((List I9)×Int))))):(Bool×((List Int)×(Bool×(Bool×Bool)))):=
 (ai (run (dP x) (x.1,(x.2.1,(ae (x.2.2.1- (1:Int)))))) fun r=>
 (false,(r,(false,(false,false)))))
def oS (x:((List Int)×(Int×(Int×((List I9)×Int))))):Prop:=
 (Term (dP x) (iN x) (x.1,(x.2.1,(ae (x.2.2.1- (1:Int)))))/\
 az (run (dP x) (x.1,(x.2.1,(ae (x.2.2.1- (1:Int)))))) fun r=>
 ((List.length r)=(List.length x.1)))
def XH (x:((List Int)×(Int×(Int×((List I9)×Int))))):Tr (Bool×((List Int)×(Bool×(Bool×Bool)))) true:=
 (aI.lp (E0 x) (ze x) (x.1,(x.2.1,(wm x.2.2.1))) fun r=>
 (.pn 0 2
 (.og ((decide ((List.length r)=(List.length x.1)))&&true) ((List.length r)=(List.length x.1)) (fun h=>(c7 (decide_eq_true h) rfl))
 (.ret (false,(r,(false,(false,false))))))))
abbrev Ci:Dh:=⟨(.pair (.row yi) (.pair (.val (.one yi)) (.pair (.val (.one yi)) (.val ug)))),.none,oS,DL⟩
theorem Vl:ak Tryz.prog 133 (bf Ci):=ak.Ly Ci XH (fn:=Tryz.f133) aC yh mixed (by kernel_rfl) (aA.nil _ _) (fun x=>(aB.tr aC (ah.c8 yh (aA.nil _ _)) mixed 0 (E0 x) (ze x) aB.nil (by kernel_rfl) fun g s Q=>(by kernel_rfl))) (fun x=>(by kernel_rfl)) fun x r0 Q=>(by kernel_rfl)
def M0:List (Nat×Ev.Spec):=(133,bf Ci)::SD
theorem qi:ah Tryz.prog M0:=ah.add (fn:=Tryz.f133) (by kernel_rfl) Vl yh
def Eu (x:((List Int)×(Int×(Int×((List I9)×Int))))):aI:=⟨[.env],⟨cA 53 0 [(0,.v (.one (.full 0))),(1,.v (.one (.i .i64))),(2,.v (.one (.i .i64))),(3,.v (.one (.mv 73 true [.full 1,.ext]))),(8,.v (.one (.i .i64))),(9,.v (.one (.i .i64)))],[.row yi 1,.row bP 0,.dO 2],3,none,[7],[0,1,2,6],[5,3,4],[(.l yi),.i,.i],[.i x.2.1,.i x.2.2.1,.v (.int .i64 x.2.2.2.2),.l bP x.2.2.2.1]⟩,[⟨(.exit 2),.normal,⟨cA 53 0 [(0,.v (.one (.full 0))),(1,.v (.one (.i .i64))),(2,.v (.one (.i .i64))),(3,.v (.one (.mv 73 true [.full 1,.ext]))),(8,.v (.one (.i .i64)))],[.row yi 1,.row bP 0,.dO 2],3,none,[6],[0,1,2,5],[4,3],[(.l yi),.i],[.i x.2.1,.i x.2.2.1,.v (.int .i64 x.2.2.2.2),.l bP x.2.2.2.1]⟩⟩]⟩
def c9 (x:((List Int)×(Int×(Int×((List I9)×Int))))) (s:((List Int)×I2)):((List Int)×I2)⊕((List Int)×Int):=
 (if (s.2.2>x.2.1) then
 (ai (jQ (x.2.2.2,((List.getD s.1 (Int.toNat s.2.2) (0:Int)),(List.getD s.1 (Int.toNat (ae (s.2.2- (1:Int)))) (0:Int))))) fun y=>
 (if (y<(0:Int)) then
 (ai (List.set s.1 (Int.toNat s.2.2) (List.getD s.1 (Int.toNat (ae (s.2.2- (1:Int)))) (0:Int))) fun aq=>
 (ai (List.set aq (Int.toNat (ae (s.2.2- (1:Int)))) (List.getD s.1 (Int.toNat s.2.2) (0:Int))) fun y_2=>
 (Sum.inl (y_2,(s.2.1,(ae (s.2.2- (1:Int)))))))) else
 (Sum.inr ((s.1,s.2.1))))) else
 (Sum.inr ((s.1,s.2.1))))
def gl (x:((List Int)×(Int×(Int×((List I9)×Int))))) (s:((List Int)×I2)):Prop:=
 ((s.2.2>x.2.1)->
 ((((0:Int)<=s.2.2)/\ (s.2.2<(s.1.length:Int)))/\
 (((Int.toNat s.2.2)<(List.length s.1))/\
 (((Int.toNat s.2.2)<(List.length s.1))/\
 ((((0:Int)<=(ae (s.2.2- (1:Int))))/\ ((ae (s.2.2- (1:Int)))<(s.1.length:Int)))/\
 (((Int.toNat (ae (s.2.2- (1:Int))))<(List.length s.1))/\
 (((Int.toNat (ae (s.2.2- (1:Int))))<(List.length s.1))/\
 ((bI (x.2.2.2,((List.getD s.1 (Int.toNat s.2.2) (0:Int)),(List.getD s.1 (Int.toNat (ae (s.2.2- (1:Int)))) (0:Int)))))/\
 az (jQ (x.2.2.2,((List.getD s.1 (Int.toNat s.2.2) (0:Int)),(List.getD s.1 (Int.toNat (ae (s.2.2- (1:Int)))) (0:Int))))) fun y=>
 ((y<(0:Int))->
 ((((0:Int)<=(ae (s.2.2- (1:Int))))/\ ((ae (s.2.2- (1:Int)))<(s.1.length:Int)))/\
 (((Int.toNat (ae (s.2.2- (1:Int))))<(List.length s.1))/\
 (((Int.toNat (ae (s.2.2- (1:Int))))<(List.length s.1))/\
 ((((0:Int)<=s.2.2)/\ (s.2.2<(s.1.length:Int)))/\
 (((Int.toNat s.2.2)<(List.length s.1))/\
 (((Int.toNat s.2.2)<(List.length s.1))/\
 ((((0:Int)<=s.2.2)/\ (s.2.2<(s.1.length:Int)))/\
 (((Int.toNat s.2.2)<(List.length s.1))/\
 (((Int.toNat s.2.2)<(List.length s.1))/\
 (az (List.set s.1 (Int.toNat s.2.2) (List.getD s.1 (Int.toNat (ae (s.2.2- (1:Int)))) (0:Int))) fun aq=>
 ((((0:Int)<=(ae (s.2.2- (1:Int))))/\ ((ae (s.2.2- (1:Int)))<(aq.length:Int)))/\
 (((Int.toNat (ae (s.2.2- (1:Int))))<(List.length aq))/\
 ((Int.toNat (ae (s.2.2- (1:Int))))<(List.length aq)))))))))))))))))))))))
def yV (x:((List Int)×(Int×(Int×((List I9)×Int))))) (s:((List Int)×I2)):Tr (((List Int)×I2)⊕((List Int)×Int)) true:=
 (.i10 (s.2.2>x.2.1)
 (.bO s.2.2 s.1
 (.bO (wm s.2.2) s.1
 (.fn dy (x.2.2.2,((gI s.1 s.2.2),(gI s.1 (wm s.2.2)))) fun y=>
 (.i10 (y<z0)
 (.bO (wm s.2.2) s.1
 (.bO s.2.2 s.1
 (.bO s.2.2 s.1
 (.lt (List.set s.1 (tN s.2.2) (gI s.1 (wm s.2.2))) fun aq=>
 (.bO (wm s.2.2) aq
 (.lt (List.set aq (tN (wm s.2.2)) (gI s.1 s.2.2)) fun y_2=>
 (.ret (.inl (y_2,(s.2.1,(wm s.2.2)))))))))))
 (.ret (.inr ((s.1,s.2.1))))))))
 (.ret (.inr ((s.1,s.2.1)))))
def Et (x:((List Int)×(Int×(Int×((List I9)×Int))))):aI:=⟨[.env],⟨cA 53 0 [(0,.v (.one (.full 0))),(1,.v (.one (.i .i64))),(2,.v (.one (.i .i64))),(3,.v (.one (.mv 73 true [.full 1,.ext]))),(8,.v (.one (.i .i64)))],[.row yi 1,.row bP 0,.dO 2],3,none,[6],[0,1,2,5],[4,3],[(.l yi),.i],[.i x.2.1,.i x.2.2.1,.v (.int .i64 x.2.2.2.2),.l bP x.2.2.2.1]⟩,[⟨(.exit 0),.normal,⟨cA 53 0 [],[.row yi 1,.row bP 0,.dO 2],3,none,[2],[1],[0],[(.l yi)],[.l bP x.2.2.2.1]⟩⟩]⟩
def dK (x:((List Int)×(Int×(Int×((List I9)×Int))))) (s:((List Int)×Int)):((List Int)×Int)⊕(List Int):=
 (if (s.2<x.2.2.1) then
 (ai (run (c9 x) (s.1,(s.2,s.2))) fun r=>
 (Sum.inl (r.1,(ae (r.2+(1:Int)))))) else
 (Sum.inr (s.1)))
def iH (x:((List Int)×(Int×(Int×((List I9)×Int))))) (s:((List Int)×Int)):Prop:=
 ((s.2<x.2.2.1)->
 (Term (c9 x) (gl x) (s.1,(s.2,s.2))))
def yU (x:((List Int)×(Int×(Int×((List I9)×Int))))) (s:((List Int)×Int)):Tr (((List Int)×Int)⊕(List Int)) true:=
 (.i10 (s.2<x.2.2.1)
 (aI.lp (Eu x) (yV x) (s.1,(s.2,s.2)) fun r=>
 (.ret (.inl (r.1,(w1 r.2)))))
 (.ret (.inr (s.1))))
def KI (x:((List Int)×(Int×(Int×((List I9)×Int))))):(Bool×((List Int)×(Bool×(Bool×Bool)))):=
 (ai (run (dK x) (x.1,(ae (x.2.1+(1:Int))))) fun r=>
 (false,(r,(false,(false,false)))))
def rE (x:((List Int)×(Int×(Int×((List I9)×Int))))):Prop:=
 (Term (dK x) (iH x) (x.1,(ae (x.2.1+(1:Int))))/\
 az (run (dK x) (x.1,(ae (x.2.1+(1:Int))))) fun r=>
 ((List.length r)=(List.length x.1)))
def Xa (x:((List Int)×(Int×(Int×((List I9)×Int))))):Tr (Bool×((List Int)×(Bool×(Bool×Bool)))) true:=
 (aI.lp (Et x) (yU x) (x.1,(w1 x.2.1)) fun r=>
 (.pn 0 2
 (.og ((decide ((List.length r)=(List.length x.1)))&&true) ((List.length r)=(List.length x.1)) (fun h=>(c7 (decide_eq_true h) rfl))
 (.ret (false,(r,(false,(false,false))))))))
abbrev Gl:Dh:=⟨(.pair (.row yi) (.pair (.val (.one yi)) (.pair (.val (.one yi)) (.val ug)))),.none,rE,KI⟩
theorem Ug:ak Tryz.prog 129 (bf Gl):=ak.Ly Gl Xa (fn:=Tryz.f129) aC qi mixed (by kernel_rfl) (aA.nil _ _) (fun x=>(aB.tr aC (ah.c8 qi (aA.nil _ _)) mixed 0 (Et x) (yU x) (aB.tr aC (ah.c8 qi (aA.nil _ _)) mixed 2 (Eu x) (yV x) aB.nil (by kernel_rfl) fun g s Q=>(by kernel_rfl)) (by kernel_rfl) fun g s Q=>(by kernel_rfl))) (fun x=>(by kernel_rfl)) fun x r0 Q=>(by kernel_rfl)
def MR:List (Nat×Ev.Spec):=(129,bf Gl)::M0
theorem uU:ah Tryz.prog MR:=ah.add (fn:=Tryz.f129) (by kernel_rfl) Ug qi
def Co (x:((List Int)×(Int×(Int×(Int×((List I9)×Int)))))):aI:=⟨[.env],⟨cA 82 0 [(0,.v (.one (.full 0))),(2,.v (.one (.i .i64))),(3,.v (.one (.i .i64))),(4,.v (.one (.mv 73 true [.full 1,.ext]))),(10,.v (.one (.i .i64)))],[.row yi 1,.row bP 0,.dO 2],3,none,[6],[0,1,2,5],[4,3],[(.l yi),.i],[.i x.2.2.1,.i x.2.2.2.1,.v (.int .i64 x.2.2.2.2.2),.l bP x.2.2.2.2.1]⟩,[⟨(.exit 0),.normal,⟨cA 82 0 [],[.row yi 1,.row bP 0,.dO 2],3,none,[2],[1],[0],[(.l yi)],[.l bP x.2.2.2.2.1]⟩⟩,⟨.ret,.ret,⟨cA 82 0 [],[.row yi 1,.row bP 0,.dO 2],3,none,[2],[1],[0],[(.l yi)],[.l bP x.2.2.2.2.1]⟩⟩]⟩
def bk (x:((List Int)×(Int×(Int×(Int×((List I9)×Int)))))) (s:((List Int)×Int)):((List Int)×Int)⊕((List Int)⊕(List Int)):=
 (if ((ae ((ae ((2:Int)*s.2))+(1:Int)))>=x.2.2.1) then
 (Sum.inr (Sum.inl s.1)) else
 (if ((ae ((ae ((ae ((2:Int)*s.2))+(1:Int)))+(1:Int)))<x.2.2.1) then
 (ai (jQ (x.2.2.2.2,((List.getD s.1 (Int.toNat (ae (x.2.2.2.1+(ae ((ae ((2:Int)*s.2))+(1:Int)))))) (0:Int)),(List.getD s.1 (Int.toNat (ae ((ae (x.2.2.2.1+(ae ((ae ((2:Int)*s.2))+(1:Int)))))+(1:Int)))) (0:Int))))) fun y=>
 (if (y<(0:Int)) then
 (ai (jQ (x.2.2.2.2,((List.getD s.1 (Int.toNat (ae (x.2.2.2.1+s.2))) (0:Int)),(List.getD s.1 (Int.toNat (ae (x.2.2.2.1+(ae ((ae ((ae ((2:Int)*s.2))+(1:Int)))+(1:Int)))))) (0:Int))))) fun aq=>
 (if ((!(decide (aq<(0:Int))))=true) then
 (Sum.inr (Sum.inr (s.1))) else
 (ai (List.set s.1 (Int.toNat (ae (x.2.2.2.1+s.2))) (List.getD s.1 (Int.toNat (ae (x.2.2.2.1+(ae ((ae ((ae ((2:Int)*s.2))+(1:Int)))+(1:Int)))))) (0:Int))) fun y_2=>
 (ai (List.set y_2 (Int.toNat (ae (x.2.2.2.1+(ae ((ae ((ae ((2:Int)*s.2))+(1:Int)))+(1:Int)))))) (List.getD s.1 (Int.toNat (ae (x.2.2.2.1+s.2))) (0:Int))) fun au=>
 (Sum.inl (au,(ae ((ae ((ae ((2:Int)*s.2))+(1:Int)))+(1:Int))))))))) else
 (ai (jQ (x.2.2.2.2,((List.getD s.1 (Int.toNat (ae (x.2.2.2.1+s.2))) (0:Int)),(List.getD s.1 (Int.toNat (ae (x.2.2.2.1+(ae ((ae ((2:Int)*s.2))+(1:Int)))))) (0:Int))))) fun aq=>
 (if ((!(decide (aq<(0:Int))))=true) then
 (Sum.inr (Sum.inr (s.1))) else
 (ai (List.set s.1 (Int.toNat (ae (x.2.2.2.1+s.2))) (List.getD s.1 (Int.toNat (ae (x.2.2.2.1+(ae ((ae ((2:Int)*s.2))+(1:Int)))))) (0:Int))) fun y_2=>
 (ai (List.set y_2 (Int.toNat (ae (x.2.2.2.1+(ae ((ae ((2:Int)*s.2))+(1:Int)))))) (List.getD s.1 (Int.toNat (ae (x.2.2.2.1+s.2))) (0:Int))) fun au=>
 (Sum.inl (au,(ae ((ae ((2:Int)*s.2))+(1:Int))))))))))) else
 (ai (jQ (x.2.2.2.2,((List.getD s.1 (Int.toNat (ae (x.2.2.2.1+s.2))) (0:Int)),(List.getD s.1 (Int.toNat (ae (x.2.2.2.1+(ae ((ae ((2:Int)*s.2))+(1:Int)))))) (0:Int))))) fun y=>
 (if ((!(decide (y<(0:Int))))=true) then
 (Sum.inr (Sum.inr (s.1))) else
 (ai (List.set s.1 (Int.toNat (ae (x.2.2.2.1+s.2))) (List.getD s.1 (Int.toNat (ae (x.2.2.2.1+(ae ((ae ((2:Int)*s.2))+(1:Int)))))) (0:Int))) fun aq=>
 (ai (List.set aq (Int.toNat (ae (x.2.2.2.1+(ae ((ae ((2:Int)*s.2))+(1:Int)))))) (List.getD s.1 (Int.toNat (ae (x.2.2.2.1+s.2))) (0:Int))) fun y_2=>
 (Sum.inl (y_2,(ae ((ae ((2:Int)*s.2))+(1:Int)))))))))))
def fh (x:((List Int)×(Int×(Int×(Int×((List I9)×Int)))))) (s:((List Int)×Int)):Prop:=
 (¬((ae ((ae ((2:Int)*s.2))+(1:Int)))>=x.2.2.1)->
 ((((ae ((ae ((ae ((2:Int)*s.2))+(1:Int)))+(1:Int)))<x.2.2.1)->
 ((((0:Int)<=(ae (x.2.2.2.1+(ae ((ae ((2:Int)*s.2))+(1:Int))))))/\ ((ae (x.2.2.2.1+(ae ((ae ((2:Int)*s.2))+(1:Int)))))<(s.1.length:Int)))/\
 (((Int.toNat (ae (x.2.2.2.1+(ae ((ae ((2:Int)*s.2))+(1:Int))))))<(List.length s.1))/\
 (((Int.toNat (ae (x.2.2.2.1+(ae ((ae ((2:Int)*s.2))+(1:Int))))))<(List.length s.1))/\
 ((((0:Int)<=(ae ((ae (x.2.2.2.1+(ae ((ae ((2:Int)*s.2))+(1:Int)))))+(1:Int))))/\ ((ae ((ae (x.2.2.2.1+(ae ((ae ((2:Int)*s.2))+(1:Int)))))+(1:Int)))<(s.1.length:Int)))/\
 (((Int.toNat (ae ((ae (x.2.2.2.1+(ae ((ae ((2:Int)*s.2))+(1:Int)))))+(1:Int))))<(List.length s.1))/\
 (((Int.toNat (ae ((ae (x.2.2.2.1+(ae ((ae ((2:Int)*s.2))+(1:Int)))))+(1:Int))))<(List.length s.1))/\
 ((bI (x.2.2.2.2,((List.getD s.1 (Int.toNat (ae (x.2.2.2.1+(ae ((ae ((2:Int)*s.2))+(1:Int)))))) (0:Int)),(List.getD s.1 (Int.toNat (ae ((ae (x.2.2.2.1+(ae ((ae ((2:Int)*s.2))+(1:Int)))))+(1:Int)))) (0:Int)))))/\
 az (jQ (x.2.2.2.2,((List.getD s.1 (Int.toNat (ae (x.2.2.2.1+(ae ((ae ((2:Int)*s.2))+(1:Int)))))) (0:Int)),(List.getD s.1 (Int.toNat (ae ((ae (x.2.2.2.1+(ae ((ae ((2:Int)*s.2))+(1:Int)))))+(1:Int)))) (0:Int))))) fun y=>
 (((y<(0:Int))->
 ((((0:Int)<=(ae (x.2.2.2.1+s.2)))/\ ((ae (x.2.2.2.1+s.2))<(s.1.length:Int)))/\
 (((Int.toNat (ae (x.2.2.2.1+s.2)))<(List.length s.1))/\
 (((Int.toNat (ae (x.2.2.2.1+s.2)))<(List.length s.1))/\
 ((((0:Int)<=(ae (x.2.2.2.1+(ae ((ae ((ae ((2:Int)*s.2))+(1:Int)))+(1:Int))))))/\ ((ae (x.2.2.2.1+(ae ((ae ((ae ((2:Int)*s.2))+(1:Int)))+(1:Int)))))<(s.1.length:Int)))/\
 (((Int.toNat (ae (x.2.2.2.1+(ae ((ae ((ae ((2:Int)*s.2))+(1:Int)))+(1:Int))))))<(List.length s.1))/\
 (((Int.toNat (ae (x.2.2.2.1+(ae ((ae ((ae ((2:Int)*s.2))+(1:Int)))+(1:Int))))))<(List.length s.1))/\
 ((bI (x.2.2.2.2,((List.getD s.1 (Int.toNat (ae (x.2.2.2.1+s.2))) (0:Int)),(List.getD s.1 (Int.toNat (ae (x.2.2.2.1+(ae ((ae ((ae ((2:Int)*s.2))+(1:Int)))+(1:Int)))))) (0:Int)))))/\
 az (jQ (x.2.2.2.2,((List.getD s.1 (Int.toNat (ae (x.2.2.2.1+s.2))) (0:Int)),(List.getD s.1 (Int.toNat (ae (x.2.2.2.1+(ae ((ae ((ae ((2:Int)*s.2))+(1:Int)))+(1:Int)))))) (0:Int))))) fun aq=>
 (¬((!(decide (aq<(0:Int))))=true)->
 ((((0:Int)<=(ae (x.2.2.2.1+(ae ((ae ((ae ((2:Int)*s.2))+(1:Int)))+(1:Int))))))/\ ((ae (x.2.2.2.1+(ae ((ae ((ae ((2:Int)*s.2))+(1:Int)))+(1:Int)))))<(s.1.length:Int)))/\
 (((Int.toNat (ae (x.2.2.2.1+(ae ((ae ((ae ((2:Int)*s.2))+(1:Int)))+(1:Int))))))<(List.length s.1))/\
 (((Int.toNat (ae (x.2.2.2.1+(ae ((ae ((ae ((2:Int)*s.2))+(1:Int)))+(1:Int))))))<(List.length s.1))/\
 ((((0:Int)<=(ae (x.2.2.2.1+s.2)))/\ ((ae (x.2.2.2.1+s.2))<(s.1.length:Int)))/\
 (((Int.toNat (ae (x.2.2.2.1+s.2)))<(List.length s.1))/\
 (((Int.toNat (ae (x.2.2.2.1+s.2)))<(List.length s.1))/\
 ((((0:Int)<=(ae (x.2.2.2.1+s.2)))/\ ((ae (x.2.2.2.1+s.2))<(s.1.length:Int)))/\
 (((Int.toNat (ae (x.2.2.2.1+s.2)))<(List.length s.1))/\
 (((Int.toNat (ae (x.2.2.2.1+s.2)))<(List.length s.1))/\
 (az (List.set s.1 (Int.toNat (ae (x.2.2.2.1+s.2))) (List.getD s.1 (Int.toNat (ae (x.2.2.2.1+(ae ((ae ((ae ((2:Int)*s.2))+(1:Int)))+(1:Int)))))) (0:Int))) fun y_2=>
 ((((0:Int)<=(ae (x.2.2.2.1+(ae ((ae ((ae ((2:Int)*s.2))+(1:Int)))+(1:Int))))))/\ ((ae (x.2.2.2.1+(ae ((ae ((ae ((2:Int)*s.2))+(1:Int)))+(1:Int)))))<(y_2.length:Int)))/\
 (((Int.toNat (ae (x.2.2.2.1+(ae ((ae ((ae ((2:Int)*s.2))+(1:Int)))+(1:Int))))))<(List.length y_2))/\
 ((Int.toNat (ae (x.2.2.2.1+(ae ((ae ((ae ((2:Int)*s.2))+(1:Int)))+(1:Int))))))<(List.length y_2)))))))))))))))))))))))/\
 (¬(y<(0:Int))->
 ((((0:Int)<=(ae (x.2.2.2.1+s.2)))/\ ((ae (x.2.2.2.1+s.2))<(s.1.length:Int)))/\
 (((Int.toNat (ae (x.2.2.2.1+s.2)))<(List.length s.1))/\
 (((Int.toNat (ae (x.2.2.2.1+s.2)))<(List.length s.1))/\
 ((((0:Int)<=(ae (x.2.2.2.1+(ae ((ae ((2:Int)*s.2))+(1:Int))))))/\ ((ae (x.2.2.2.1+(ae ((ae ((2:Int)*s.2))+(1:Int)))))<(s.1.length:Int)))/\
 (((Int.toNat (ae (x.2.2.2.1+(ae ((ae ((2:Int)*s.2))+(1:Int))))))<(List.length s.1))/\
 (((Int.toNat (ae (x.2.2.2.1+(ae ((ae ((2:Int)*s.2))+(1:Int))))))<(List.length s.1))/\
 ((bI (x.2.2.2.2,((List.getD s.1 (Int.toNat (ae (x.2.2.2.1+s.2))) (0:Int)),(List.getD s.1 (Int.toNat (ae (x.2.2.2.1+(ae ((ae ((2:Int)*s.2))+(1:Int)))))) (0:Int)))))/\
 az (jQ (x.2.2.2.2,((List.getD s.1 (Int.toNat (ae (x.2.2.2.1+s.2))) (0:Int)),(List.getD s.1 (Int.toNat (ae (x.2.2.2.1+(ae ((ae ((2:Int)*s.2))+(1:Int)))))) (0:Int))))) fun aq=>
 (¬((!(decide (aq<(0:Int))))=true)->
 ((((0:Int)<=(ae (x.2.2.2.1+(ae ((ae ((2:Int)*s.2))+(1:Int))))))/\ ((ae (x.2.2.2.1+(ae ((ae ((2:Int)*s.2))+(1:Int)))))<(s.1.length:Int)))/\
 (((Int.toNat (ae (x.2.2.2.1+(ae ((ae ((2:Int)*s.2))+(1:Int))))))<(List.length s.1))/\
 (((Int.toNat (ae (x.2.2.2.1+(ae ((ae ((2:Int)*s.2))+(1:Int))))))<(List.length s.1))/\
 ((((0:Int)<=(ae (x.2.2.2.1+s.2)))/\ ((ae (x.2.2.2.1+s.2))<(s.1.length:Int)))/\
 (((Int.toNat (ae (x.2.2.2.1+s.2)))<(List.length s.1))/\
 (((Int.toNat (ae (x.2.2.2.1+s.2)))<(List.length s.1))/\
 ((((0:Int)<=(ae (x.2.2.2.1+s.2)))/\ ((ae (x.2.2.2.1+s.2))<(s.1.length:Int)))/\
 (((Int.toNat (ae (x.2.2.2.1+s.2)))<(List.length s.1))/\
 (((Int.toNat (ae (x.2.2.2.1+s.2)))<(List.length s.1))/\
 (az (List.set s.1 (Int.toNat (ae (x.2.2.2.1+s.2))) (List.getD s.1 (Int.toNat (ae (x.2.2.2.1+(ae ((ae ((2:Int)*s.2))+(1:Int)))))) (0:Int))) fun y_2=>
 ((((0:Int)<=(ae (x.2.2.2.1+(ae ((ae ((2:Int)*s.2))+(1:Int))))))/\ ((ae (x.2.2.2.1+(ae ((ae ((2:Int)*s.2))+(1:Int)))))<(y_2.length:Int)))/\
 (((Int.toNat (ae (x.2.2.2.1+(ae ((ae ((2:Int)*s.2))+(1:Int))))))<(List.length y_2))/\
 ((Int.toNat (ae (x.2.2.2.1+(ae ((ae ((2:Int)*s.2))+(1:Int))))))<(List.length y_2))))))))))))))))))))))))))))))))/\
 (¬((ae ((ae ((ae ((2:Int)*s.2))+(1:Int)))+(1:Int)))<x.2.2.1)->
 ((((0:Int)<=(ae (x.2.2.2.1+s.2)))/\ ((ae (x.2.2.2.1+s.2))<(s.1.length:Int)))/\
 (((Int.toNat (ae (x.2.2.2.1+s.2)))<(List.length s.1))/\
 (((Int.toNat (ae (x.2.2.2.1+s.2)))<(List.length s.1))/\
 ((((0:Int)<=(ae (x.2.2.2.1+(ae ((ae ((2:Int)*s.2))+(1:Int))))))/\ ((ae (x.2.2.2.1+(ae ((ae ((2:Int)*s.2))+(1:Int)))))<(s.1.length:Int)))/\
 (((Int.toNat (ae (x.2.2.2.1+(ae ((ae ((2:Int)*s.2))+(1:Int))))))<(List.length s.1))/\
 (((Int.toNat (ae (x.2.2.2.1+(ae ((ae ((2:Int)*s.2))+(1:Int))))))<(List.length s.1))/\
 ((bI (x.2.2.2.2,((List.getD s.1 (Int.toNat (ae (x.2.2.2.1+s.2))) (0:Int)),(List.getD s.1 (Int.toNat (ae (x.2.2.2.1+(ae ((ae ((2:Int)*s.2))+(1:Int)))))) (0:Int)))))/\
 az (jQ (x.2.2.2.2,((List.getD s.1 (Int.toNat (ae (x.2.2.2.1+s.2))) (0:Int)),(List.getD s.1 (Int.toNat (ae (x.2.2.2.1+(ae ((ae ((2:Int)*s.2))+(1:Int)))))) (0:Int))))) fun y=>
 (¬((!(decide (y<(0:Int))))=true)->
 ((((0:Int)<=(ae (x.2.2.2.1+(ae ((ae ((2:Int)*s.2))+(1:Int))))))/\ ((ae (x.2.2.2.1+(ae ((ae ((2:Int)*s.2))+(1:Int)))))<(s.1.length:Int)))/\
 (((Int.toNat (ae (x.2.2.2.1+(ae ((ae ((2:Int)*s.2))+(1:Int))))))<(List.length s.1))/\
 (((Int.toNat (ae (x.2.2.2.1+(ae ((ae ((2:Int)*s.2))+(1:Int))))))<(List.length s.1))/\
 ((((0:Int)<=(ae (x.2.2.2.1+s.2)))/\ ((ae (x.2.2.2.1+s.2))<(s.1.length:Int)))/\
 (((Int.toNat (ae (x.2.2.2.1+s.2)))<(List.length s.1))/\
 (((Int.toNat (ae (x.2.2.2.1+s.2)))<(List.length s.1))/\
 ((((0:Int)<=(ae (x.2.2.2.1+s.2)))/\ ((ae (x.2.2.2.1+s.2))<(s.1.length:Int)))/\
 (((Int.toNat (ae (x.2.2.2.1+s.2)))<(List.length s.1))/\
 (((Int.toNat (ae (x.2.2.2.1+s.2)))<(List.length s.1))/\
 (az (List.set s.1 (Int.toNat (ae (x.2.2.2.1+s.2))) (List.getD s.1 (Int.toNat (ae (x.2.2.2.1+(ae ((ae ((2:Int)*s.2))+(1:Int)))))) (0:Int))) fun aq=>
 ((((0:Int)<=(ae (x.2.2.2.1+(ae ((ae ((2:Int)*s.2))+(1:Int))))))/\ ((ae (x.2.2.2.1+(ae ((ae ((2:Int)*s.2))+(1:Int)))))<(aq.length:Int)))/\
 (((Int.toNat (ae (x.2.2.2.1+(ae ((ae ((2:Int)*s.2))+(1:Int))))))<(List.length aq))/\
 ((Int.toNat (ae (x.2.2.2.1+(ae ((ae ((2:Int)*s.2))+(1:Int))))))<(List.length aq)))))))))))))))))))))))))
def wG (x:((List Int)×(Int×(Int×(Int×((List I9)×Int)))))) (s:((List Int)×Int)):Tr (((List Int)×Int)⊕((List Int)⊕(List Int))) true:=
 (.Di ((w1 (ae ((2:Int)*s.2)))>=x.2.2.1)
 (.ret (.inr (Sum.inl s.1)))
 (.i11 ((w1 (w1 (ae ((2:Int)*s.2))))<x.2.2.1)
 (.bO (ae (x.2.2.2.1+(w1 (ae ((2:Int)*s.2))))) s.1
 (.bO (w1 (ae (x.2.2.2.1+(w1 (ae ((2:Int)*s.2)))))) s.1
 (.fn dy (x.2.2.2.2,((gI s.1 (ae (x.2.2.2.1+(w1 (ae ((2:Int)*s.2)))))),(gI s.1 (w1 (ae (x.2.2.2.1+(w1 (ae ((2:Int)*s.2))))))))) fun y=>
 (.i11 (y<z0)
 (.bO (ae (x.2.2.2.1+s.2)) s.1
 (.bO (ae (x.2.2.2.1+(w1 (w1 (ae ((2:Int)*s.2)))))) s.1
 (.fn dy (x.2.2.2.2,((gI s.1 (ae (x.2.2.2.1+s.2))),(gI s.1 (ae (x.2.2.2.1+(w1 (w1 (ae ((2:Int)*s.2))))))))) fun aq=>
 (.nY (!(decide (aq<z0)))
 (.ret (.inr (Sum.inr (s.1))))
 (.bO (ae (x.2.2.2.1+(w1 (w1 (ae ((2:Int)*s.2)))))) s.1
 (.bO (ae (x.2.2.2.1+s.2)) s.1
 (.bO (ae (x.2.2.2.1+s.2)) s.1
 (.lt (List.set s.1 (tN (ae (x.2.2.2.1+s.2))) (gI s.1 (ae (x.2.2.2.1+(w1 (w1 (ae ((2:Int)*s.2)))))))) fun y_2=>
 (.bO (ae (x.2.2.2.1+(w1 (w1 (ae ((2:Int)*s.2)))))) y_2
 (.lt (List.set y_2 (tN (ae (x.2.2.2.1+(w1 (w1 (ae ((2:Int)*s.2))))))) (gI s.1 (ae (x.2.2.2.1+s.2)))) fun au=>
 (.ret (.inl (au,(w1 (w1 (ae ((2:Int)*s.2)))))))))))))))))
 (.bO (ae (x.2.2.2.1+s.2)) s.1
 (.bO (ae (x.2.2.2.1+(w1 (ae ((2:Int)*s.2))))) s.1
 (.fn dy (x.2.2.2.2,((gI s.1 (ae (x.2.2.2.1+s.2))),(gI s.1 (ae (x.2.2.2.1+(w1 (ae ((2:Int)*s.2)))))))) fun aq=>
 (.nY (!(decide (aq<z0)))
 (.ret (.inr (Sum.inr (s.1))))
 (.bO (ae (x.2.2.2.1+(w1 (ae ((2:Int)*s.2))))) s.1
 (.bO (ae (x.2.2.2.1+s.2)) s.1
 (.bO (ae (x.2.2.2.1+s.2)) s.1
 (.lt (List.set s.1 (tN (ae (x.2.2.2.1+s.2))) (gI s.1 (ae (x.2.2.2.1+(w1 (ae ((2:Int)*s.2))))))) fun y_2=>
 (.bO (ae (x.2.2.2.1+(w1 (ae ((2:Int)*s.2))))) y_2
 (.lt (List.set y_2 (tN (ae (x.2.2.2.1+(w1 (ae ((2:Int)*s.2)))))) (gI s.1 (ae (x.2.2.2.1+s.2)))) fun au=>
 (.ret (.inl (au,(w1 (ae ((2:Int)*s.2))))))))))))))))))))
 (.bO (ae (x.2.2.2.1+s.2)) s.1
 (.bO (ae (x.2.2.2.1+(w1 (ae ((2:Int)*s.2))))) s.1
 (.fn dy (x.2.2.2.2,((gI s.1 (ae (x.2.2.2.1+s.2))),(gI s.1 (ae (x.2.2.2.1+(w1 (ae ((2:Int)*s.2)))))))) fun y=>
 (.nY (!(decide (y<z0)))
 (.ret (.inr (Sum.inr (s.1))))
 (.bO (ae (x.2.2.2.1+(w1 (ae ((2:Int)*s.2))))) s.1
 (.bO (ae (x.2.2.2.1+s.2)) s.1
 (.bO (ae (x.2.2.2.1+s.2)) s.1
 (.lt (List.set s.1 (tN (ae (x.2.2.2.1+s.2))) (gI s.1 (ae (x.2.2.2.1+(w1 (ae ((2:Int)*s.2))))))) fun aq=>
 (.bO (ae (x.2.2.2.1+(w1 (ae ((2:Int)*s.2))))) aq
 (.lt (List.set aq (tN (ae (x.2.2.2.1+(w1 (ae ((2:Int)*s.2)))))) (gI s.1 (ae (x.2.2.2.1+s.2)))) fun y_2=>
 (.ret (.inl (y_2,(w1 (ae ((2:Int)*s.2))))))))))))))))))
def tO (x:((List Int)×(Int×(Int×(Int×((List I9)×Int)))))):(Bool×((List Int)×(Bool×(Bool×(Bool×Bool))))):=
 (ai (run (bk x) (x.1,x.2.1)) fun r=>
 (Sum.elim (fun a=>
 (false,(a,(false,(false,(false,false)))))) (fun b=>
 (false,(b,(false,(false,(false,false)))))) r))
def oT (x:((List Int)×(Int×(Int×(Int×((List I9)×Int)))))):Prop:=
 (Term (bk x) (fh x) (x.1,x.2.1)/\
 az (run (bk x) (x.1,x.2.1)) fun r=>
 (cS r (fun a=>
 ((List.length a)=(List.length x.1))) (fun b=>
 ((List.length b)=(List.length x.1)))))
def Vp (x:((List Int)×(Int×(Int×(Int×((List I9)×Int)))))):Tr (Bool×((List Int)×(Bool×(Bool×(Bool×Bool))))) true:=
 (aI.lp (Co x) (wG x) (x.1,x.2.1) fun r=>
 (.s11 r (fun a=>
 (.pn 0 2
 (.og ((decide ((List.length a)=(List.length x.1)))&&true) ((List.length a)=(List.length x.1)) (fun h=>(c7 (decide_eq_true h) rfl))
 (.ret (false,(a,(false,(false,(false,false))))))))) (fun b=>
 (.pn 0 2
 (.og ((decide ((List.length b)=(List.length x.1)))&&true) ((List.length b)=(List.length x.1)) (fun h=>(c7 (decide_eq_true h) rfl))
 (.ret (false,(b,(false,(false,(false,false)))))))))))
abbrev wF:Dh:=⟨(.pair (.row yi) (.pair (.val (.one yi)) (.pair (.val (.one yi)) (.pair (.val (.one yi)) (.val ug))))),.none,oT,tO⟩
theorem Sr:ak Tryz.prog 158 (bf wF):=ak.Ly wF Vp (fn:=Tryz.f158) aC uU mixed (by kernel_rfl) (aA.nil _ _) (fun x=>(aB.tr aC (ah.c8 uU (aA.nil _ _)) mixed 0 (Co x) (wG x) aB.nil (by kernel_rfl) fun g s Q=>(by kernel_rfl))) (fun x=>(by kernel_rfl)) fun x r0 Q=>(by kernel_rfl)
def Jx:List (Nat×Ev.Spec):=(158,bf wF)::MR
theorem nU:ah Tryz.prog Jx:=ah.add (fn:=Tryz.f158) (by kernel_rfl) Sr uU
def Bg (x:((List Int)×(Int×(Int×((List I9)×Int))))):aI:=⟨[.env],⟨cA 60 0 [(0,.v (.one (.full 0))),(3,.v (.one (.mv 73 true [.full 1,.ext]))),(8,.v (.one (.i .i64))),(9,.v (.one (.i .i64))),(10,.v (.one (.i .i64))),(11,.v (.one (.i .i64)))],[.row yi 1,.row bP 0,.dO 2],3,none,[7],[0,1,2,3,6],[5,4],[(.l yi),.i],[.v (.int .i64 x.2.2.2.2),.i x.2.1,.i (0:Int),.i (ae (x.2.2.1- x.2.1)),.l bP x.2.2.2.1]⟩,[⟨(.exit 0),.normal,⟨cA 60 0 [(0,.v (.one (.full 0))),(3,.v (.one (.mv 73 true [.full 1,.ext]))),(8,.v (.one (.i .i64))),(9,.v (.one (.i .i64))),(10,.v (.one (.i .i64)))],[.row yi 1,.row bP 0,.dO 2],3,none,[6],[0,1,2,3,5],[4],[(.l yi)],[.v (.int .i64 x.2.2.2.2),.i x.2.1,.i (0:Int),.i (ae (x.2.2.1- x.2.1)),.l bP x.2.2.2.1]⟩⟩]⟩
def ef (x:((List Int)×(Int×(Int×((List I9)×Int))))) (s:((List Int)×Int)):((List Int)×Int)⊕(List Int):=
 (if (s.2>=(0:Int)) then
 (ai (tO (s.1,(s.2,((ae (x.2.2.1- x.2.1)),(x.2.1,x.2.2.2))))) fun y=>
 (Sum.inl (y.2.1,(ae (s.2- (1:Int)))))) else
 (Sum.inr (s.1)))
def jy (x:((List Int)×(Int×(Int×((List I9)×Int))))) (s:((List Int)×Int)):Prop:=
 ((s.2>=(0:Int))->
 (oT (s.1,(s.2,((ae (x.2.2.1- x.2.1)),(x.2.1,x.2.2.2))))))
def vA (x:((List Int)×(Int×(Int×((List I9)×Int))))) (s:((List Int)×Int)):Tr (((List Int)×Int)⊕(List Int)) true:=
 (.i10 (s.2>=z0)
 (.cz wF (s.1,(s.2,((ae (x.2.2.1- x.2.1)),(x.2.1,x.2.2.2)))) fun y=>
 (.ret (.inl (y.2.1,(wm s.2)))))
 (.ret (.inr (s.1))))
def Bh (x:((List Int)×(Int×(Int×((List I9)×Int))))):aI:=⟨[.env],⟨cA 60 0 [(0,.v (.one (.full 0))),(3,.v (.one (.mv 73 true [.full 1,.ext]))),(8,.v (.one (.i .i64))),(9,.v (.one (.i .i64))),(12,.v (.one (.i .i64)))],[.row yi 1,.row bP 0,.dO 2],3,none,[6],[0,1,2,5],[4,3],[(.l yi),.i],[.v (.int .i64 x.2.2.2.2),.i x.2.1,.i (0:Int),.l bP x.2.2.2.1]⟩,[⟨(.exit 2),.normal,⟨cA 60 0 [],[.row yi 1,.row bP 0,.dO 2],3,none,[2],[1],[0],[(.l yi)],[.l bP x.2.2.2.1]⟩⟩]⟩
def ej (x:((List Int)×(Int×(Int×((List I9)×Int))))) (s:((List Int)×Int)):((List Int)×Int)⊕(List Int):=
 (if (s.2>=(0:Int)) then
 (ai (List.set s.1 (Int.toNat x.2.1) (List.getD s.1 (Int.toNat (ae (x.2.1+s.2))) (0:Int))) fun y=>
 (ai (List.set y (Int.toNat (ae (x.2.1+s.2))) (List.getD s.1 (Int.toNat x.2.1) (0:Int))) fun aq=>
 (ai (tO (aq,((0:Int),(s.2,(x.2.1,x.2.2.2))))) fun y_2=>
 (Sum.inl (y_2.2.1,(ae (s.2- (1:Int)))))))) else
 (Sum.inr (s.1)))
def jz (x:((List Int)×(Int×(Int×((List I9)×Int))))) (s:((List Int)×Int)):Prop:=
 ((s.2>=(0:Int))->
 ((((0:Int)<=(ae (x.2.1+s.2)))/\ ((ae (x.2.1+s.2))<(s.1.length:Int)))/\
 (((Int.toNat (ae (x.2.1+s.2)))<(List.length s.1))/\
 (((Int.toNat (ae (x.2.1+s.2)))<(List.length s.1))/\
 ((((0:Int)<=x.2.1)/\ (x.2.1<(s.1.length:Int)))/\
 (((Int.toNat x.2.1)<(List.length s.1))/\
 (((Int.toNat x.2.1)<(List.length s.1))/\
 ((((0:Int)<=x.2.1)/\ (x.2.1<(s.1.length:Int)))/\
 (((Int.toNat x.2.1)<(List.length s.1))/\
 (((Int.toNat x.2.1)<(List.length s.1))/\
 (az (List.set s.1 (Int.toNat x.2.1) (List.getD s.1 (Int.toNat (ae (x.2.1+s.2))) (0:Int))) fun y=>
 ((((0:Int)<=(ae (x.2.1+s.2)))/\ ((ae (x.2.1+s.2))<(y.length:Int)))/\
 (((Int.toNat (ae (x.2.1+s.2)))<(List.length y))/\
 (((Int.toNat (ae (x.2.1+s.2)))<(List.length y))/\
 (az (List.set y (Int.toNat (ae (x.2.1+s.2))) (List.getD s.1 (Int.toNat x.2.1) (0:Int))) fun aq=>
 (oT (aq,((0:Int),(s.2,(x.2.1,x.2.2.2))))))))))))))))))))
def vB (x:((List Int)×(Int×(Int×((List I9)×Int))))) (s:((List Int)×Int)):Tr (((List Int)×Int)⊕(List Int)) true:=
 (.i10 (s.2>=z0)
 (.bO (ae (x.2.1+s.2)) s.1
 (.bO x.2.1 s.1
 (.bO x.2.1 s.1
 (.lt (List.set s.1 (tN x.2.1) (gI s.1 (ae (x.2.1+s.2)))) fun y=>
 (.bO (ae (x.2.1+s.2)) y
 (.lt (List.set y (tN (ae (x.2.1+s.2))) (gI s.1 x.2.1)) fun aq=>
 (.cz wF (aq,(z0,(s.2,(x.2.1,x.2.2.2)))) fun y_2=>
 (.ret (.inl (y_2.2.1,(wm s.2)))))))))))
 (.ret (.inr (s.1))))
def Bf (x:((List Int)×(Int×(Int×((List I9)×Int))))):(Bool×((List Int)×(Bool×(Bool×Bool)))):=
 (ai (run (ef x) (x.1,(ae (Int.tdiv (ae ((ae (x.2.2.1- x.2.1))- (1:Int))) (2:Int))))) fun r=>
 (ai (run (ej x) (r,(ae ((ae (x.2.2.1- x.2.1))- (1:Int))))) fun r_1=>
 (false,(r_1,(false,(false,false))))))
def oP (x:((List Int)×(Int×(Int×((List I9)×Int))))):Prop:=
 (Term (ef x) (jy x) (x.1,(ae (Int.tdiv (ae ((ae (x.2.2.1- x.2.1))- (1:Int))) (2:Int))))/\
 az (run (ef x) (x.1,(ae (Int.tdiv (ae ((ae (x.2.2.1- x.2.1))- (1:Int))) (2:Int))))) fun r=>
 (Term (ej x) (jz x) (r,(ae ((ae (x.2.2.1- x.2.1))- (1:Int))))/\
 az (run (ej x) (r,(ae ((ae (x.2.2.1- x.2.1))- (1:Int))))) fun r_1=>
 ((List.length r_1)=(List.length x.1))))
def TV (x:((List Int)×(Int×(Int×((List I9)×Int))))):Tr (Bool×((List Int)×(Bool×(Bool×Bool)))) true:=
 (aI.lp (Bg x) (vA x) (x.1,(ae (Int.tdiv (wm (ae (x.2.2.1- x.2.1))) (2:Int)))) fun r=>
 (aI.lp (Bh x) (vB x) (r,(wm (ae (x.2.2.1- x.2.1)))) fun r_1=>
 (.pn 0 2
 (.og ((decide ((List.length r_1)=(List.length x.1)))&&true) ((List.length r_1)=(List.length x.1)) (fun h=>(c7 (decide_eq_true h) rfl))
 (.ret (false,(r_1,(false,(false,false)))))))))
abbrev z6:Dh:=⟨(.pair (.row yi) (.pair (.val (.one yi)) (.pair (.val (.one yi)) (.val ug)))),.none,oP,Bf⟩
theorem QC:ak Tryz.prog 130 (bf z6):=ak.Ly z6 TV (fn:=Tryz.f130) aC nU mixed (by kernel_rfl) (aA.nil _ _) (fun x=>(aB.tr aC (ah.c8 nU (aA.nil _ _)) mixed 0 (Bg x) (vA x) (aB.tr aC (ah.c8 nU (aA.nil _ _)) mixed 2 (Bh x) (vB x) aB.nil (by kernel_rfl) fun g s Q=>(by kernel_rfl)) (by kernel_rfl) fun g s Q=>(by kernel_rfl))) (fun x=>(by kernel_rfl)) fun x r0 Q=>(by kernel_rfl)
def Ji:List (Nat×Ev.Spec):=(130,bf z6)::Jx
theorem zl:ah Tryz.prog Ji:=ah.add (fn:=Tryz.f130) (by kernel_rfl) QC nU
def iu (x:((List Int)×(Int×(Int×(Int×((List I9)×Int)))))):(I2×(Bool×(Bool×(Bool×(Int×Bool))))):=
 (ai (jQ (x.2.2.2.2,((List.getD x.1 (Int.toNat x.2.2.1) (0:Int)),(List.getD x.1 (Int.toNat x.2.1) (0:Int))))) fun y=>
 (if (y<(0:Int)) then
 ((x.2.2.1,x.2.1),(false,(false,(false,((ae (x.2.2.2.1+(1:Int))),false))))) else
 ((x.2.1,x.2.2.1),(false,(false,(false,(x.2.2.2.1,false)))))))
def jf (x:((List Int)×(Int×(Int×(Int×((List I9)×Int)))))):Prop:=
 ((((0:Int)<=x.2.2.1)/\ (x.2.2.1<(x.1.length:Int)))/\
 (((Int.toNat x.2.2.1)<(List.length x.1))/\
 (((Int.toNat x.2.2.1)<(List.length x.1))/\
 ((((0:Int)<=x.2.1)/\ (x.2.1<(x.1.length:Int)))/\
 (((Int.toNat x.2.1)<(List.length x.1))/\
 (((Int.toNat x.2.1)<(List.length x.1))/\
 (bI (x.2.2.2.2,((List.getD x.1 (Int.toNat x.2.2.1) (0:Int)),(List.getD x.1 (Int.toNat x.2.1) (0:Int)))))))))))
def OT (x:((List Int)×(Int×(Int×(Int×((List I9)×Int)))))):Tr (I2×(Bool×(Bool×(Bool×(Int×Bool))))) true:=
 (.bO x.2.2.1 x.1
 (.bO x.2.1 x.1
 (.fn dy (x.2.2.2.2,((gI x.1 x.2.2.1),(gI x.1 x.2.1))) fun y=>
 (.tu (y<z0)
 (.pn 0 3
 (.ret ((x.2.2.1,x.2.1),(false,(false,(false,((w1 x.2.2.2.1),false)))))))
 (.pn 0 3
 (.ret ((x.2.1,x.2.2.1),(false,(false,(false,(x.2.2.2.1,false)))))))))))
abbrev mE:Dh:=⟨(.pair (.val (.one (Ty.sl yi))) (.pair (.val (.one yi)) (.pair (.val (.one yi)) (.pair (.ptr yi 3) (.val ug))))),(.pair (.one yi) (.one yi)),jf,iu⟩
theorem K5:ak Tryz.prog 180 (bf mE):=ak.Ly mE OT (fn:=Tryz.f180) aC zl mixed (by kernel_rfl) (aA.nil _ _) (fun x=>aB.nil) (fun x=>(by kernel_rfl)) fun x r0 Q=>(by kernel_rfl)
def CJ:List (Nat×Ev.Spec):=(180,bf mE)::Ji
theorem tS:ah Tryz.prog CJ:=ah.add (fn:=Tryz.f180) (by kernel_rfl) K5 zl
def Ry (x:((List Int)×(Int×(Int×(Int×(Int×((List I9)×Int))))))):(Int×(Bool×(Bool×(Bool×(Bool×(Int×Bool)))))):=
 (ai (iu (x.1,(x.2.1,(x.2.2.1,x.2.2.2.2)))) fun y=>
 (ai (iu (x.1,(y.1.2,(x.2.2.2.1,(y.2.2.2.2.1,x.2.2.2.2.2))))) fun aq=>
 (ai (iu (x.1,(y.1.1,(aq.1.1,(aq.2.2.2.2.1,x.2.2.2.2.2))))) fun y_2=>
 (y_2.1.2,(false,(false,(false,(false,(y_2.2.2.2.2.1,false)))))))))
def rN (x:((List Int)×(Int×(Int×(Int×(Int×((List I9)×Int))))))):Prop:=
 ((jf (x.1,(x.2.1,(x.2.2.1,x.2.2.2.2))))/\
 az (iu (x.1,(x.2.1,(x.2.2.1,x.2.2.2.2)))) fun y=>
 ((jf (x.1,(y.1.2,(x.2.2.2.1,(y.2.2.2.2.1,x.2.2.2.2.2)))))/\
 az (iu (x.1,(y.1.2,(x.2.2.2.1,(y.2.2.2.2.1,x.2.2.2.2.2))))) fun aq=>
 (jf (x.1,(y.1.1,(aq.1.1,(aq.2.2.2.2.1,x.2.2.2.2.2)))))))
def Xl (x:((List Int)×(Int×(Int×(Int×(Int×((List I9)×Int))))))):Tr (Int×(Bool×(Bool×(Bool×(Bool×(Int×Bool)))))) true:=
 (.cz mE (x.1,(x.2.1,(x.2.2.1,x.2.2.2.2))) fun y=>
 (.cz mE (x.1,(y.1.2,(x.2.2.2.1,(y.2.2.2.2.1,x.2.2.2.2.2)))) fun aq=>
 (.cz mE (x.1,(y.1.1,(aq.1.1,(aq.2.2.2.2.1,x.2.2.2.2.2)))) fun y_2=>
 (.pn 0 3
 (.ret (y_2.1.2,(false,(false,(false,(false,(y_2.2.2.2.2.1,false)))))))))))
abbrev xY:Dh:=⟨(.pair (.val (.one (Ty.sl yi))) (.pair (.val (.one yi)) (.pair (.val (.one yi)) (.pair (.val (.one yi)) (.pair (.ptr yi 3) (.val ug)))))),(.one yi),rN,Ry⟩
theorem Uy:ak Tryz.prog 162 (bf xY):=ak.Ly xY Xl (fn:=Tryz.f162) aC tS mixed (by kernel_rfl) (aA.nil _ _) (fun x=>aB.nil) (fun x=>(by kernel_rfl)) fun x r0 Q=>(by kernel_rfl)
def MV:List (Nat×Ev.Spec):=(162,bf xY)::CJ
theorem CH:ah Tryz.prog MV:=ah.add (fn:=Tryz.f162) (by kernel_rfl) Uy tS
def mQ (x:((List Int)×(Int×(Int×((List I9)×Int))))):(Int×(Bool×(Bool×(Int×Bool)))):=
 (ai (Ry (x.1,((ae (x.2.1- (1:Int))),(x.2.1,((ae (x.2.1+(1:Int))),x.2.2))))) fun y=>
 (y.1,(false,(false,(y.2.2.2.2.2.1,false)))))
def mD (x:((List Int)×(Int×(Int×((List I9)×Int))))):Prop:=
 (rN (x.1,((ae (x.2.1- (1:Int))),(x.2.1,((ae (x.2.1+(1:Int))),x.2.2)))))
def Ux (x:((List Int)×(Int×(Int×((List I9)×Int))))):Tr (Int×(Bool×(Bool×(Int×Bool)))) true:=
 (.cz xY (x.1,((wm x.2.1),(x.2.1,((w1 x.2.1),x.2.2)))) fun y=>
 (.pn 0 3
 (.ret (y.1,(false,(false,(y.2.2.2.2.2.1,false)))))))
abbrev sZ:Dh:=⟨(.pair (.val (.one (Ty.sl yi))) (.pair (.val (.one yi)) (.pair (.ptr yi 3) (.val ug)))),(.one yi),mD,mQ⟩
theorem Rx:ak Tryz.prog 161 (bf sZ):=ak.Ly sZ Ux (fn:=Tryz.f161) aC CH mixed (by kernel_rfl) (aA.nil _ _) (fun x=>aB.nil) (fun x=>(by kernel_rfl)) fun x r0 Q=>(by kernel_rfl)
def Jo:List (Nat×Ev.Spec):=(161,bf sZ)::MV
theorem zo:ah Tryz.prog Jo:=ah.add (fn:=Tryz.f161) (by kernel_rfl) Rx CH
def zN (x:((List Int)×(Int×(Int×((List I9)×Int))))):I2:=
 (if ((ae (x.2.2.1- x.2.1))>=(8:Int)) then
 (if ((ae (x.2.2.1- x.2.1))>=(50:Int)) then
 (ai (mQ (x.1,((ae (x.2.1+(ae ((ae (Int.tdiv (ae (x.2.2.1- x.2.1)) (4:Int)))*(1:Int))))),((0:Int),x.2.2.2)))) fun y=>
 (ai (mQ (x.1,((ae (x.2.1+(ae ((ae (Int.tdiv (ae (x.2.2.1- x.2.1)) (4:Int)))*(2:Int))))),(y.2.2.2.1,x.2.2.2)))) fun aq=>
 (ai (mQ (x.1,((ae (x.2.1+(ae ((ae (Int.tdiv (ae (x.2.2.1- x.2.1)) (4:Int)))*(3:Int))))),(aq.2.2.2.1,x.2.2.2)))) fun y_2=>
 (ai (Ry (x.1,(y.1,(aq.1,(y_2.1,(y_2.2.2.2.1,x.2.2.2)))))) fun au=>
 (if ((au.2.2.2.2.2.1==(0:Int))=true) then
 (au.1,(1:Int)) else
 (if ((au.2.2.2.2.2.1==(12:Int))=true) then
 (au.1,(2:Int)) else
 (au.1,(0:Int)))))))) else
 (ai (Ry (x.1,((ae (x.2.1+(ae ((ae (Int.tdiv (ae (x.2.2.1- x.2.1)) (4:Int)))*(1:Int))))),((ae (x.2.1+(ae ((ae (Int.tdiv (ae (x.2.2.1- x.2.1)) (4:Int)))*(2:Int))))),((ae (x.2.1+(ae ((ae (Int.tdiv (ae (x.2.2.1- x.2.1)) (4:Int)))*(3:Int))))),((0:Int),x.2.2.2)))))) fun y=>
 (if ((y.2.2.2.2.2.1==(0:Int))=true) then
 (y.1,(1:Int)) else
 (if ((y.2.2.2.2.2.1==(12:Int))=true) then
 (y.1,(2:Int)) else
 (y.1,(0:Int)))))) else
 ((ae (x.2.1+(ae ((ae (Int.tdiv (ae (x.2.2.1- x.2.1)) (4:Int)))*(2:Int))))),(1:Int)))
def lE (x:((List Int)×(Int×(Int×((List I9)×Int))))):Prop:=
 (((ae (x.2.2.1- x.2.1))>=(8:Int))->
 ((((ae (x.2.2.1- x.2.1))>=(50:Int))->
 ((mD (x.1,((ae (x.2.1+(ae ((ae (Int.tdiv (ae (x.2.2.1- x.2.1)) (4:Int)))*(1:Int))))),((0:Int),x.2.2.2))))/\
 az (mQ (x.1,((ae (x.2.1+(ae ((ae (Int.tdiv (ae (x.2.2.1- x.2.1)) (4:Int)))*(1:Int))))),((0:Int),x.2.2.2)))) fun y=>
 ((mD (x.1,((ae (x.2.1+(ae ((ae (Int.tdiv (ae (x.2.2.1- x.2.1)) (4:Int)))*(2:Int))))),(y.2.2.2.1,x.2.2.2))))/\
 az (mQ (x.1,((ae (x.2.1+(ae ((ae (Int.tdiv (ae (x.2.2.1- x.2.1)) (4:Int)))*(2:Int))))),(y.2.2.2.1,x.2.2.2)))) fun aq=>
 ((mD (x.1,((ae (x.2.1+(ae ((ae (Int.tdiv (ae (x.2.2.1- x.2.1)) (4:Int)))*(3:Int))))),(aq.2.2.2.1,x.2.2.2))))/\
 az (mQ (x.1,((ae (x.2.1+(ae ((ae (Int.tdiv (ae (x.2.2.1- x.2.1)) (4:Int)))*(3:Int))))),(aq.2.2.2.1,x.2.2.2)))) fun y_2=>
 (rN (x.1,(y.1,(aq.1,(y_2.1,(y_2.2.2.2.1,x.2.2.2))))))))))/\
 (¬((ae (x.2.2.1- x.2.1))>=(50:Int))->
 (rN (x.1,((ae (x.2.1+(ae ((ae (Int.tdiv (ae (x.2.2.1- x.2.1)) (4:Int)))*(1:Int))))),((ae (x.2.1+(ae ((ae (Int.tdiv (ae (x.2.2.1- x.2.1)) (4:Int)))*(2:Int))))),((ae (x.2.1+(ae ((ae (Int.tdiv (ae (x.2.2.1- x.2.1)) (4:Int)))*(3:Int))))),((0:Int),x.2.2.2)))))))))
def Xz (x:((List Int)×(Int×(Int×((List I9)×Int))))):Tr I2 true:=
 (.i10 ((ae (x.2.2.1- x.2.1))>=(8:Int))
 (.i11 ((ae (x.2.2.1- x.2.1))>=(50:Int))
 (.cz sZ (x.1,((ae (x.2.1+(ae ((ae (Int.tdiv (ae (x.2.2.1- x.2.1)) (4:Int)))*z1)))),(z0,x.2.2.2))) fun y=>
 (.cz sZ (x.1,((ae (x.2.1+(ae ((ae (Int.tdiv (ae (x.2.2.1- x.2.1)) (4:Int)))*(2:Int))))),(y.2.2.2.1,x.2.2.2))) fun aq=>
 (.cz sZ (x.1,((ae (x.2.1+(ae ((ae (Int.tdiv (ae (x.2.2.1- x.2.1)) (4:Int)))*(3:Int))))),(aq.2.2.2.1,x.2.2.2))) fun y_2=>
 (.cz xY (x.1,(y.1,(aq.1,(y_2.1,(y_2.2.2.2.1,x.2.2.2))))) fun au=>
 (.fu (au.2.2.2.2.2.1==z0)
 (.ret (au.1,z1))
 (.fu (au.2.2.2.2.2.1==(12:Int))
 (.ret (au.1,(2:Int)))
 (.ret (au.1,z0))))))))
 (.cz xY (x.1,((ae (x.2.1+(ae ((ae (Int.tdiv (ae (x.2.2.1- x.2.1)) (4:Int)))*z1)))),((ae (x.2.1+(ae ((ae (Int.tdiv (ae (x.2.2.1- x.2.1)) (4:Int)))*(2:Int))))),((ae (x.2.1+(ae ((ae (Int.tdiv (ae (x.2.2.1- x.2.1)) (4:Int)))*(3:Int))))),(z0,x.2.2.2))))) fun y=>
 (.fu (y.2.2.2.2.2.1==z0)
 (.ret (y.1,z1))
 (.fu (y.2.2.2.2.2.1==(12:Int))
 (.ret (y.1,(2:Int)))
 (.ret (y.1,z0))))))
 (.ret ((ae (x.2.1+(ae ((ae (Int.tdiv (ae (x.2.2.1- x.2.1)) (4:Int)))*(2:Int))))),z1)))
abbrev Ca:dS:=⟨(.pair (.one (Ty.sl yi)) (.pair (.one yi) (.pair (.one yi) ug))),(.pair (.one yi) (.one yi)),lE,zN⟩
theorem U4:ak Tryz.prog 132 (av Ca):=ak.tr Ca Xz (fn:=Tryz.f132) aC zo mixed (by kernel_rfl) (aA.nil _ _) (fun x=>aB.nil) (fun x=>(by kernel_rfl)) fun x Q=>(by kernel_rfl)
def MZ:List (Nat×Ev.Spec):=(132,av Ca)::Jo
theorem CN:ah Tryz.prog MZ:=ah.add (fn:=Tryz.f132) (by kernel_rfl) U4 zo
abbrev tx:ByteArray:=(ByteArray.mk (List.toArray (([(OfNat.ofNat 0),(OfNat.ofNat 1),(OfNat.ofNat 2),(OfNat.ofNat 2),(OfNat.ofNat 3),(OfNat.ofNat 3),(OfNat.ofNat 3),(OfNat.ofNat 3),(OfNat.ofNat 4),(OfNat.ofNat 4),(OfNat.ofNat 4),(OfNat.ofNat 4),(OfNat.ofNat 4),(OfNat.ofNat 4),(OfNat.ofNat 4),(OfNat.ofNat 4),(OfNat.ofNat 5),(OfNat.ofNat 5),(OfNat.ofNat 5),(OfNat.ofNat 5),(OfNat.ofNat 5),(OfNat.ofNat 5),(OfNat.ofNat 5),(OfNat.ofNat 5),(OfNat.ofNat 5),(OfNat.ofNat 5),(OfNat.ofNat 5),(OfNat.ofNat 5),(OfNat.ofNat 5),(OfNat.ofNat 5),(OfNat.ofNat 5),(OfNat.ofNat 5),(OfNat.ofNat 6),(OfNat.ofNat 6),(OfNat.ofNat 6),(OfNat.ofNat 6),(OfNat.ofNat 6),(OfNat.ofNat 6),(OfNat.ofNat 6),(OfNat.ofNat 6),(OfNat.ofNat 6),(OfNat.ofNat 6),(OfNat.ofNat 6),(OfNat.ofNat 6),(OfNat.ofNat 6),(OfNat.ofNat 6),(OfNat.ofNat 6),(OfNat.ofNat 6),(OfNat.ofNat 6),(OfNat.ofNat 6),(OfNat.ofNat 6),(OfNat.ofNat 6),(OfNat.ofNat 6),(OfNat.ofNat 6),(OfNat.ofNat 6),(OfNat.ofNat 6),(OfNat.ofNat 6),(OfNat.ofNat 6),(OfNat.ofNat 6),(OfNat.ofNat 6),(OfNat.ofNat 6),(OfNat.ofNat 6),(OfNat.ofNat 6),(OfNat.ofNat 6)]++ [(OfNat.ofNat 7),(OfNat.ofNat 7),(OfNat.ofNat 7),(OfNat.ofNat 7),(OfNat.ofNat 7),(OfNat.ofNat 7),(OfNat.ofNat 7),(OfNat.ofNat 7),(OfNat.ofNat 7),(OfNat.ofNat 7),(OfNat.ofNat 7),(OfNat.ofNat 7),(OfNat.ofNat 7),(OfNat.ofNat 7),(OfNat.ofNat 7),(OfNat.ofNat 7),(OfNat.ofNat 7),(OfNat.ofNat 7),(OfNat.ofNat 7),(OfNat.ofNat 7),(OfNat.ofNat 7),(OfNat.ofNat 7),(OfNat.ofNat 7),(OfNat.ofNat 7),(OfNat.ofNat 7),(OfNat.ofNat 7),(OfNat.ofNat 7),(OfNat.ofNat 7),(OfNat.ofNat 7),(OfNat.ofNat 7),(OfNat.ofNat 7),(OfNat.ofNat 7),(OfNat.ofNat 7),(OfNat.ofNat 7),(OfNat.ofNat 7),(OfNat.ofNat 7),(OfNat.ofNat 7),(OfNat.ofNat 7),(OfNat.ofNat 7),(OfNat.ofNat 7),(OfNat.ofNat 7),(OfNat.ofNat 7),(OfNat.ofNat 7),(OfNat.ofNat 7),(OfNat.ofNat 7),(OfNat.ofNat 7),(OfNat.ofNat 7),(OfNat.ofNat 7),(OfNat.ofNat 7),(OfNat.ofNat 7),(OfNat.ofNat 7),(OfNat.ofNat 7),(OfNat.ofNat 7),(OfNat.ofNat 7),(OfNat.ofNat 7),(OfNat.ofNat 7),(OfNat.ofNat 7),(OfNat.ofNat 7),(OfNat.ofNat 7),(OfNat.ofNat 7),(OfNat.ofNat 7),(OfNat.ofNat 7),(OfNat.ofNat 7),(OfNat.ofNat 7)])++([(OfNat.ofNat 8),(OfNat.ofNat 8),(OfNat.ofNat 8),(OfNat.ofNat 8),(OfNat.ofNat 8),(OfNat.ofNat 8),(OfNat.ofNat 8),(OfNat.ofNat 8),(OfNat.ofNat 8),(OfNat.ofNat 8),(OfNat.ofNat 8),(OfNat.ofNat 8),(OfNat.ofNat 8),(OfNat.ofNat 8),(OfNat.ofNat 8),(OfNat.ofNat 8),(OfNat.ofNat 8),(OfNat.ofNat 8),(OfNat.ofNat 8),(OfNat.ofNat 8),(OfNat.ofNat 8),(OfNat.ofNat 8),(OfNat.ofNat 8),(OfNat.ofNat 8),(OfNat.ofNat 8),(OfNat.ofNat 8),(OfNat.ofNat 8),(OfNat.ofNat 8),(OfNat.ofNat 8),(OfNat.ofNat 8),(OfNat.ofNat 8),(OfNat.ofNat 8),(OfNat.ofNat 8),(OfNat.ofNat 8),(OfNat.ofNat 8),(OfNat.ofNat 8),(OfNat.ofNat 8),(OfNat.ofNat 8),(OfNat.ofNat 8),(OfNat.ofNat 8),(OfNat.ofNat 8),(OfNat.ofNat 8),(OfNat.ofNat 8),(OfNat.ofNat 8),(OfNat.ofNat 8),(OfNat.ofNat 8),(OfNat.ofNat 8),(OfNat.ofNat 8),(OfNat.ofNat 8),(OfNat.ofNat 8),(OfNat.ofNat 8),(OfNat.ofNat 8),(OfNat.ofNat 8),(OfNat.ofNat 8),(OfNat.ofNat 8),(OfNat.ofNat 8),(OfNat.ofNat 8),(OfNat.ofNat 8),(OfNat.ofNat 8),(OfNat.ofNat 8),(OfNat.ofNat 8),(OfNat.ofNat 8),(OfNat.ofNat 8),(OfNat.ofNat 8)]++ [(OfNat.ofNat 8),(OfNat.ofNat 8),(OfNat.ofNat 8),(OfNat.ofNat 8),(OfNat.ofNat 8),(OfNat.ofNat 8),(OfNat.ofNat 8),(OfNat.ofNat 8),(OfNat.ofNat 8),(OfNat.ofNat 8),(OfNat.ofNat 8),(OfNat.ofNat 8),(OfNat.ofNat 8),(OfNat.ofNat 8),(OfNat.ofNat 8),(OfNat.ofNat 8),(OfNat.ofNat 8),(OfNat.ofNat 8),(OfNat.ofNat 8),(OfNat.ofNat 8),(OfNat.ofNat 8),(OfNat.ofNat 8),(OfNat.ofNat 8),(OfNat.ofNat 8),(OfNat.ofNat 8),(OfNat.ofNat 8),(OfNat.ofNat 8),(OfNat.ofNat 8),(OfNat.ofNat 8),(OfNat.ofNat 8),(OfNat.ofNat 8),(OfNat.ofNat 8),(OfNat.ofNat 8),(OfNat.ofNat 8),(OfNat.ofNat 8),(OfNat.ofNat 8),(OfNat.ofNat 8),(OfNat.ofNat 8),(OfNat.ofNat 8),(OfNat.ofNat 8),(OfNat.ofNat 8),(OfNat.ofNat 8),(OfNat.ofNat 8),(OfNat.ofNat 8),(OfNat.ofNat 8),(OfNat.ofNat 8),(OfNat.ofNat 8),(OfNat.ofNat 8),(OfNat.ofNat 8),(OfNat.ofNat 8),(OfNat.ofNat 8),(OfNat.ofNat 8),(OfNat.ofNat 8),(OfNat.ofNat 8),(OfNat.ofNat 8),(OfNat.ofNat 8),(OfNat.ofNat 8),(OfNat.ofNat 8),(OfNat.ofNat 8),(OfNat.ofNat 8),(OfNat.ofNat 8),(OfNat.ofNat 8),(OfNat.ofNat 8),(OfNat.ofNat 8)]))))
def BF (x:Int):Int:=
 (if (x>=(4294967296:Int)) then
 (if ((Int.fdiv x (4294967296:Int))>=(65536:Int)) then
 (if ((Int.fdiv (Int.fdiv x (4294967296:Int)) (65536:Int))>=(256:Int)) then
 (ae ((56:Int)+(ae (((UInt8.toNat (ByteArray.get! tx (Int.toNat (IntKind.wrap IntKind.u8 (Int.fdiv (Int.fdiv (Int.fdiv x (4294967296:Int)) (65536:Int)) (256:Int)))))):Nat):Int)))) else
 (ae ((48:Int)+(ae (((UInt8.toNat (ByteArray.get! tx (Int.toNat (IntKind.wrap IntKind.u8 (Int.fdiv (Int.fdiv x (4294967296:Int)) (65536:Int)))))):Nat):Int))))) else
 (if ((Int.fdiv x (4294967296:Int))>=(256:Int)) then
 (ae ((40:Int)+(ae (((UInt8.toNat (ByteArray.get! tx (Int.toNat (IntKind.wrap IntKind.u8 (Int.fdiv (Int.fdiv x (4294967296:Int)) (256:Int)))))):Nat):Int)))) else
 (ae ((32:Int)+(ae (((UInt8.toNat (ByteArray.get! tx (Int.toNat (IntKind.wrap IntKind.u8 (Int.fdiv x (4294967296:Int)))))):Nat):Int)))))) else
 (if (x>=(65536:Int)) then
 (if ((Int.fdiv x (65536:Int))>=(256:Int)) then
 (ae ((24:Int)+(ae (((UInt8.toNat (ByteArray.get! tx (Int.toNat (IntKind.wrap IntKind.u8 (Int.fdiv (Int.fdiv x (65536:Int)) (256:Int)))))):Nat):Int)))) else
 (ae ((16:Int)+(ae (((UInt8.toNat (ByteArray.get! tx (Int.toNat (IntKind.wrap IntKind.u8 (Int.fdiv x (65536:Int)))))):Nat):Int))))) else
 (if (x>=(256:Int)) then
 (ae ((8:Int)+(ae (((UInt8.toNat (ByteArray.get! tx (Int.toNat (IntKind.wrap IntKind.u8 (Int.fdiv x (256:Int)))))):Nat):Int)))) else
 (ae ((0:Int)+(ae (((UInt8.toNat (ByteArray.get! tx (Int.toNat (IntKind.wrap IntKind.u8 x)))):Nat):Int)))))))
def kf (x:Int):Prop:=
 (((x>=(4294967296:Int))->
 ((((Int.fdiv x (4294967296:Int))>=(65536:Int))->
 ((((Int.fdiv (Int.fdiv x (4294967296:Int)) (65536:Int))>=(256:Int))->
 (((0:Int)<=(IntKind.wrap IntKind.u8 (Int.fdiv (Int.fdiv (Int.fdiv x (4294967296:Int)) (65536:Int)) (256:Int))))/\ ((IntKind.wrap IntKind.u8 (Int.fdiv (Int.fdiv (Int.fdiv x (4294967296:Int)) (65536:Int)) (256:Int)))<(256:Int))))/\
 (¬((Int.fdiv (Int.fdiv x (4294967296:Int)) (65536:Int))>=(256:Int))->
 (((0:Int)<=(IntKind.wrap IntKind.u8 (Int.fdiv (Int.fdiv x (4294967296:Int)) (65536:Int))))/\ ((IntKind.wrap IntKind.u8 (Int.fdiv (Int.fdiv x (4294967296:Int)) (65536:Int)))<(256:Int))))))/\
 (¬((Int.fdiv x (4294967296:Int))>=(65536:Int))->
 ((((Int.fdiv x (4294967296:Int))>=(256:Int))->
 (((0:Int)<=(IntKind.wrap IntKind.u8 (Int.fdiv (Int.fdiv x (4294967296:Int)) (256:Int))))/\ ((IntKind.wrap IntKind.u8 (Int.fdiv (Int.fdiv x (4294967296:Int)) (256:Int)))<(256:Int))))/\
 (¬((Int.fdiv x (4294967296:Int))>=(256:Int))->
 (((0:Int)<=(IntKind.wrap IntKind.u8 (Int.fdiv x (4294967296:Int))))/\ ((IntKind.wrap IntKind.u8 (Int.fdiv x (4294967296:Int)))<(256:Int))))))))/\
 (¬(x>=(4294967296:Int))->
 (((x>=(65536:Int))->
 ((((Int.fdiv x (65536:Int))>=(256:Int))->
 (((0:Int)<=(IntKind.wrap IntKind.u8 (Int.fdiv (Int.fdiv x (65536:Int)) (256:Int))))/\ ((IntKind.wrap IntKind.u8 (Int.fdiv (Int.fdiv x (65536:Int)) (256:Int)))<(256:Int))))/\
 (¬((Int.fdiv x (65536:Int))>=(256:Int))->
 (((0:Int)<=(IntKind.wrap IntKind.u8 (Int.fdiv x (65536:Int))))/\ ((IntKind.wrap IntKind.u8 (Int.fdiv x (65536:Int)))<(256:Int))))))/\
 (¬(x>=(65536:Int))->
 (((x>=(256:Int))->
 (((0:Int)<=(IntKind.wrap IntKind.u8 (Int.fdiv x (256:Int))))/\ ((IntKind.wrap IntKind.u8 (Int.fdiv x (256:Int)))<(256:Int))))/\
 (¬(x>=(256:Int))->
 (((0:Int)<=(IntKind.wrap IntKind.u8 x))/\ ((IntKind.wrap IntKind.u8 x)<(256:Int)))))))))
def Rr (x:Int):Tr Int true:=
 (.i11 (x>=(4294967296:Int))
 (.i11 ((Int.fdiv x (4294967296:Int))>=(65536:Int))
 (.i11 ((Int.fdiv (Int.fdiv x (4294967296:Int)) (65536:Int))>=(256:Int))
 (.oR (IntKind.wrap IntKind.u8 (Int.fdiv (Int.fdiv (Int.fdiv x (4294967296:Int)) (65536:Int)) (256:Int))) (256:Int)
 (.ret (ae ((56:Int)+(ae (((UInt8.toNat (ByteArray.get! tx (tN (IntKind.wrap IntKind.u8 (Int.fdiv (Int.fdiv (Int.fdiv x (4294967296:Int)) (65536:Int)) (256:Int)))))):Nat):Int))))))
 (.oR (IntKind.wrap IntKind.u8 (Int.fdiv (Int.fdiv x (4294967296:Int)) (65536:Int))) (256:Int)
 (.ret (ae ((48:Int)+(ae (((UInt8.toNat (ByteArray.get! tx (tN (IntKind.wrap IntKind.u8 (Int.fdiv (Int.fdiv x (4294967296:Int)) (65536:Int)))))):Nat):Int)))))))
 (.i11 ((Int.fdiv x (4294967296:Int))>=(256:Int))
 (.oR (IntKind.wrap IntKind.u8 (Int.fdiv (Int.fdiv x (4294967296:Int)) (256:Int))) (256:Int)
 (.ret (ae ((40:Int)+(ae (((UInt8.toNat (ByteArray.get! tx (tN (IntKind.wrap IntKind.u8 (Int.fdiv (Int.fdiv x (4294967296:Int)) (256:Int)))))):Nat):Int))))))
 (.oR (IntKind.wrap IntKind.u8 (Int.fdiv x (4294967296:Int))) (256:Int)
 (.ret (ae ((32:Int)+(ae (((UInt8.toNat (ByteArray.get! tx (tN (IntKind.wrap IntKind.u8 (Int.fdiv x (4294967296:Int)))))):Nat):Int))))))))
 (.i11 (x>=(65536:Int))
 (.i11 ((Int.fdiv x (65536:Int))>=(256:Int))
 (.oR (IntKind.wrap IntKind.u8 (Int.fdiv (Int.fdiv x (65536:Int)) (256:Int))) (256:Int)
 (.ret (ae ((24:Int)+(ae (((UInt8.toNat (ByteArray.get! tx (tN (IntKind.wrap IntKind.u8 (Int.fdiv (Int.fdiv x (65536:Int)) (256:Int)))))):Nat):Int))))))
 (.oR (IntKind.wrap IntKind.u8 (Int.fdiv x (65536:Int))) (256:Int)
 (.ret (ae ((16:Int)+(ae (((UInt8.toNat (ByteArray.get! tx (tN (IntKind.wrap IntKind.u8 (Int.fdiv x (65536:Int)))))):Nat):Int)))))))
 (.i11 (x>=(256:Int))
 (.oR (IntKind.wrap IntKind.u8 (Int.fdiv x (256:Int))) (256:Int)
 (.ret (ae ((8:Int)+(ae (((UInt8.toNat (ByteArray.get! tx (tN (IntKind.wrap IntKind.u8 (Int.fdiv x (256:Int)))))):Nat):Int))))))
 (.oR (IntKind.wrap IntKind.u8 x) (256:Int)
 (.ret (ae (z0+(ae (((UInt8.toNat (ByteArray.get! tx (tN (IntKind.wrap IntKind.u8 x)))):Nat):Int)))))))))
abbrev vL:dS:=⟨(.one (Ty.int IntKind.u64)),(.one yi),kf,BF⟩
theorem Ow:ak Tryz.prog 138 (av vL):=ak.tr vL Rr (fn:=Tryz.f138) aC CN mixed (by kernel_rfl) (aA.nil _ _) (fun x=>aB.nil) (fun x=>(by kernel_rfl)) fun x Q=>(by kernel_rfl)
def Fo:List (Nat×Ev.Spec):=(138,av vL)::MZ
theorem w8:ah Tryz.prog Fo:=ah.add (fn:=Tryz.f138) (by kernel_rfl) Ow CN
def Iu (x:Int):Int:=
 (ai (BF x) fun y=>
 y)
def vM (x:Int):Prop:=
 (kf x)
def Xh (x:Int):Tr Int true:=
 (.fn vL x fun y=>
 (.ret y))
abbrev BG:dS:=⟨(.one (Ty.int IntKind.u64)),(.one yi),vM,Iu⟩
theorem Ut:ak Tryz.prog 107 (av BG):=ak.tr BG Xh (fn:=Tryz.f107) aC w8 mixed (by kernel_rfl) (aA.nil _ _) (fun x=>aB.nil) (fun x=>(by kernel_rfl)) fun x Q=>(by kernel_rfl)
def MU:List (Nat×Ev.Spec):=(107,av BG)::Fo
theorem CF:ah Tryz.prog MU:=ah.add (fn:=Tryz.f107) (by kernel_rfl) Ut w8
def IB (x:Int):Int:=
 (ai (Iu (IntKind.wrap IntKind.u64 x)) fun y=>
 (IntKind.wrap IntKind.u64 ((1:Int)*((2:Int)^(Min.min (Int.toNat y) 64)))))
def ta (x:Int):Prop:=
 ((vM (IntKind.wrap IntKind.u64 x))/\
 az (Iu (IntKind.wrap IntKind.u64 x)) fun y=>
 ((0:Int)<=y))
def UF (x:Int):Tr Int true:=
 (.fn BG (IntKind.wrap IntKind.u64 x) fun y=>
 (.od (z0<=y)
 (.ret (IntKind.wrap IntKind.u64 (z1*((2:Int)^(Min.min (tN y) 64)))))))
abbrev Ag:dS:=⟨(.one yi),(.one (Ty.int IntKind.u64)),ta,IB⟩
theorem RH:ak Tryz.prog 159 (av Ag):=ak.tr Ag UF (fn:=Tryz.f159) aC CF mixed (by kernel_rfl) (aA.nil _ _) (fun x=>aB.nil) (fun x=>(by kernel_rfl)) fun x Q=>(by kernel_rfl)
def Jr:List (Nat×Ev.Spec):=(159,av Ag)::MU
theorem zu:ah Tryz.prog Jr:=ah.add (fn:=Tryz.f159) (by kernel_rfl) RH CF
def EJ (x:Int):I2:=
 ((IntKind.wrap IntKind.u64 (((BitVec.toNat ((BitVec.ofInt 64 (IntKind.wrap IntKind.u64 (((BitVec.toNat ((BitVec.ofInt 64 (IntKind.wrap IntKind.u64 (((BitVec.toNat ((BitVec.ofInt 64 x)^^^(BitVec.ofInt 64 (IntKind.wrap IntKind.u64 (x*(8192:Int)))))):Nat):Int)))^^^(BitVec.ofInt 64 (Int.fdiv (IntKind.wrap IntKind.u64 (((BitVec.toNat ((BitVec.ofInt 64 x)^^^(BitVec.ofInt 64 (IntKind.wrap IntKind.u64 (x*(8192:Int)))))):Nat):Int)) (128:Int))))):Nat):Int)))^^^(BitVec.ofInt 64 (IntKind.wrap IntKind.u64 ((IntKind.wrap IntKind.u64 (((BitVec.toNat ((BitVec.ofInt 64 (IntKind.wrap IntKind.u64 (((BitVec.toNat ((BitVec.ofInt 64 x)^^^(BitVec.ofInt 64 (IntKind.wrap IntKind.u64 (x*(8192:Int)))))):Nat):Int)))^^^(BitVec.ofInt 64 (Int.fdiv (IntKind.wrap IntKind.u64 (((BitVec.toNat ((BitVec.ofInt 64 x)^^^(BitVec.ofInt 64 (IntKind.wrap IntKind.u64 (x*(8192:Int)))))):Nat):Int)) (128:Int))))):Nat):Int))*(131072:Int)))))):Nat):Int)),(IntKind.wrap IntKind.u64 (((BitVec.toNat ((BitVec.ofInt 64 (IntKind.wrap IntKind.u64 (((BitVec.toNat ((BitVec.ofInt 64 (IntKind.wrap IntKind.u64 (((BitVec.toNat ((BitVec.ofInt 64 x)^^^(BitVec.ofInt 64 (IntKind.wrap IntKind.u64 (x*(8192:Int)))))):Nat):Int)))^^^(BitVec.ofInt 64 (Int.fdiv (IntKind.wrap IntKind.u64 (((BitVec.toNat ((BitVec.ofInt 64 x)^^^(BitVec.ofInt 64 (IntKind.wrap IntKind.u64 (x*(8192:Int)))))):Nat):Int)) (128:Int))))):Nat):Int)))^^^(BitVec.ofInt 64 (IntKind.wrap IntKind.u64 ((IntKind.wrap IntKind.u64 (((BitVec.toNat ((BitVec.ofInt 64 (IntKind.wrap IntKind.u64 (((BitVec.toNat ((BitVec.ofInt 64 x)^^^(BitVec.ofInt 64 (IntKind.wrap IntKind.u64 (x*(8192:Int)))))):Nat):Int)))^^^(BitVec.ofInt 64 (Int.fdiv (IntKind.wrap IntKind.u64 (((BitVec.toNat ((BitVec.ofInt 64 x)^^^(BitVec.ofInt 64 (IntKind.wrap IntKind.u64 (x*(8192:Int)))))):Nat):Int)) (128:Int))))):Nat):Int))*(131072:Int)))))):Nat):Int)))
def OJ (_:Int):Prop:=True
def UC (x:Int):Tr I2 false:=
 (.pn 0 1
 (.ret ((IntKind.wrap IntKind.u64 (((BitVec.toNat ((BitVec.ofInt 64 (IntKind.wrap IntKind.u64 (((BitVec.toNat ((BitVec.ofInt 64 (IntKind.wrap IntKind.u64 (((BitVec.toNat ((BitVec.ofInt 64 x)^^^(BitVec.ofInt 64 (IntKind.wrap IntKind.u64 (x*(8192:Int)))))):Nat):Int)))^^^(BitVec.ofInt 64 (Int.fdiv (IntKind.wrap IntKind.u64 (((BitVec.toNat ((BitVec.ofInt 64 x)^^^(BitVec.ofInt 64 (IntKind.wrap IntKind.u64 (x*(8192:Int)))))):Nat):Int)) (128:Int))))):Nat):Int)))^^^(BitVec.ofInt 64 (IntKind.wrap IntKind.u64 ((IntKind.wrap IntKind.u64 (((BitVec.toNat ((BitVec.ofInt 64 (IntKind.wrap IntKind.u64 (((BitVec.toNat ((BitVec.ofInt 64 x)^^^(BitVec.ofInt 64 (IntKind.wrap IntKind.u64 (x*(8192:Int)))))):Nat):Int)))^^^(BitVec.ofInt 64 (Int.fdiv (IntKind.wrap IntKind.u64 (((BitVec.toNat ((BitVec.ofInt 64 x)^^^(BitVec.ofInt 64 (IntKind.wrap IntKind.u64 (x*(8192:Int)))))):Nat):Int)) (128:Int))))):Nat):Int))*(131072:Int)))))):Nat):Int)),(IntKind.wrap IntKind.u64 (((BitVec.toNat ((BitVec.ofInt 64 (IntKind.wrap IntKind.u64 (((BitVec.toNat ((BitVec.ofInt 64 (IntKind.wrap IntKind.u64 (((BitVec.toNat ((BitVec.ofInt 64 x)^^^(BitVec.ofInt 64 (IntKind.wrap IntKind.u64 (x*(8192:Int)))))):Nat):Int)))^^^(BitVec.ofInt 64 (Int.fdiv (IntKind.wrap IntKind.u64 (((BitVec.toNat ((BitVec.ofInt 64 x)^^^(BitVec.ofInt 64 (IntKind.wrap IntKind.u64 (x*(8192:Int)))))):Nat):Int)) (128:Int))))):Nat):Int)))^^^(BitVec.ofInt 64 (IntKind.wrap IntKind.u64 ((IntKind.wrap IntKind.u64 (((BitVec.toNat ((BitVec.ofInt 64 (IntKind.wrap IntKind.u64 (((BitVec.toNat ((BitVec.ofInt 64 x)^^^(BitVec.ofInt 64 (IntKind.wrap IntKind.u64 (x*(8192:Int)))))):Nat):Int)))^^^(BitVec.ofInt 64 (Int.fdiv (IntKind.wrap IntKind.u64 (((BitVec.toNat ((BitVec.ofInt 64 x)^^^(BitVec.ofInt 64 (IntKind.wrap IntKind.u64 (x*(8192:Int)))))):Nat):Int)) (128:Int))))):Nat):Int))*(131072:Int)))))):Nat):Int)))))
abbrev Ad:Dh:=⟨(.ptr (Ty.int IntKind.u64) 215),(.one (Ty.int IntKind.u64)),OJ,EJ⟩
theorem RE:ak Tryz.prog 160 (bf Ad):=ak.Ly Ad UC (fn:=Tryz.f160) aC zu mixed (by kernel_rfl) (aA.nil _ _) (fun x=>aB.nil) (fun x=>(by kernel_rfl)) fun x r0 Q=>(by kernel_rfl)
def Jp:List (Nat×Ev.Spec):=(160,bf Ad)::Jr
theorem sj:ah Tryz.prog Jp:=ah.add (fn:=Tryz.f160) (by kernel_rfl) RE zu
def DZ (x:((List Int)×(Int×(Int×((List I9)×Int))))):aI:=⟨[.env],⟨cA 67 0 [(0,.v (.one (.full 0))),(1,.v (.one (.i .i64))),(8,.v (.one (.i .i64))),(9,.v (.one (.ptr 3 0))),(10,.v (.one (.i IntKind.u64))),(11,.v (.one (.i .i64)))],[.row yi 1,.row bP 0,.dO 2,.cells [.i IntKind.u64] 215],3,none,[6],[0,1,5],[4,7,2,3],[(.l yi),.i,.i,.i],[.i x.2.1,.i (ae (x.2.2.1- x.2.1)),.l bP x.2.2.2.1]⟩,[⟨(.exit 0),.normal,⟨cA 67 0 [],[.row yi 1,.row bP 0,.dO 2],3,none,[2],[1],[0],[(.l yi)],[.l bP x.2.2.2.1]⟩⟩]⟩
def dI (x:((List Int)×(Int×(Int×((List I9)×Int))))) (s:((List Int)×I3)):((List Int)×I3)⊕(List Int):=
 (if (s.2.2.2<=(ae ((ae (x.2.1+(ae ((ae (Int.tdiv (ae (x.2.2.1- x.2.1)) (4:Int)))*(2:Int)))))+(1:Int)))) then
 (ai (EJ s.2.1) fun y=>
 (if ((ae (IntKind.wrap IntKind.u64 (((BitVec.toNat ((BitVec.ofInt 64 y.1)&&&(BitVec.ofInt 64 (IntKind.wrap IntKind.u64 (s.2.2.1- (1:Int)))))):Nat):Int)))>=(ae (x.2.2.1- x.2.1))) then
 (ai (List.set s.1 (Int.toNat s.2.2.2) (List.getD s.1 (Int.toNat (ae (x.2.1+(ae ((ae (IntKind.wrap IntKind.u64 (((BitVec.toNat ((BitVec.ofInt 64 y.1)&&&(BitVec.ofInt 64 (IntKind.wrap IntKind.u64 (s.2.2.1- (1:Int)))))):Nat):Int)))- (ae (x.2.2.1- x.2.1))))))) (0:Int))) fun aq=>
 (ai (List.set aq (Int.toNat (ae (x.2.1+(ae ((ae (IntKind.wrap IntKind.u64 (((BitVec.toNat ((BitVec.ofInt 64 y.1)&&&(BitVec.ofInt 64 (IntKind.wrap IntKind.u64 (s.2.2.1- (1:Int)))))):Nat):Int)))- (ae (x.2.2.1- x.2.1))))))) (List.getD s.1 (Int.toNat s.2.2.2) (0:Int))) fun y_2=>
 (Sum.inl (y_2,(y.2,(s.2.2.1,(ae (s.2.2.2+(1:Int))))))))) else
 (ai (List.set s.1 (Int.toNat s.2.2.2) (List.getD s.1 (Int.toNat (ae (x.2.1+(ae (IntKind.wrap IntKind.u64 (((BitVec.toNat ((BitVec.ofInt 64 y.1)&&&(BitVec.ofInt 64 (IntKind.wrap IntKind.u64 (s.2.2.1- (1:Int)))))):Nat):Int)))))) (0:Int))) fun aq=>
 (ai (List.set aq (Int.toNat (ae (x.2.1+(ae (IntKind.wrap IntKind.u64 (((BitVec.toNat ((BitVec.ofInt 64 y.1)&&&(BitVec.ofInt 64 (IntKind.wrap IntKind.u64 (s.2.2.1- (1:Int)))))):Nat):Int)))))) (List.getD s.1 (Int.toNat s.2.2.2) (0:Int))) fun y_2=>
 (Sum.inl (y_2,(y.2,(s.2.2.1,(ae (s.2.2.2+(1:Int))))))))))) else
 (Sum.inr (s.1)))
def iE (x:((List Int)×(Int×(Int×((List I9)×Int))))) (s:((List Int)×I3)):Prop:=
 ((s.2.2.2<=(ae ((ae (x.2.1+(ae ((ae (Int.tdiv (ae (x.2.2.1- x.2.1)) (4:Int)))*(2:Int)))))+(1:Int))))->
 (az (EJ s.2.1) fun y=>
 ((((ae (IntKind.wrap IntKind.u64 (((BitVec.toNat ((BitVec.ofInt 64 y.1)&&&(BitVec.ofInt 64 (IntKind.wrap IntKind.u64 (s.2.2.1- (1:Int)))))):Nat):Int)))>=(ae (x.2.2.1- x.2.1)))->
 ((((0:Int)<=(ae (x.2.1+(ae ((ae (IntKind.wrap IntKind.u64 (((BitVec.toNat ((BitVec.ofInt 64 y.1)&&&(BitVec.ofInt 64 (IntKind.wrap IntKind.u64 (s.2.2.1- (1:Int)))))):Nat):Int)))- (ae (x.2.2.1- x.2.1)))))))/\ ((ae (x.2.1+(ae ((ae (IntKind.wrap IntKind.u64 (((BitVec.toNat ((BitVec.ofInt 64 y.1)&&&(BitVec.ofInt 64 (IntKind.wrap IntKind.u64 (s.2.2.1- (1:Int)))))):Nat):Int)))- (ae (x.2.2.1- x.2.1))))))<(s.1.length:Int)))/\
 (((Int.toNat (ae (x.2.1+(ae ((ae (IntKind.wrap IntKind.u64 (((BitVec.toNat ((BitVec.ofInt 64 y.1)&&&(BitVec.ofInt 64 (IntKind.wrap IntKind.u64 (s.2.2.1- (1:Int)))))):Nat):Int)))- (ae (x.2.2.1- x.2.1)))))))<(List.length s.1))/\
 (((Int.toNat (ae (x.2.1+(ae ((ae (IntKind.wrap IntKind.u64 (((BitVec.toNat ((BitVec.ofInt 64 y.1)&&&(BitVec.ofInt 64 (IntKind.wrap IntKind.u64 (s.2.2.1- (1:Int)))))):Nat):Int)))- (ae (x.2.2.1- x.2.1)))))))<(List.length s.1))/\
 ((((0:Int)<=s.2.2.2)/\ (s.2.2.2<(s.1.length:Int)))/\
 (((Int.toNat s.2.2.2)<(List.length s.1))/\
 (((Int.toNat s.2.2.2)<(List.length s.1))/\
 ((((0:Int)<=s.2.2.2)/\ (s.2.2.2<(s.1.length:Int)))/\
 (((Int.toNat s.2.2.2)<(List.length s.1))/\
 (((Int.toNat s.2.2.2)<(List.length s.1))/\
 (az (List.set s.1 (Int.toNat s.2.2.2) (List.getD s.1 (Int.toNat (ae (x.2.1+(ae ((ae (IntKind.wrap IntKind.u64 (((BitVec.toNat ((BitVec.ofInt 64 y.1)&&&(BitVec.ofInt 64 (IntKind.wrap IntKind.u64 (s.2.2.1- (1:Int)))))):Nat):Int)))- (ae (x.2.2.1- x.2.1))))))) (0:Int))) fun aq=>
 ((((0:Int)<=(ae (x.2.1+(ae ((ae (IntKind.wrap IntKind.u64 (((BitVec.toNat ((BitVec.ofInt 64 y.1)&&&(BitVec.ofInt 64 (IntKind.wrap IntKind.u64 (s.2.2.1- (1:Int)))))):Nat):Int)))- (ae (x.2.2.1- x.2.1)))))))/\ ((ae (x.2.1+(ae ((ae (IntKind.wrap IntKind.u64 (((BitVec.toNat ((BitVec.ofInt 64 y.1)&&&(BitVec.ofInt 64 (IntKind.wrap IntKind.u64 (s.2.2.1- (1:Int)))))):Nat):Int)))- (ae (x.2.2.1- x.2.1))))))<(aq.length:Int)))/\
 (((Int.toNat (ae (x.2.1+(ae ((ae (IntKind.wrap IntKind.u64 (((BitVec.toNat ((BitVec.ofInt 64 y.1)&&&(BitVec.ofInt 64 (IntKind.wrap IntKind.u64 (s.2.2.1- (1:Int)))))):Nat):Int)))- (ae (x.2.2.1- x.2.1)))))))<(List.length aq))/\
 ((Int.toNat (ae (x.2.1+(ae ((ae (IntKind.wrap IntKind.u64 (((BitVec.toNat ((BitVec.ofInt 64 y.1)&&&(BitVec.ofInt 64 (IntKind.wrap IntKind.u64 (s.2.2.1- (1:Int)))))):Nat):Int)))- (ae (x.2.2.1- x.2.1)))))))<(List.length aq)))))))))))))))/\
 (¬((ae (IntKind.wrap IntKind.u64 (((BitVec.toNat ((BitVec.ofInt 64 y.1)&&&(BitVec.ofInt 64 (IntKind.wrap IntKind.u64 (s.2.2.1- (1:Int)))))):Nat):Int)))>=(ae (x.2.2.1- x.2.1)))->
 ((((0:Int)<=(ae (x.2.1+(ae (IntKind.wrap IntKind.u64 (((BitVec.toNat ((BitVec.ofInt 64 y.1)&&&(BitVec.ofInt 64 (IntKind.wrap IntKind.u64 (s.2.2.1- (1:Int)))))):Nat):Int))))))/\ ((ae (x.2.1+(ae (IntKind.wrap IntKind.u64 (((BitVec.toNat ((BitVec.ofInt 64 y.1)&&&(BitVec.ofInt 64 (IntKind.wrap IntKind.u64 (s.2.2.1- (1:Int)))))):Nat):Int)))))<(s.1.length:Int)))/\
 (((Int.toNat (ae (x.2.1+(ae (IntKind.wrap IntKind.u64 (((BitVec.toNat ((BitVec.ofInt 64 y.1)&&&(BitVec.ofInt 64 (IntKind.wrap IntKind.u64 (s.2.2.1- (1:Int)))))):Nat):Int))))))<(List.length s.1))/\
 (((Int.toNat (ae (x.2.1+(ae (IntKind.wrap IntKind.u64 (((BitVec.toNat ((BitVec.ofInt 64 y.1)&&&(BitVec.ofInt 64 (IntKind.wrap IntKind.u64 (s.2.2.1- (1:Int)))))):Nat):Int))))))<(List.length s.1))/\
 ((((0:Int)<=s.2.2.2)/\ (s.2.2.2<(s.1.length:Int)))/\
 (((Int.toNat s.2.2.2)<(List.length s.1))/\
 (((Int.toNat s.2.2.2)<(List.length s.1))/\
 ((((0:Int)<=s.2.2.2)/\ (s.2.2.2<(s.1.length:Int)))/\
 (((Int.toNat s.2.2.2)<(List.length s.1))/\
 (((Int.toNat s.2.2.2)<(List.length s.1))/\
 (az (List.set s.1 (Int.toNat s.2.2.2) (List.getD s.1 (Int.toNat (ae (x.2.1+(ae (IntKind.wrap IntKind.u64 (((BitVec.toNat ((BitVec.ofInt 64 y.1)&&&(BitVec.ofInt 64 (IntKind.wrap IntKind.u64 (s.2.2.1- (1:Int)))))):Nat):Int)))))) (0:Int))) fun aq=>
 ((((0:Int)<=(ae (x.2.1+(ae (IntKind.wrap IntKind.u64 (((BitVec.toNat ((BitVec.ofInt 64 y.1)&&&(BitVec.ofInt 64 (IntKind.wrap IntKind.u64 (s.2.2.1- (1:Int)))))):Nat):Int))))))/\ ((ae (x.2.1+(ae (IntKind.wrap IntKind.u64 (((BitVec.toNat ((BitVec.ofInt 64 y.1)&&&(BitVec.ofInt 64 (IntKind.wrap IntKind.u64 (s.2.2.1- (1:Int)))))):Nat):Int)))))<(aq.length:Int)))/\
 (((Int.toNat (ae (x.2.1+(ae (IntKind.wrap IntKind.u64 (((BitVec.toNat ((BitVec.ofInt 64 y.1)&&&(BitVec.ofInt 64 (IntKind.wrap IntKind.u64 (s.2.2.1- (1:Int)))))):Nat):Int))))))<(List.length aq))/\
 ((Int.toNat (ae (x.2.1+(ae (IntKind.wrap IntKind.u64 (((BitVec.toNat ((BitVec.ofInt 64 y.1)&&&(BitVec.ofInt 64 (IntKind.wrap IntKind.u64 (s.2.2.1- (1:Int)))))):Nat):Int))))))<(List.length aq))))))))))))))))))
def yB (x:((List Int)×(Int×(Int×((List I9)×Int))))) (s:((List Int)×I3)):Tr (((List Int)×I3)⊕(List Int)) true:=
 (.i10 (s.2.2.2<=(w1 (ae (x.2.1+(ae ((ae (Int.tdiv (ae (x.2.2.1- x.2.1)) (4:Int)))*(2:Int)))))))
 (.aaI Ad s.2.1 trivial fun y=>
 (.i11 ((ae (IntKind.wrap IntKind.u64 (((BitVec.toNat ((BitVec.ofInt 64 y.1)&&&(BitVec.ofInt 64 (IntKind.wrap IntKind.u64 (s.2.2.1- z1))))):Nat):Int)))>=(ae (x.2.2.1- x.2.1)))
 (.bO (ae (x.2.1+(ae ((ae (IntKind.wrap IntKind.u64 (((BitVec.toNat ((BitVec.ofInt 64 y.1)&&&(BitVec.ofInt 64 (IntKind.wrap IntKind.u64 (s.2.2.1- z1))))):Nat):Int)))- (ae (x.2.2.1- x.2.1)))))) s.1
 (.bO s.2.2.2 s.1
 (.bO s.2.2.2 s.1
 (.lt (List.set s.1 (tN s.2.2.2) (gI s.1 (ae (x.2.1+(ae ((ae (IntKind.wrap IntKind.u64 (((BitVec.toNat ((BitVec.ofInt 64 y.1)&&&(BitVec.ofInt 64 (IntKind.wrap IntKind.u64 (s.2.2.1- z1))))):Nat):Int)))- (ae (x.2.2.1- x.2.1)))))))) fun aq=>
 (.bO (ae (x.2.1+(ae ((ae (IntKind.wrap IntKind.u64 (((BitVec.toNat ((BitVec.ofInt 64 y.1)&&&(BitVec.ofInt 64 (IntKind.wrap IntKind.u64 (s.2.2.1- z1))))):Nat):Int)))- (ae (x.2.2.1- x.2.1)))))) aq
 (.lt (List.set aq (tN (ae (x.2.1+(ae ((ae (IntKind.wrap IntKind.u64 (((BitVec.toNat ((BitVec.ofInt 64 y.1)&&&(BitVec.ofInt 64 (IntKind.wrap IntKind.u64 (s.2.2.1- z1))))):Nat):Int)))- (ae (x.2.2.1- x.2.1))))))) (gI s.1 s.2.2.2)) fun y_2=>
 (.ret (.inl (y_2,(y.2,(s.2.2.1,(w1 s.2.2.2))))))))))))
 (.bO (ae (x.2.1+(ae (IntKind.wrap IntKind.u64 (((BitVec.toNat ((BitVec.ofInt 64 y.1)&&&(BitVec.ofInt 64 (IntKind.wrap IntKind.u64 (s.2.2.1- z1))))):Nat):Int))))) s.1
 (.bO s.2.2.2 s.1
 (.bO s.2.2.2 s.1
 (.lt (List.set s.1 (tN s.2.2.2) (gI s.1 (ae (x.2.1+(ae (IntKind.wrap IntKind.u64 (((BitVec.toNat ((BitVec.ofInt 64 y.1)&&&(BitVec.ofInt 64 (IntKind.wrap IntKind.u64 (s.2.2.1- z1))))):Nat):Int))))))) fun aq=>
 (.bO (ae (x.2.1+(ae (IntKind.wrap IntKind.u64 (((BitVec.toNat ((BitVec.ofInt 64 y.1)&&&(BitVec.ofInt 64 (IntKind.wrap IntKind.u64 (s.2.2.1- z1))))):Nat):Int))))) aq
 (.lt (List.set aq (tN (ae (x.2.1+(ae (IntKind.wrap IntKind.u64 (((BitVec.toNat ((BitVec.ofInt 64 y.1)&&&(BitVec.ofInt 64 (IntKind.wrap IntKind.u64 (s.2.2.1- z1))))):Nat):Int)))))) (gI s.1 s.2.2.2)) fun y_2=>
 (.ret (.inl (y_2,(y.2,(s.2.2.1,(w1 s.2.2.2))))))))))))))
 (.ret (.inr (s.1))))
def HA (x:((List Int)×(Int×(Int×((List I9)×Int))))):(Bool×((List Int)×(Bool×(Bool×Bool)))):=
 (if ((ae (x.2.2.1- x.2.1))>=(8:Int)) then
 (ai (IB (ae (x.2.2.1- x.2.1))) fun y=>
 (ai (run (dI x) (x.1,((IntKind.wrap IntKind.u64 (ae (x.2.2.1- x.2.1))),(y,(ae ((ae (x.2.1+(ae ((ae (Int.tdiv (ae (x.2.2.1- x.2.1)) (4:Int)))*(2:Int)))))- (1:Int))))))) fun r=>
 (false,(r,(false,(false,false)))))) else
 (false,(x.1,(false,(false,false)))))
def oK (x:((List Int)×(Int×(Int×((List I9)×Int))))):Prop:=
 ((((ae (x.2.2.1- x.2.1))>=(8:Int))->
 ((ta (ae (x.2.2.1- x.2.1)))/\
 az (IB (ae (x.2.2.1- x.2.1))) fun y=>
 (Term (dI x) (iE x) (x.1,((IntKind.wrap IntKind.u64 (ae (x.2.2.1- x.2.1))),(y,(ae ((ae (x.2.1+(ae ((ae (Int.tdiv (ae (x.2.2.1- x.2.1)) (4:Int)))*(2:Int)))))- (1:Int))))))/\
 az (run (dI x) (x.1,((IntKind.wrap IntKind.u64 (ae (x.2.2.1- x.2.1))),(y,(ae ((ae (x.2.1+(ae ((ae (Int.tdiv (ae (x.2.2.1- x.2.1)) (4:Int)))*(2:Int)))))- (1:Int))))))) fun r=>
 ((List.length r)=(List.length x.1)))))/\
 (¬((ae (x.2.2.1- x.2.1))>=(8:Int))->
 ((List.length x.1)=(List.length x.1))))
def Wu (x:((List Int)×(Int×(Int×((List I9)×Int))))):Tr (Bool×((List Int)×(Bool×(Bool×Bool)))) true:=
 (.i11 ((ae (x.2.2.1- x.2.1))>=(8:Int))
 (.fn Ag (ae (x.2.2.1- x.2.1)) fun y=>
 (aI.lp (DZ x) (yB x) (x.1,((IntKind.wrap IntKind.u64 (ae (x.2.2.1- x.2.1))),(y,(wm (ae (x.2.1+(ae ((ae (Int.tdiv (ae (x.2.2.1- x.2.1)) (4:Int)))*(2:Int))))))))) fun r=>
 (.pn 0 2
 (.og ((decide ((List.length r)=(List.length x.1)))&&true) ((List.length r)=(List.length x.1)) (fun h=>(c7 (decide_eq_true h) rfl))
 (.ret (false,(r,(false,(false,false)))))))))
 (.pn 0 2
 (.og ((decide ((List.length x.1)=(List.length x.1)))&&true) ((List.length x.1)=(List.length x.1)) (fun h=>(c7 (decide_eq_true h) rfl))
 (.ret (false,(x.1,(false,(false,false))))))))
abbrev FT:Dh:=⟨(.pair (.row yi) (.pair (.val (.one yi)) (.pair (.val (.one yi)) (.val ug)))),.none,oK,HA⟩
theorem Tz:ak Tryz.prog 131 (bf FT):=ak.Ly FT Wu (fn:=Tryz.f131) aC sj mixed (by kernel_rfl) (aA.nil _ _) (fun x=>(aB.tr aC (ah.c8 sj (aA.nil _ _)) mixed 0 (DZ x) (yB x) aB.nil (by kernel_rfl) fun g s Q=>(by kernel_rfl))) (fun x=>(by kernel_rfl)) fun x r0 Q=>(by kernel_rfl)
def MJ:List (Nat×Ev.Spec):=(131,bf FT)::Jp
theorem m9:ah Tryz.prog MJ:=ah.add (fn:=Tryz.f131) (by kernel_rfl) Tz sj
def zb (x:((List Int)×(Int×(Int×(Int×((List I9)×Int)))))):aI:=⟨[.env],⟨cA 90 0 [(0,.v (.one (.full 0))),(1,.v (.one (.i .i64))),(4,.v (.one (.mv 73 true [.full 1,.ext]))),(11,.v (.one (.i .i64))),(12,.v (.one (.i .i64)))],[.row yi 1,.row bP 0,.dO 2],3,none,[6],[0,1,5],[4,2,3],[(.l yi),.i,.i],[.i x.2.1,.v (.int .i64 x.2.2.2.2.2),.l bP x.2.2.2.2.1]⟩,[⟨(.exit 2),.normal,⟨cA 90 0 [(0,.v (.one (.full 0))),(1,.v (.one (.i .i64))),(4,.v (.one (.mv 73 true [.full 1,.ext]))),(11,.v (.one (.i .i64))),(12,.v (.one (.i .i64)))],[.row yi 1,.row bP 0,.dO 2],3,none,[6],[0,1,5],[4,2,3],[(.l yi),.i,.i],[.i x.2.1,.v (.int .i64 x.2.2.2.2.2),.l bP x.2.2.2.2.1]⟩⟩]⟩
def dF (x:((List Int)×(Int×(Int×(Int×((List I9)×Int)))))) (s:((List Int)×I2)):((List Int)×I2)⊕((List Int)×I2):=
 (if (s.2.1<=s.2.2) then
 (ai (jQ (x.2.2.2.2,((List.getD s.1 (Int.toNat x.2.1) (0:Int)),(List.getD s.1 (Int.toNat s.2.1) (0:Int))))) fun y=>
 (if ((!(decide (y<(0:Int))))=true) then
 (Sum.inl (s.1,((ae (s.2.1+(1:Int))),s.2.2))) else
 (Sum.inr ((s.1,(s.2.1,s.2.2)))))) else
 (Sum.inr ((s.1,(s.2.1,s.2.2)))))
def lR (x:((List Int)×(Int×(Int×(Int×((List I9)×Int)))))) (s:((List Int)×I2)):Prop:=
 ((s.2.1<=s.2.2)->
 ((((0:Int)<=x.2.1)/\ (x.2.1<(s.1.length:Int)))/\
 (((Int.toNat x.2.1)<(List.length s.1))/\
 (((Int.toNat x.2.1)<(List.length s.1))/\
 ((((0:Int)<=s.2.1)/\ (s.2.1<(s.1.length:Int)))/\
 (((Int.toNat s.2.1)<(List.length s.1))/\
 (((Int.toNat s.2.1)<(List.length s.1))/\
 (bI (x.2.2.2.2,((List.getD s.1 (Int.toNat x.2.1) (0:Int)),(List.getD s.1 (Int.toNat s.2.1) (0:Int))))))))))))
def tL (x:((List Int)×(Int×(Int×(Int×((List I9)×Int)))))) (s:((List Int)×I2)):Tr (((List Int)×I2)⊕((List Int)×I2)) true:=
 (.i10 (s.2.1<=s.2.2)
 (.bO x.2.1 s.1
 (.bO s.2.1 s.1
 (.fn dy (x.2.2.2.2,((gI s.1 x.2.1),(gI s.1 s.2.1))) fun y=>
 (.fu (!(decide (y<z0)))
 (.ret (.inl (s.1,((w1 s.2.1),s.2.2))))
 (.ret (.inr ((s.1,(s.2.1,s.2.2)))))))))
 (.ret (.inr ((s.1,(s.2.1,s.2.2))))))
def zc (x:((List Int)×(Int×(Int×(Int×((List I9)×Int)))))):aI:=⟨[.env],⟨cA 90 0 [(0,.v (.one (.full 0))),(1,.v (.one (.i .i64))),(4,.v (.one (.mv 73 true [.full 1,.ext]))),(11,.v (.one (.i .i64))),(12,.v (.one (.i .i64)))],[.row yi 1,.row bP 0,.dO 2],3,none,[6],[0,1,5],[4,2,3],[(.l yi),.i,.i],[.i x.2.1,.v (.int .i64 x.2.2.2.2.2),.l bP x.2.2.2.2.1]⟩,[⟨(.exit 4),.normal,⟨cA 90 0 [(0,.v (.one (.full 0))),(1,.v (.one (.i .i64))),(4,.v (.one (.mv 73 true [.full 1,.ext]))),(11,.v (.one (.i .i64))),(12,.v (.one (.i .i64)))],[.row yi 1,.row bP 0,.dO 2],3,none,[6],[0,1,5],[4,2,3],[(.l yi),.i,.i],[.i x.2.1,.v (.int .i64 x.2.2.2.2.2),.l bP x.2.2.2.2.1]⟩⟩]⟩
def dG (x:((List Int)×(Int×(Int×(Int×((List I9)×Int)))))) (s:((List Int)×I2)):((List Int)×I2)⊕((List Int)×I2):=
 (if (s.2.1<=s.2.2) then
 (ai (jQ (x.2.2.2.2,((List.getD s.1 (Int.toNat x.2.1) (0:Int)),(List.getD s.1 (Int.toNat s.2.2) (0:Int))))) fun y=>
 (if (y<(0:Int)) then
 (Sum.inl (s.1,(s.2.1,(ae (s.2.2- (1:Int)))))) else
 (Sum.inr ((s.1,(s.2.1,s.2.2)))))) else
 (Sum.inr ((s.1,(s.2.1,s.2.2)))))
def lS (x:((List Int)×(Int×(Int×(Int×((List I9)×Int)))))) (s:((List Int)×I2)):Prop:=
 ((s.2.1<=s.2.2)->
 ((((0:Int)<=x.2.1)/\ (x.2.1<(s.1.length:Int)))/\
 (((Int.toNat x.2.1)<(List.length s.1))/\
 (((Int.toNat x.2.1)<(List.length s.1))/\
 ((((0:Int)<=s.2.2)/\ (s.2.2<(s.1.length:Int)))/\
 (((Int.toNat s.2.2)<(List.length s.1))/\
 (((Int.toNat s.2.2)<(List.length s.1))/\
 (bI (x.2.2.2.2,((List.getD s.1 (Int.toNat x.2.1) (0:Int)),(List.getD s.1 (Int.toNat s.2.2) (0:Int))))))))))))
def tM (x:((List Int)×(Int×(Int×(Int×((List I9)×Int)))))) (s:((List Int)×I2)):Tr (((List Int)×I2)⊕((List Int)×I2)) true:=
 (.i10 (s.2.1<=s.2.2)
 (.bO x.2.1 s.1
 (.bO s.2.2 s.1
 (.fn dy (x.2.2.2.2,((gI s.1 x.2.1),(gI s.1 s.2.2))) fun y=>
 (.tu (y<z0)
 (.ret (.inl (s.1,(s.2.1,(wm s.2.2)))))
 (.ret (.inr ((s.1,(s.2.1,s.2.2)))))))))
 (.ret (.inr ((s.1,(s.2.1,s.2.2))))))
def za (x:((List Int)×(Int×(Int×(Int×((List I9)×Int)))))):aI:=⟨[.env],⟨cA 90 0 [(0,.v (.one (.full 0))),(1,.v (.one (.i .i64))),(4,.v (.one (.mv 73 true [.full 1,.ext]))),(11,.v (.one (.i .i64))),(12,.v (.one (.i .i64)))],[.row yi 1,.row bP 0,.dO 2],3,none,[6],[0,1,5],[4,2,3],[(.l yi),.i,.i],[.i x.2.1,.v (.int .i64 x.2.2.2.2.2),.l bP x.2.2.2.2.1]⟩,[⟨(.exit 0),.normal,⟨cA 90 0 [(11,.v (.one (.i .i64)))],[.row yi 1,.row bP 0,.dO 2],3,none,[3],[2],[1,0],[(.l yi),.i],[.l bP x.2.2.2.2.1]⟩⟩]⟩
def cx (x:((List Int)×(Int×(Int×(Int×((List I9)×Int)))))) (s:((List Int)×I2)):((List Int)×I2)⊕((List Int)×Int):=
 (ai (run (dF x) (s.1,(s.2.1,s.2.2))) fun r=>
 (ai (run (dG x) (r.1,(r.2.1,r.2.2))) fun r_1=>
 (if (r_1.2.1>r_1.2.2) then
 (Sum.inr ((r_1.1,r_1.2.1))) else
 (ai (List.set r_1.1 (Int.toNat r_1.2.1) (List.getD r_1.1 (Int.toNat r_1.2.2) (0:Int))) fun y=>
 (ai (List.set y (Int.toNat r_1.2.2) (List.getD r_1.1 (Int.toNat r_1.2.1) (0:Int))) fun aq=>
 (Sum.inl (aq,((ae (r_1.2.1+(1:Int))),(ae (r_1.2.2- (1:Int)))))))))))
def iQ (x:((List Int)×(Int×(Int×(Int×((List I9)×Int)))))) (s:((List Int)×I2)):Prop:=
 (Term (dF x) (lR x) (s.1,(s.2.1,s.2.2))/\
 az (run (dF x) (s.1,(s.2.1,s.2.2))) fun r=>
 (Term (dG x) (lS x) (r.1,(r.2.1,r.2.2))/\
 az (run (dG x) (r.1,(r.2.1,r.2.2))) fun r_1=>
 (¬(r_1.2.1>r_1.2.2)->
 ((((0:Int)<=r_1.2.2)/\ (r_1.2.2<(r_1.1.length:Int)))/\
 (((Int.toNat r_1.2.2)<(List.length r_1.1))/\
 (((Int.toNat r_1.2.2)<(List.length r_1.1))/\
 ((((0:Int)<=r_1.2.1)/\ (r_1.2.1<(r_1.1.length:Int)))/\
 (((Int.toNat r_1.2.1)<(List.length r_1.1))/\
 (((Int.toNat r_1.2.1)<(List.length r_1.1))/\
 ((((0:Int)<=r_1.2.1)/\ (r_1.2.1<(r_1.1.length:Int)))/\
 (((Int.toNat r_1.2.1)<(List.length r_1.1))/\
 (((Int.toNat r_1.2.1)<(List.length r_1.1))/\
 (az (List.set r_1.1 (Int.toNat r_1.2.1) (List.getD r_1.1 (Int.toNat r_1.2.2) (0:Int))) fun y=>
 ((((0:Int)<=r_1.2.2)/\ (r_1.2.2<(y.length:Int)))/\
 (((Int.toNat r_1.2.2)<(List.length y))/\
 ((Int.toNat r_1.2.2)<(List.length y)))))))))))))))))
def tK (x:((List Int)×(Int×(Int×(Int×((List I9)×Int)))))) (s:((List Int)×I2)):Tr (((List Int)×I2)⊕((List Int)×Int)) true:=
 (aI.lp (zb x) (tL x) (s.1,(s.2.1,s.2.2)) fun r=>
 (aI.lp (zc x) (tM x) (r.1,(r.2.1,r.2.2)) fun r_1=>
 (.Di (r_1.2.1>r_1.2.2)
 (.ret (.inr ((r_1.1,r_1.2.1))))
 (.bO r_1.2.2 r_1.1
 (.bO r_1.2.1 r_1.1
 (.bO r_1.2.1 r_1.1
 (.lt (List.set r_1.1 (tN r_1.2.1) (gI r_1.1 r_1.2.2)) fun y=>
 (.bO r_1.2.2 y
 (.lt (List.set y (tN r_1.2.2) (gI r_1.1 r_1.2.1)) fun aq=>
 (.ret (.inl (aq,((w1 r_1.2.1),(wm r_1.2.2))))))))))))))
def dN (x:((List Int)×(Int×(Int×(Int×((List I9)×Int)))))):(Int×((List Int)×(Bool×(Bool×(Bool×Bool))))):=
 (ai (List.set x.1 (Int.toNat x.2.1) (List.getD x.1 (Int.toNat x.2.2.2.1) (0:Int))) fun y=>
 (ai (List.set y (Int.toNat x.2.2.2.1) (List.getD x.1 (Int.toNat x.2.1) (0:Int))) fun aq=>
 (ai (run (cx x) (aq,((ae (x.2.1+(1:Int))),(ae (x.2.2.1- (1:Int)))))) fun r=>
 (r.2,(r.1,(false,(false,(false,false))))))))
def b7 (x:((List Int)×(Int×(Int×(Int×((List I9)×Int)))))):Prop:=
 ((((0:Int)<=x.2.2.2.1)/\ (x.2.2.2.1<(x.1.length:Int)))/\
 (((Int.toNat x.2.2.2.1)<(List.length x.1))/\
 (((Int.toNat x.2.2.2.1)<(List.length x.1))/\
 ((((0:Int)<=x.2.1)/\ (x.2.1<(x.1.length:Int)))/\
 (((Int.toNat x.2.1)<(List.length x.1))/\
 (((Int.toNat x.2.1)<(List.length x.1))/\
 ((((0:Int)<=x.2.1)/\ (x.2.1<(x.1.length:Int)))/\
 (((Int.toNat x.2.1)<(List.length x.1))/\
 (((Int.toNat x.2.1)<(List.length x.1))/\
 (az (List.set x.1 (Int.toNat x.2.1) (List.getD x.1 (Int.toNat x.2.2.2.1) (0:Int))) fun y=>
 ((((0:Int)<=x.2.2.2.1)/\ (x.2.2.2.1<(y.length:Int)))/\
 (((Int.toNat x.2.2.2.1)<(List.length y))/\
 (((Int.toNat x.2.2.2.1)<(List.length y))/\
 (az (List.set y (Int.toNat x.2.2.2.1) (List.getD x.1 (Int.toNat x.2.1) (0:Int))) fun aq=>
 (Term (cx x) (iQ x) (aq,((ae (x.2.1+(1:Int))),(ae (x.2.2.1- (1:Int)))))/\
 az (run (cx x) (aq,((ae (x.2.1+(1:Int))),(ae (x.2.2.1- (1:Int)))))) fun r=>
 ((List.length r.1)=(List.length x.1)))))))))))))))))
def RS (x:((List Int)×(Int×(Int×(Int×((List I9)×Int)))))):Tr (Int×((List Int)×(Bool×(Bool×(Bool×Bool))))) true:=
 (.bO x.2.2.2.1 x.1
 (.bO x.2.1 x.1
 (.bO x.2.1 x.1
 (.lt (List.set x.1 (tN x.2.1) (gI x.1 x.2.2.2.1)) fun y=>
 (.bO x.2.2.2.1 y
 (.lt (List.set y (tN x.2.2.2.1) (gI x.1 x.2.1)) fun aq=>
 (aI.lp (za x) (tK x) (aq,((w1 x.2.1),(wm x.2.2.1))) fun r=>
 (.pn 0 2
 (.og ((decide ((List.length r.1)=(List.length x.1)))&&true) ((List.length r.1)=(List.length x.1)) (fun h=>(c7 (decide_eq_true h) rfl))
 (.ret (r.2,(r.1,(false,(false,(false,false)))))))))))))))
abbrev de:Dh:=⟨(.pair (.row yi) (.pair (.val (.one yi)) (.pair (.val (.one yi)) (.pair (.val (.one yi)) (.val ug))))),(.one yi),b7,dN⟩
theorem OU:ak Tryz.prog 135 (bf de):=ak.Ly de RS (fn:=Tryz.f135) aC m9 mixed (by kernel_rfl) (aA.nil _ _) (fun x=>(aB.tr aC (ah.c8 m9 (aA.nil _ _)) mixed 0 (za x) (tK x) (aB.tr aC (ah.c8 m9 (aA.nil _ _)) mixed 2 (zb x) (tL x) (aB.tr aC (ah.c8 m9 (aA.nil _ _)) mixed 4 (zc x) (tM x) aB.nil (by kernel_rfl) fun g s Q=>(by kernel_rfl)) (by kernel_rfl) fun g s Q=>(by kernel_rfl)) (by kernel_rfl) fun g s Q=>(by kernel_rfl))) (fun x=>(by kernel_rfl)) fun x r0 Q=>(by kernel_rfl)
def Fu:List (Nat×Ev.Spec):=(135,bf de)::MJ
theorem fO:ah Tryz.prog Fu:=ah.add (fn:=Tryz.f135) (by kernel_rfl) OU m9
def BZ (x:((List Int)×(Int×(Int×(Int×((List I9)×Int)))))):aI:=⟨[.env],⟨cA 178 0 [(0,.v (.one (.full 0))),(1,.v (.one (.i .i64))),(4,.v (.one (.mv 73 true [.full 1,.ext]))),(12,.v (.one (.i .i64))),(13,.v (.one (.i .i64)))],[.row yi 1,.row bP 0,.dO 2],3,none,[6],[0,1,3,5],[4,2],[(.l yi),.i],[.i x.2.1,.v (.int .i64 x.2.2.2.2.2),.i (ae (x.2.2.1- (1:Int))),.l bP x.2.2.2.2.1]⟩,[⟨(.exit 0),.normal,⟨cA 178 0 [(0,.v (.one (.full 0))),(1,.v (.one (.i .i64))),(4,.v (.one (.mv 73 true [.full 1,.ext]))),(12,.v (.one (.i .i64))),(13,.v (.one (.i .i64)))],[.row yi 1,.row bP 0,.dO 2],3,none,[6],[0,1,3,5],[4,2],[(.l yi),.i],[.i x.2.1,.v (.int .i64 x.2.2.2.2.2),.i (ae (x.2.2.1- (1:Int))),.l bP x.2.2.2.2.1]⟩⟩]⟩
def ew (x:((List Int)×(Int×(Int×(Int×((List I9)×Int)))))) (s:((List Int)×Int)):((List Int)×Int)⊕((List Int)×Int):=
 (if (s.2<=(ae (x.2.2.1- (1:Int)))) then
 (ai (jQ (x.2.2.2.2,((List.getD s.1 (Int.toNat s.2) (0:Int)),(List.getD s.1 (Int.toNat x.2.1) (0:Int))))) fun y=>
 (if (y<(0:Int)) then
 (Sum.inl (s.1,(ae (s.2+(1:Int))))) else
 (Sum.inr ((s.1,s.2))))) else
 (Sum.inr ((s.1,s.2))))
def mU (x:((List Int)×(Int×(Int×(Int×((List I9)×Int)))))) (s:((List Int)×Int)):Prop:=
 ((s.2<=(ae (x.2.2.1- (1:Int))))->
 ((((0:Int)<=s.2)/\ (s.2<(s.1.length:Int)))/\
 (((Int.toNat s.2)<(List.length s.1))/\
 (((Int.toNat s.2)<(List.length s.1))/\
 ((((0:Int)<=x.2.1)/\ (x.2.1<(s.1.length:Int)))/\
 (((Int.toNat x.2.1)<(List.length s.1))/\
 (((Int.toNat x.2.1)<(List.length s.1))/\
 (bI (x.2.2.2.2,((List.getD s.1 (Int.toNat s.2) (0:Int)),(List.getD s.1 (Int.toNat x.2.1) (0:Int))))))))))))
def v5 (x:((List Int)×(Int×(Int×(Int×((List I9)×Int)))))) (s:((List Int)×Int)):Tr (((List Int)×Int)⊕((List Int)×Int)) true:=
 (.i10 (s.2<=(wm x.2.2.1))
 (.bO s.2 s.1
 (.bO x.2.1 s.1
 (.fn dy (x.2.2.2.2,((gI s.1 s.2),(gI s.1 x.2.1))) fun y=>
 (.tu (y<z0)
 (.ret (.inl (s.1,(w1 s.2))))
 (.ret (.inr ((s.1,s.2))))))))
 (.ret (.inr ((s.1,s.2)))))
def B1 (x:((List Int)×(Int×(Int×(Int×((List I9)×Int)))))):aI:=⟨[.env],⟨cA 178 0 [(0,.v (.one (.full 0))),(1,.v (.one (.i .i64))),(4,.v (.one (.mv 73 true [.full 1,.ext]))),(12,.v (.one (.i .i64))),(13,.v (.one (.i .i64)))],[.row yi 1,.row bP 0,.dO 2],3,none,[6],[0,1,5],[4,2,3],[(.l yi),.i,.i],[.i x.2.1,.v (.int .i64 x.2.2.2.2.2),.l bP x.2.2.2.2.1]⟩,[⟨(.exit 2),.normal,⟨cA 178 0 [(0,.v (.one (.full 0))),(1,.v (.one (.i .i64))),(4,.v (.one (.mv 73 true [.full 1,.ext]))),(12,.v (.one (.i .i64))),(13,.v (.one (.i .i64)))],[.row yi 1,.row bP 0,.dO 2],3,none,[6],[0,1,5],[4,2,3],[(.l yi),.i,.i],[.i x.2.1,.v (.int .i64 x.2.2.2.2.2),.l bP x.2.2.2.2.1]⟩⟩]⟩
def eA (x:((List Int)×(Int×(Int×(Int×((List I9)×Int)))))) (s:((List Int)×I2)):((List Int)×I2)⊕((List Int)×I2):=
 (if (s.2.1<=s.2.2) then
 (ai (jQ (x.2.2.2.2,((List.getD s.1 (Int.toNat s.2.2) (0:Int)),(List.getD s.1 (Int.toNat x.2.1) (0:Int))))) fun y=>
 (if ((!(decide (y<(0:Int))))=true) then
 (Sum.inl (s.1,(s.2.1,(ae (s.2.2- (1:Int)))))) else
 (Sum.inr ((s.1,(s.2.1,s.2.2)))))) else
 (Sum.inr ((s.1,(s.2.1,s.2.2)))))
def mV (x:((List Int)×(Int×(Int×(Int×((List I9)×Int)))))) (s:((List Int)×I2)):Prop:=
 ((s.2.1<=s.2.2)->
 ((((0:Int)<=s.2.2)/\ (s.2.2<(s.1.length:Int)))/\
 (((Int.toNat s.2.2)<(List.length s.1))/\
 (((Int.toNat s.2.2)<(List.length s.1))/\
 ((((0:Int)<=x.2.1)/\ (x.2.1<(s.1.length:Int)))/\
 (((Int.toNat x.2.1)<(List.length s.1))/\
 (((Int.toNat x.2.1)<(List.length s.1))/\
 (bI (x.2.2.2.2,((List.getD s.1 (Int.toNat s.2.2) (0:Int)),(List.getD s.1 (Int.toNat x.2.1) (0:Int))))))))))))
def v7 (x:((List Int)×(Int×(Int×(Int×((List I9)×Int)))))) (s:((List Int)×I2)):Tr (((List Int)×I2)⊕((List Int)×I2)) true:=
 (.i10 (s.2.1<=s.2.2)
 (.bO s.2.2 s.1
 (.bO x.2.1 s.1
 (.fn dy (x.2.2.2.2,((gI s.1 s.2.2),(gI s.1 x.2.1))) fun y=>
 (.fu (!(decide (y<z0)))
 (.ret (.inl (s.1,(s.2.1,(wm s.2.2)))))
 (.ret (.inr ((s.1,(s.2.1,s.2.2)))))))))
 (.ret (.inr ((s.1,(s.2.1,s.2.2))))))
def B4 (x:((List Int)×(Int×(Int×(Int×((List I9)×Int)))))):aI:=⟨[.env],⟨cA 178 0 [(0,.v (.one (.full 0))),(1,.v (.one (.i .i64))),(4,.v (.one (.mv 73 true [.full 1,.ext]))),(12,.v (.one (.i .i64))),(13,.v (.one (.i .i64)))],[.row yi 1,.row bP 0,.dO 2],3,none,[6],[0,1,5],[4,2,3],[(.l yi),.i,.i],[.i x.2.1,.v (.int .i64 x.2.2.2.2.2),.l bP x.2.2.2.2.1]⟩,[⟨(.exit 6),.normal,⟨cA 178 0 [(0,.v (.one (.full 0))),(1,.v (.one (.i .i64))),(4,.v (.one (.mv 73 true [.full 1,.ext]))),(12,.v (.one (.i .i64))),(13,.v (.one (.i .i64)))],[.row yi 1,.row bP 0,.dO 2],3,none,[6],[0,1,5],[4,2,3],[(.l yi),.i,.i],[.i x.2.1,.v (.int .i64 x.2.2.2.2.2),.l bP x.2.2.2.2.1]⟩⟩]⟩
def eB (x:((List Int)×(Int×(Int×(Int×((List I9)×Int)))))) (s:((List Int)×I2)):((List Int)×I2)⊕((List Int)×I2):=
 (if (s.2.1<=s.2.2) then
 (ai (jQ (x.2.2.2.2,((List.getD s.1 (Int.toNat s.2.1) (0:Int)),(List.getD s.1 (Int.toNat x.2.1) (0:Int))))) fun y=>
 (if (y<(0:Int)) then
 (Sum.inl (s.1,((ae (s.2.1+(1:Int))),s.2.2))) else
 (Sum.inr ((s.1,(s.2.1,s.2.2)))))) else
 (Sum.inr ((s.1,(s.2.1,s.2.2)))))
def mW (x:((List Int)×(Int×(Int×(Int×((List I9)×Int)))))) (s:((List Int)×I2)):Prop:=
 ((s.2.1<=s.2.2)->
 ((((0:Int)<=s.2.1)/\ (s.2.1<(s.1.length:Int)))/\
 (((Int.toNat s.2.1)<(List.length s.1))/\
 (((Int.toNat s.2.1)<(List.length s.1))/\
 ((((0:Int)<=x.2.1)/\ (x.2.1<(s.1.length:Int)))/\
 (((Int.toNat x.2.1)<(List.length s.1))/\
 (((Int.toNat x.2.1)<(List.length s.1))/\
 (bI (x.2.2.2.2,((List.getD s.1 (Int.toNat s.2.1) (0:Int)),(List.getD s.1 (Int.toNat x.2.1) (0:Int))))))))))))
def v9 (x:((List Int)×(Int×(Int×(Int×((List I9)×Int)))))) (s:((List Int)×I2)):Tr (((List Int)×I2)⊕((List Int)×I2)) true:=
 (.i10 (s.2.1<=s.2.2)
 (.bO s.2.1 s.1
 (.bO x.2.1 s.1
 (.fn dy (x.2.2.2.2,((gI s.1 s.2.1),(gI s.1 x.2.1))) fun y=>
 (.tu (y<z0)
 (.ret (.inl (s.1,((w1 s.2.1),s.2.2))))
 (.ret (.inr ((s.1,(s.2.1,s.2.2)))))))))
 (.ret (.inr ((s.1,(s.2.1,s.2.2))))))
def B5 (x:((List Int)×(Int×(Int×(Int×((List I9)×Int)))))):aI:=⟨[.env],⟨cA 178 0 [(0,.v (.one (.full 0))),(1,.v (.one (.i .i64))),(4,.v (.one (.mv 73 true [.full 1,.ext]))),(12,.v (.one (.i .i64))),(13,.v (.one (.i .i64)))],[.row yi 1,.row bP 0,.dO 2],3,none,[6],[0,1,5],[4,2,3],[(.l yi),.i,.i],[.i x.2.1,.v (.int .i64 x.2.2.2.2.2),.l bP x.2.2.2.2.1]⟩,[⟨(.exit 8),.normal,⟨cA 178 0 [(0,.v (.one (.full 0))),(1,.v (.one (.i .i64))),(4,.v (.one (.mv 73 true [.full 1,.ext]))),(12,.v (.one (.i .i64))),(13,.v (.one (.i .i64)))],[.row yi 1,.row bP 0,.dO 2],3,none,[6],[0,1,5],[4,2,3],[(.l yi),.i,.i],[.i x.2.1,.v (.int .i64 x.2.2.2.2.2),.l bP x.2.2.2.2.1]⟩⟩]⟩
def eD (x:((List Int)×(Int×(Int×(Int×((List I9)×Int)))))) (s:((List Int)×I2)):((List Int)×I2)⊕((List Int)×I2):=
 (if (s.2.1<=s.2.2) then
 (ai (jQ (x.2.2.2.2,((List.getD s.1 (Int.toNat s.2.2) (0:Int)),(List.getD s.1 (Int.toNat x.2.1) (0:Int))))) fun y=>
 (if ((!(decide (y<(0:Int))))=true) then
 (Sum.inl (s.1,(s.2.1,(ae (s.2.2- (1:Int)))))) else
 (Sum.inr ((s.1,(s.2.1,s.2.2)))))) else
 (Sum.inr ((s.1,(s.2.1,s.2.2)))))
def mX (x:((List Int)×(Int×(Int×(Int×((List I9)×Int)))))) (s:((List Int)×I2)):Prop:=
 ((s.2.1<=s.2.2)->
 ((((0:Int)<=s.2.2)/\ (s.2.2<(s.1.length:Int)))/\
 (((Int.toNat s.2.2)<(List.length s.1))/\
 (((Int.toNat s.2.2)<(List.length s.1))/\
 ((((0:Int)<=x.2.1)/\ (x.2.1<(s.1.length:Int)))/\
 (((Int.toNat x.2.1)<(List.length s.1))/\
 (((Int.toNat x.2.1)<(List.length s.1))/\
 (bI (x.2.2.2.2,((List.getD s.1 (Int.toNat s.2.2) (0:Int)),(List.getD s.1 (Int.toNat x.2.1) (0:Int))))))))))))
def we (x:((List Int)×(Int×(Int×(Int×((List I9)×Int)))))) (s:((List Int)×I2)):Tr (((List Int)×I2)⊕((List Int)×I2)) true:=
 (.i10 (s.2.1<=s.2.2)
 (.bO s.2.2 s.1
 (.bO x.2.1 s.1
 (.fn dy (x.2.2.2.2,((gI s.1 s.2.2),(gI s.1 x.2.1))) fun y=>
 (.fu (!(decide (y<z0)))
 (.ret (.inl (s.1,(s.2.1,(wm s.2.2)))))
 (.ret (.inr ((s.1,(s.2.1,s.2.2)))))))))
 (.ret (.inr ((s.1,(s.2.1,s.2.2))))))
def B2 (x:((List Int)×(Int×(Int×(Int×((List I9)×Int)))))):aI:=⟨[.env],⟨cA 178 0 [(0,.v (.one (.full 0))),(1,.v (.one (.i .i64))),(4,.v (.one (.mv 73 true [.full 1,.ext]))),(12,.v (.one (.i .i64))),(13,.v (.one (.i .i64)))],[.row yi 1,.row bP 0,.dO 2],3,none,[6],[0,1,5],[4,2,3],[(.l yi),.i,.i],[.i x.2.1,.v (.int .i64 x.2.2.2.2.2),.l bP x.2.2.2.2.1]⟩,[⟨(.exit 4),.normal,⟨cA 178 0 [(0,.v (.one (.full 0))),(1,.v (.one (.i .i64))),(13,.v (.one (.i .i64)))],[.row yi 1,.row bP 0,.dO 2],3,none,[4],[0,3],[2,1],[(.l yi),.i],[.i x.2.1,.l bP x.2.2.2.2.1]⟩⟩]⟩
def bD (x:((List Int)×(Int×(Int×(Int×((List I9)×Int)))))) (s:((List Int)×I2)):((List Int)×I2)⊕((List Int)×Int):=
 (ai (run (eB x) (s.1,(s.2.1,s.2.2))) fun r=>
 (ai (run (eD x) (r.1,(r.2.1,r.2.2))) fun r_1=>
 (if (r_1.2.1>r_1.2.2) then
 (Sum.inr ((r_1.1,r_1.2.2))) else
 (ai (List.set r_1.1 (Int.toNat r_1.2.1) (List.getD r_1.1 (Int.toNat r_1.2.2) (0:Int))) fun y=>
 (ai (List.set y (Int.toNat r_1.2.2) (List.getD r_1.1 (Int.toNat r_1.2.1) (0:Int))) fun aq=>
 (Sum.inl (aq,((ae (r_1.2.1+(1:Int))),(ae (r_1.2.2- (1:Int)))))))))))
def jI (x:((List Int)×(Int×(Int×(Int×((List I9)×Int)))))) (s:((List Int)×I2)):Prop:=
 (Term (eB x) (mW x) (s.1,(s.2.1,s.2.2))/\
 az (run (eB x) (s.1,(s.2.1,s.2.2))) fun r=>
 (Term (eD x) (mX x) (r.1,(r.2.1,r.2.2))/\
 az (run (eD x) (r.1,(r.2.1,r.2.2))) fun r_1=>
 (¬(r_1.2.1>r_1.2.2)->
 ((((0:Int)<=r_1.2.2)/\ (r_1.2.2<(r_1.1.length:Int)))/\
 (((Int.toNat r_1.2.2)<(List.length r_1.1))/\
 (((Int.toNat r_1.2.2)<(List.length r_1.1))/\
 ((((0:Int)<=r_1.2.1)/\ (r_1.2.1<(r_1.1.length:Int)))/\
 (((Int.toNat r_1.2.1)<(List.length r_1.1))/\
 (((Int.toNat r_1.2.1)<(List.length r_1.1))/\
 ((((0:Int)<=r_1.2.1)/\ (r_1.2.1<(r_1.1.length:Int)))/\
 (((Int.toNat r_1.2.1)<(List.length r_1.1))/\
 (((Int.toNat r_1.2.1)<(List.length r_1.1))/\
 (az (List.set r_1.1 (Int.toNat r_1.2.1) (List.getD r_1.1 (Int.toNat r_1.2.2) (0:Int))) fun y=>
 ((((0:Int)<=r_1.2.2)/\ (r_1.2.2<(y.length:Int)))/\
 (((Int.toNat r_1.2.2)<(List.length y))/\
 ((Int.toNat r_1.2.2)<(List.length y)))))))))))))))))
def v8 (x:((List Int)×(Int×(Int×(Int×((List I9)×Int)))))) (s:((List Int)×I2)):Tr (((List Int)×I2)⊕((List Int)×Int)) true:=
 (aI.lp (B4 x) (v9 x) (s.1,(s.2.1,s.2.2)) fun r=>
 (aI.lp (B5 x) (we x) (r.1,(r.2.1,r.2.2)) fun r_1=>
 (.Di (r_1.2.1>r_1.2.2)
 (.ret (.inr ((r_1.1,r_1.2.2))))
 (.bO r_1.2.2 r_1.1
 (.bO r_1.2.1 r_1.1
 (.bO r_1.2.1 r_1.1
 (.lt (List.set r_1.1 (tN r_1.2.1) (gI r_1.1 r_1.2.2)) fun y=>
 (.bO r_1.2.2 y
 (.lt (List.set y (tN r_1.2.2) (gI r_1.1 r_1.2.1)) fun aq=>
 (.ret (.inl (aq,((w1 r_1.2.1),(wm r_1.2.2))))))))))))))
def bn (x:((List Int)×(Int×(Int×(Int×((List I9)×Int)))))):((Int×Bool)×((List Int)×(Bool×(Bool×(Bool×Bool))))):=
 (ai (List.set x.1 (Int.toNat x.2.1) (List.getD x.1 (Int.toNat x.2.2.2.1) (0:Int))) fun y=>
 (ai (List.set y (Int.toNat x.2.2.2.1) (List.getD x.1 (Int.toNat x.2.1) (0:Int))) fun aq=>
 (ai (run (ew x) (aq,(ae (x.2.1+(1:Int))))) fun r=>
 (ai (run (eA x) (r.1,(r.2,(ae (x.2.2.1- (1:Int)))))) fun r_1=>
 (if (r_1.2.1>r_1.2.2) then
 (ai (List.set r_1.1 (Int.toNat r_1.2.2) (List.getD r_1.1 (Int.toNat x.2.1) (0:Int))) fun y_2=>
 (ai (List.set y_2 (Int.toNat x.2.1) (List.getD r_1.1 (Int.toNat r_1.2.2) (0:Int))) fun au=>
 ((r_1.2.2,true),(au,(false,(false,(false,false))))))) else
 (ai (List.set r_1.1 (Int.toNat r_1.2.1) (List.getD r_1.1 (Int.toNat r_1.2.2) (0:Int))) fun y_2=>
 (ai (List.set y_2 (Int.toNat r_1.2.2) (List.getD r_1.1 (Int.toNat r_1.2.1) (0:Int))) fun au=>
 (ai (run (bD x) (au,((ae (r_1.2.1+(1:Int))),(ae (r_1.2.2- (1:Int)))))) fun r_2=>
 (ai (List.set r_2.1 (Int.toNat r_2.2) (List.getD r_2.1 (Int.toNat x.2.1) (0:Int))) fun aG=>
 (ai (List.set aG (Int.toNat x.2.1) (List.getD r_2.1 (Int.toNat r_2.2) (0:Int))) fun cu=>
 ((r_2.2,false),(cu,(false,(false,(false,false)))))))))))))))
def aU (x:((List Int)×(Int×(Int×(Int×((List I9)×Int)))))):Prop:=
 ((((0:Int)<=x.2.2.2.1)/\ (x.2.2.2.1<(x.1.length:Int)))/\
 (((Int.toNat x.2.2.2.1)<(List.length x.1))/\
 (((Int.toNat x.2.2.2.1)<(List.length x.1))/\
 ((((0:Int)<=x.2.1)/\ (x.2.1<(x.1.length:Int)))/\
 (((Int.toNat x.2.1)<(List.length x.1))/\
 (((Int.toNat x.2.1)<(List.length x.1))/\
 ((((0:Int)<=x.2.1)/\ (x.2.1<(x.1.length:Int)))/\
 (((Int.toNat x.2.1)<(List.length x.1))/\
 (((Int.toNat x.2.1)<(List.length x.1))/\
 (az (List.set x.1 (Int.toNat x.2.1) (List.getD x.1 (Int.toNat x.2.2.2.1) (0:Int))) fun y=>
 ((((0:Int)<=x.2.2.2.1)/\ (x.2.2.2.1<(y.length:Int)))/\
 (((Int.toNat x.2.2.2.1)<(List.length y))/\
 (((Int.toNat x.2.2.2.1)<(List.length y))/\
 (az (List.set y (Int.toNat x.2.2.2.1) (List.getD x.1 (Int.toNat x.2.1) (0:Int))) fun aq=>
 (Term (ew x) (mU x) (aq,(ae (x.2.1+(1:Int))))/\
 az (run (ew x) (aq,(ae (x.2.1+(1:Int))))) fun r=>
 (Term (eA x) (mV x) (r.1,(r.2,(ae (x.2.2.1- (1:Int)))))/\
 az (run (eA x) (r.1,(r.2,(ae (x.2.2.1- (1:Int)))))) fun r_1=>
 (((r_1.2.1>r_1.2.2)->
 ((((0:Int)<=x.2.1)/\ (x.2.1<(r_1.1.length:Int)))/\
 (((Int.toNat x.2.1)<(List.length r_1.1))/\
 (((Int.toNat x.2.1)<(List.length r_1.1))/\
 ((((0:Int)<=r_1.2.2)/\ (r_1.2.2<(r_1.1.length:Int)))/\
 (((Int.toNat r_1.2.2)<(List.length r_1.1))/\
 (((Int.toNat r_1.2.2)<(List.length r_1.1))/\
 ((((0:Int)<=r_1.2.2)/\ (r_1.2.2<(r_1.1.length:Int)))/\
 (((Int.toNat r_1.2.2)<(List.length r_1.1))/\
 (((Int.toNat r_1.2.2)<(List.length r_1.1))/\
 (az (List.set r_1.1 (Int.toNat r_1.2.2) (List.getD r_1.1 (Int.toNat x.2.1) (0:Int))) fun y_2=>
 ((((0:Int)<=x.2.1)/\ (x.2.1<(y_2.length:Int)))/\
 (((Int.toNat x.2.1)<(List.length y_2))/\
 (((Int.toNat x.2.1)<(List.length y_2))/\
 (az (List.set y_2 (Int.toNat x.2.1) (List.getD r_1.1 (Int.toNat r_1.2.2) (0:Int))) fun au=>
 ((List.length au)=(List.length x.1)))))))))))))))))/\
 (¬(r_1.2.1>r_1.2.2)->
 ((((0:Int)<=r_1.2.2)/\ (r_1.2.2<(r_1.1.length:Int)))/\
 (((Int.toNat r_1.2.2)<(List.length r_1.1))/\
 (((Int.toNat r_1.2.2)<(List.length r_1.1))/\
 ((((0:Int)<=r_1.2.1)/\ (r_1.2.1<(r_1.1.length:Int)))/\
 (((Int.toNat r_1.2.1)<(List.length r_1.1))/\
 (((Int.toNat r_1.2.1)<(List.length r_1.1))/\
 ((((0:Int)<=r_1.2.1)/\ (r_1.2.1<(r_1.1.length:Int)))/\
 (((Int.toNat r_1.2.1)<(List.length r_1.1))/\
 (((Int.toNat r_1.2.1)<(List.length r_1.1))/\
 (az (List.set r_1.1 (Int.toNat r_1.2.1) (List.getD r_1.1 (Int.toNat r_1.2.2) (0:Int))) fun y_2=>
 ((((0:Int)<=r_1.2.2)/\ (r_1.2.2<(y_2.length:Int)))/\
 (((Int.toNat r_1.2.2)<(List.length y_2))/\
 (((Int.toNat r_1.2.2)<(List.length y_2))/\
 (az (List.set y_2 (Int.toNat r_1.2.2) (List.getD r_1.1 (Int.toNat r_1.2.1) (0:Int))) fun au=>
 (Term (bD x) (jI x) (au,((ae (r_1.2.1+(1:Int))),(ae (r_1.2.2- (1:Int)))))/\
 az (run (bD x) (au,((ae (r_1.2.1+(1:Int))),(ae (r_1.2.2- (1:Int)))))) fun r_2=>
 ((((0:Int)<=x.2.1)/\ (x.2.1<(r_2.1.length:Int)))/\
 (((Int.toNat x.2.1)<(List.length r_2.1))/\
 (((Int.toNat x.2.1)<(List.length r_2.1))/\
 ((((0:Int)<=r_2.2)/\ (r_2.2<(r_2.1.length:Int)))/\
 (((Int.toNat r_2.2)<(List.length r_2.1))/\
 (((Int.toNat r_2.2)<(List.length r_2.1))/\
 ((((0:Int)<=r_2.2)/\ (r_2.2<(r_2.1.length:Int)))/\
 (((Int.toNat r_2.2)<(List.length r_2.1))/\
 (((Int.toNat r_2.2)<(List.length r_2.1))/\
 (az (List.set r_2.1 (Int.toNat r_2.2) (List.getD r_2.1 (Int.toNat x.2.1) (0:Int))) fun aG=>
 ((((0:Int)<=x.2.1)/\ (x.2.1<(aG.length:Int)))/\
 (((Int.toNat x.2.1)<(List.length aG))/\
 (((Int.toNat x.2.1)<(List.length aG))/\
 (az (List.set aG (Int.toNat x.2.1) (List.getD r_2.1 (Int.toNat r_2.2) (0:Int))) fun cu=>
 ((List.length cu)=(List.length x.1)))))))))))))))))))))))))))))))))))))))))))))))))
def US (x:((List Int)×(Int×(Int×(Int×((List I9)×Int)))))):Tr ((Int×Bool)×((List Int)×(Bool×(Bool×(Bool×Bool))))) true:=
 (.bO x.2.2.2.1 x.1
 (.bO x.2.1 x.1
 (.bO x.2.1 x.1
 (.lt (List.set x.1 (tN x.2.1) (gI x.1 x.2.2.2.1)) fun y=>
 (.bO x.2.2.2.1 y
 (.lt (List.set y (tN x.2.2.2.1) (gI x.1 x.2.1)) fun aq=>
 (aI.lp (BZ x) (v5 x) (aq,(w1 x.2.1)) fun r=>
 (aI.lp (B1 x) (v7 x) (r.1,(r.2,(wm x.2.2.1))) fun r_1=>
 (.i11 (r_1.2.1>r_1.2.2)
 (.bO x.2.1 r_1.1
 (.bO r_1.2.2 r_1.1
 (.bO r_1.2.2 r_1.1
 (.lt (List.set r_1.1 (tN r_1.2.2) (gI r_1.1 x.2.1)) fun y_2=>
 (.bO x.2.1 y_2
 (.lt (List.set y_2 (tN x.2.1) (gI r_1.1 r_1.2.2)) fun au=>
 (.pn 0 2
 (.og ((decide ((List.length au)=(List.length x.1)))&&true) ((List.length au)=(List.length x.1)) (fun h=>(c7 (decide_eq_true h) rfl))
 (.ret ((r_1.2.2,true),(au,(false,(false,(false,false))))))))))))))
 (.bO r_1.2.2 r_1.1
 (.bO r_1.2.1 r_1.1
 (.bO r_1.2.1 r_1.1
 (.lt (List.set r_1.1 (tN r_1.2.1) (gI r_1.1 r_1.2.2)) fun y_2=>
 (.bO r_1.2.2 y_2
 (.lt (List.set y_2 (tN r_1.2.2) (gI r_1.1 r_1.2.1)) fun au=>
 (aI.lp (B2 x) (v8 x) (au,((w1 r_1.2.1),(wm r_1.2.2))) fun r_2=>
 (.bO x.2.1 r_2.1
 (.bO r_2.2 r_2.1
 (.bO r_2.2 r_2.1
 (.lt (List.set r_2.1 (tN r_2.2) (gI r_2.1 x.2.1)) fun aG=>
 (.bO x.2.1 aG
 (.lt (List.set aG (tN x.2.1) (gI r_2.1 r_2.2)) fun cu=>
 (.pn 0 2
 (.og ((decide ((List.length cu)=(List.length x.1)))&&true) ((List.length cu)=(List.length x.1)) (fun h=>(c7 (decide_eq_true h) rfl))
 (.ret ((r_2.2,false),(cu,(false,(false,(false,false))))))))))))))))))))))))))))))
abbrev bV:Dh:=⟨(.pair (.row yi) (.pair (.val (.one yi)) (.pair (.val (.one yi)) (.pair (.val (.one yi)) (.val ug))))),(.pair (.one yi) (.one Ty.bool)),aU,bn⟩
theorem RU:ak Tryz.prog 136 (bf bV):=ak.Ly bV US (fn:=Tryz.f136) aC fO mixed (by kernel_rfl) (aA.nil _ _) (fun x=>(aB.tr aC (ah.c8 fO (aA.nil _ _)) mixed 0 (BZ x) (v5 x) (aB.tr aC (ah.c8 fO (aA.nil _ _)) mixed 2 (B1 x) (v7 x) (aB.tr aC (ah.c8 fO (aA.nil _ _)) mixed 4 (B2 x) (v8 x) (aB.tr aC (ah.c8 fO (aA.nil _ _)) mixed 6 (B4 x) (v9 x) (aB.tr aC (ah.c8 fO (aA.nil _ _)) mixed 8 (B5 x) (we x) aB.nil (by kernel_rfl) fun g s Q=>(by kernel_rfl)) (by kernel_rfl) fun g s Q=>(by kernel_rfl)) (by kernel_rfl) fun g s Q=>(by kernel_rfl)) (by kernel_rfl) fun g s Q=>(by kernel_rfl)) (by kernel_rfl) fun g s Q=>(by kernel_rfl))) (fun x=>(by kernel_rfl)) fun x r0 Q=>(by kernel_rfl)
def Jt:List (Nat×Ev.Spec):=(136,bf bV)::Fu
theorem jk:ah Tryz.prog Jt:=ah.add (fn:=Tryz.f136) (by kernel_rfl) RU fO
def BX (x:((List Int)×(Int×(Int×((List I9)×Int))))):aI:=⟨[.env],⟨cA 141 0 [(0,.v (.one (.full 0))),(1,.v (.one (.i .i64))),(2,.v (.one (.i .i64))),(3,.v (.one (.mv 73 true [.full 1,.ext]))),(9,.v (.one (.i .i64))),(10,.v (.one (.i .i64)))],[.row yi 1,.row bP 0,.dO 2],3,none,[7],[0,1,2,6],[5,3,4],[(.l yi),.i,.i],[.i x.2.1,.i x.2.2.1,.v (.int .i64 x.2.2.2.2),.l bP x.2.2.2.1]⟩,[⟨(.exit 2),.normal,⟨cA 141 0 [(0,.v (.one (.full 0))),(1,.v (.one (.i .i64))),(2,.v (.one (.i .i64))),(3,.v (.one (.mv 73 true [.full 1,.ext]))),(9,.v (.one (.i .i64))),(10,.v (.one (.i .i64)))],[.row yi 1,.row bP 0,.dO 2],3,none,[7],[0,1,2,6],[5,3,4],[(.l yi),.i,.i],[.i x.2.1,.i x.2.2.1,.v (.int .i64 x.2.2.2.2),.l bP x.2.2.2.1]⟩⟩]⟩
def cO (x:((List Int)×(Int×(Int×((List I9)×Int))))) (s:((List Int)×I2)):((List Int)×I2)⊕((List Int)×I2):=
 (if (s.2.1<x.2.2.1) then
 (ai (jQ (x.2.2.2,((List.getD s.1 (Int.toNat s.2.1) (0:Int)),(List.getD s.1 (Int.toNat (ae (s.2.1- (1:Int)))) (0:Int))))) fun y=>
 (if ((!(decide (y<(0:Int))))=true) then
 (Sum.inl (s.1,((ae (s.2.1+(1:Int))),s.2.2))) else
 (Sum.inr ((s.1,(s.2.1,s.2.2)))))) else
 (Sum.inr ((s.1,(s.2.1,s.2.2)))))
def jH (x:((List Int)×(Int×(Int×((List I9)×Int))))) (s:((List Int)×I2)):Prop:=
 ((s.2.1<x.2.2.1)->
 ((((0:Int)<=s.2.1)/\ (s.2.1<(s.1.length:Int)))/\
 (((Int.toNat s.2.1)<(List.length s.1))/\
 (((Int.toNat s.2.1)<(List.length s.1))/\
 ((((0:Int)<=(ae (s.2.1- (1:Int))))/\ ((ae (s.2.1- (1:Int)))<(s.1.length:Int)))/\
 (((Int.toNat (ae (s.2.1- (1:Int))))<(List.length s.1))/\
 (((Int.toNat (ae (s.2.1- (1:Int))))<(List.length s.1))/\
 (bI (x.2.2.2,((List.getD s.1 (Int.toNat s.2.1) (0:Int)),(List.getD s.1 (Int.toNat (ae (s.2.1- (1:Int)))) (0:Int))))))))))))
def vX (x:((List Int)×(Int×(Int×((List I9)×Int))))) (s:((List Int)×I2)):Tr (((List Int)×I2)⊕((List Int)×I2)) true:=
 (.i10 (s.2.1<x.2.2.1)
 (.bO s.2.1 s.1
 (.bO (wm s.2.1) s.1
 (.fn dy (x.2.2.2,((gI s.1 s.2.1),(gI s.1 (wm s.2.1)))) fun y=>
 (.fu (!(decide (y<z0)))
 (.ret (.inl (s.1,((w1 s.2.1),s.2.2))))
 (.ret (.inr ((s.1,(s.2.1,s.2.2)))))))))
 (.ret (.inr ((s.1,(s.2.1,s.2.2))))))
def BY (x:((List Int)×(Int×(Int×((List I9)×Int))))):aI:=⟨[.env],⟨cA 141 0 [(0,.v (.one (.full 0))),(1,.v (.one (.i .i64))),(2,.v (.one (.i .i64))),(3,.v (.one (.mv 73 true [.full 1,.ext]))),(9,.v (.one (.i .i64))),(10,.v (.one (.i .i64))),(11,.v (.one (.i .i64)))],[.row yi 1,.row bP 0,.dO 2],3,none,[8],[0,1,2,7],[6,3,4,5],[(.l yi),.i,.i,.i],[.i x.2.1,.i x.2.2.1,.v (.int .i64 x.2.2.2.2),.l bP x.2.2.2.1]⟩,[⟨(.exit 4),.normal,⟨cA 141 0 [(0,.v (.one (.full 0))),(1,.v (.one (.i .i64))),(2,.v (.one (.i .i64))),(3,.v (.one (.mv 73 true [.full 1,.ext]))),(9,.v (.one (.i .i64))),(10,.v (.one (.i .i64)))],[.row yi 1,.row bP 0,.dO 2],3,none,[7],[0,1,2,6],[5,3,4],[(.l yi),.i,.i],[.i x.2.1,.i x.2.2.1,.v (.int .i64 x.2.2.2.2),.l bP x.2.2.2.1]⟩⟩]⟩
def cP (x:((List Int)×(Int×(Int×((List I9)×Int))))) (s:((List Int)×I3)):((List Int)×I3)⊕((List Int)×I2):=
 (if (s.2.2.2>=(1:Int)) then
 (ai (jQ (x.2.2.2,((List.getD s.1 (Int.toNat s.2.2.2) (0:Int)),(List.getD s.1 (Int.toNat (ae (s.2.2.2- (1:Int)))) (0:Int))))) fun y=>
 (if ((!(decide (y<(0:Int))))=true) then
 (Sum.inr ((s.1,(s.2.1,s.2.2.1)))) else
 (ai (List.set s.1 (Int.toNat s.2.2.2) (List.getD s.1 (Int.toNat (ae (s.2.2.2- (1:Int)))) (0:Int))) fun aq=>
 (ai (List.set aq (Int.toNat (ae (s.2.2.2- (1:Int)))) (List.getD s.1 (Int.toNat s.2.2.2) (0:Int))) fun y_2=>
 (Sum.inl (y_2,(s.2.1,(s.2.2.1,(ae (s.2.2.2- (1:Int))))))))))) else
 (Sum.inr ((s.1,(s.2.1,s.2.2.1)))))
def gX (x:((List Int)×(Int×(Int×((List I9)×Int))))) (s:((List Int)×I3)):Prop:=
 ((s.2.2.2>=(1:Int))->
 ((((0:Int)<=s.2.2.2)/\ (s.2.2.2<(s.1.length:Int)))/\
 (((Int.toNat s.2.2.2)<(List.length s.1))/\
 (((Int.toNat s.2.2.2)<(List.length s.1))/\
 ((((0:Int)<=(ae (s.2.2.2- (1:Int))))/\ ((ae (s.2.2.2- (1:Int)))<(s.1.length:Int)))/\
 (((Int.toNat (ae (s.2.2.2- (1:Int))))<(List.length s.1))/\
 (((Int.toNat (ae (s.2.2.2- (1:Int))))<(List.length s.1))/\
 ((bI (x.2.2.2,((List.getD s.1 (Int.toNat s.2.2.2) (0:Int)),(List.getD s.1 (Int.toNat (ae (s.2.2.2- (1:Int)))) (0:Int)))))/\
 az (jQ (x.2.2.2,((List.getD s.1 (Int.toNat s.2.2.2) (0:Int)),(List.getD s.1 (Int.toNat (ae (s.2.2.2- (1:Int)))) (0:Int))))) fun y=>
 (¬((!(decide (y<(0:Int))))=true)->
 ((((0:Int)<=(ae (s.2.2.2- (1:Int))))/\ ((ae (s.2.2.2- (1:Int)))<(s.1.length:Int)))/\
 (((Int.toNat (ae (s.2.2.2- (1:Int))))<(List.length s.1))/\
 (((Int.toNat (ae (s.2.2.2- (1:Int))))<(List.length s.1))/\
 ((((0:Int)<=s.2.2.2)/\ (s.2.2.2<(s.1.length:Int)))/\
 (((Int.toNat s.2.2.2)<(List.length s.1))/\
 (((Int.toNat s.2.2.2)<(List.length s.1))/\
 ((((0:Int)<=s.2.2.2)/\ (s.2.2.2<(s.1.length:Int)))/\
 (((Int.toNat s.2.2.2)<(List.length s.1))/\
 (((Int.toNat s.2.2.2)<(List.length s.1))/\
 (az (List.set s.1 (Int.toNat s.2.2.2) (List.getD s.1 (Int.toNat (ae (s.2.2.2- (1:Int)))) (0:Int))) fun aq=>
 ((((0:Int)<=(ae (s.2.2.2- (1:Int))))/\ ((ae (s.2.2.2- (1:Int)))<(aq.length:Int)))/\
 (((Int.toNat (ae (s.2.2.2- (1:Int))))<(List.length aq))/\
 ((Int.toNat (ae (s.2.2.2- (1:Int))))<(List.length aq)))))))))))))))))))))))
def vY (x:((List Int)×(Int×(Int×((List I9)×Int))))) (s:((List Int)×I3)):Tr (((List Int)×I3)⊕((List Int)×I2)) true:=
 (.i10 (s.2.2.2>=z1)
 (.bO s.2.2.2 s.1
 (.bO (wm s.2.2.2) s.1
 (.fn dy (x.2.2.2,((gI s.1 s.2.2.2),(gI s.1 (wm s.2.2.2)))) fun y=>
 (.nY (!(decide (y<z0)))
 (.ret (.inr ((s.1,(s.2.1,s.2.2.1)))))
 (.bO (wm s.2.2.2) s.1
 (.bO s.2.2.2 s.1
 (.bO s.2.2.2 s.1
 (.lt (List.set s.1 (tN s.2.2.2) (gI s.1 (wm s.2.2.2))) fun aq=>
 (.bO (wm s.2.2.2) aq
 (.lt (List.set aq (tN (wm s.2.2.2)) (gI s.1 s.2.2.2)) fun y_2=>
 (.ret (.inl (y_2,(s.2.1,(s.2.2.1,(wm s.2.2.2))))))))))))))))
 (.ret (.inr ((s.1,(s.2.1,s.2.2.1))))))
def uH (x:((List Int)×(Int×(Int×((List I9)×Int))))):aI:=⟨[.env],⟨cA 141 0 [(0,.v (.one (.full 0))),(1,.v (.one (.i .i64))),(2,.v (.one (.i .i64))),(3,.v (.one (.mv 73 true [.full 1,.ext]))),(9,.v (.one (.i .i64))),(10,.v (.one (.i .i64))),(12,.v (.one (.i .i64)))],[.row yi 1,.row bP 0,.dO 2],3,none,[8],[0,1,2,7],[6,3,4,5],[(.l yi),.i,.i,.i],[.i x.2.1,.i x.2.2.1,.v (.int .i64 x.2.2.2.2),.l bP x.2.2.2.1]⟩,[⟨(.exit 6),.normal,⟨cA 141 0 [(0,.v (.one (.full 0))),(1,.v (.one (.i .i64))),(2,.v (.one (.i .i64))),(3,.v (.one (.mv 73 true [.full 1,.ext]))),(9,.v (.one (.i .i64))),(10,.v (.one (.i .i64)))],[.row yi 1,.row bP 0,.dO 2],3,none,[7],[0,1,2,6],[5,3,4],[(.l yi),.i,.i],[.i x.2.1,.i x.2.2.1,.v (.int .i64 x.2.2.2.2),.l bP x.2.2.2.1]⟩⟩]⟩
def bj (x:((List Int)×(Int×(Int×((List I9)×Int))))) (s:((List Int)×I3)):((List Int)×I3)⊕((List Int)×I2):=
 (if (s.2.2.2<x.2.2.1) then
 (ai (jQ (x.2.2.2,((List.getD s.1 (Int.toNat s.2.2.2) (0:Int)),(List.getD s.1 (Int.toNat (ae (s.2.2.2- (1:Int)))) (0:Int))))) fun y=>
 (if ((!(decide (y<(0:Int))))=true) then
 (Sum.inr ((s.1,(s.2.1,s.2.2.1)))) else
 (ai (List.set s.1 (Int.toNat s.2.2.2) (List.getD s.1 (Int.toNat (ae (s.2.2.2- (1:Int)))) (0:Int))) fun aq=>
 (ai (List.set aq (Int.toNat (ae (s.2.2.2- (1:Int)))) (List.getD s.1 (Int.toNat s.2.2.2) (0:Int))) fun y_2=>
 (Sum.inl (y_2,(s.2.1,(s.2.2.1,(ae (s.2.2.2+(1:Int))))))))))) else
 (Sum.inr ((s.1,(s.2.1,s.2.2.1)))))
def dc (x:((List Int)×(Int×(Int×((List I9)×Int))))) (s:((List Int)×I3)):Prop:=
 ((s.2.2.2<x.2.2.1)->
 ((((0:Int)<=s.2.2.2)/\ (s.2.2.2<(s.1.length:Int)))/\
 (((Int.toNat s.2.2.2)<(List.length s.1))/\
 (((Int.toNat s.2.2.2)<(List.length s.1))/\
 ((((0:Int)<=(ae (s.2.2.2- (1:Int))))/\ ((ae (s.2.2.2- (1:Int)))<(s.1.length:Int)))/\
 (((Int.toNat (ae (s.2.2.2- (1:Int))))<(List.length s.1))/\
 (((Int.toNat (ae (s.2.2.2- (1:Int))))<(List.length s.1))/\
 ((bI (x.2.2.2,((List.getD s.1 (Int.toNat s.2.2.2) (0:Int)),(List.getD s.1 (Int.toNat (ae (s.2.2.2- (1:Int)))) (0:Int)))))/\
 az (jQ (x.2.2.2,((List.getD s.1 (Int.toNat s.2.2.2) (0:Int)),(List.getD s.1 (Int.toNat (ae (s.2.2.2- (1:Int)))) (0:Int))))) fun y=>
 (¬((!(decide (y<(0:Int))))=true)->
 ((((0:Int)<=(ae (s.2.2.2- (1:Int))))/\ ((ae (s.2.2.2- (1:Int)))<(s.1.length:Int)))/\
 (((Int.toNat (ae (s.2.2.2- (1:Int))))<(List.length s.1))/\
 (((Int.toNat (ae (s.2.2.2- (1:Int))))<(List.length s.1))/\
 ((((0:Int)<=s.2.2.2)/\ (s.2.2.2<(s.1.length:Int)))/\
 (((Int.toNat s.2.2.2)<(List.length s.1))/\
 (((Int.toNat s.2.2.2)<(List.length s.1))/\
 ((((0:Int)<=s.2.2.2)/\ (s.2.2.2<(s.1.length:Int)))/\
 (((Int.toNat s.2.2.2)<(List.length s.1))/\
 (((Int.toNat s.2.2.2)<(List.length s.1))/\
 (az (List.set s.1 (Int.toNat s.2.2.2) (List.getD s.1 (Int.toNat (ae (s.2.2.2- (1:Int)))) (0:Int))) fun aq=>
 ((((0:Int)<=(ae (s.2.2.2- (1:Int))))/\ ((ae (s.2.2.2- (1:Int)))<(aq.length:Int)))/\
 (((Int.toNat (ae (s.2.2.2- (1:Int))))<(List.length aq))/\
 ((Int.toNat (ae (s.2.2.2- (1:Int))))<(List.length aq)))))))))))))))))))))))
def pY (x:((List Int)×(Int×(Int×((List I9)×Int))))) (s:((List Int)×I3)):Tr (((List Int)×I3)⊕((List Int)×I2)) true:=
 (.i10 (s.2.2.2<x.2.2.1)
 (.bO s.2.2.2 s.1
 (.bO (wm s.2.2.2) s.1
 (.fn dy (x.2.2.2,((gI s.1 s.2.2.2),(gI s.1 (wm s.2.2.2)))) fun y=>
 (.nY (!(decide (y<z0)))
 (.ret (.inr ((s.1,(s.2.1,s.2.2.1)))))
 (.bO (wm s.2.2.2) s.1
 (.bO s.2.2.2 s.1
 (.bO s.2.2.2 s.1
 (.lt (List.set s.1 (tN s.2.2.2) (gI s.1 (wm s.2.2.2))) fun aq=>
 (.bO (wm s.2.2.2) aq
 (.lt (List.set aq (tN (wm s.2.2.2)) (gI s.1 s.2.2.2)) fun y_2=>
 (.ret (.inl (y_2,(s.2.1,(s.2.2.1,(w1 s.2.2.2))))))))))))))))
 (.ret (.inr ((s.1,(s.2.1,s.2.2.1))))))
def BW (x:((List Int)×(Int×(Int×((List I9)×Int))))):aI:=⟨[.env],⟨cA 141 0 [(0,.v (.one (.full 0))),(1,.v (.one (.i .i64))),(2,.v (.one (.i .i64))),(3,.v (.one (.mv 73 true [.full 1,.ext]))),(9,.v (.one (.i .i64))),(10,.v (.one (.i .i64)))],[.row yi 1,.row bP 0,.dO 2],3,none,[7],[0,1,2,6],[5,3,4],[(.l yi),.i,.i],[.i x.2.1,.i x.2.2.1,.v (.int .i64 x.2.2.2.2),.l bP x.2.2.2.1]⟩,[⟨.ret,.ret,⟨cA 141 0 [(8,.v (.one (.b)))],[.row yi 1,.row bP 0,.dO 2],3,none,[3],[2],[1,0],[(.l yi),.b],[.l bP x.2.2.2.1]⟩⟩,⟨(.exit 0),.normal,⟨cA 141 0 [],[.row yi 1,.row bP 0,.dO 2],3,none,[2],[1],[0],[(.l yi)],[.l bP x.2.2.2.1]⟩⟩]⟩
def bu (x:((List Int)×(Int×(Int×((List I9)×Int))))) (s:((List Int)×I2)):((List Int)×I2)⊕(((List Int)×Bool)⊕(List Int)):=
 (if (s.2.2<(5:Int)) then
 (ai (run (cO x) (s.1,(s.2.1,s.2.2))) fun r=>
 (if ((r.2.1==x.2.2.1)=true) then
 (Sum.inr (Sum.inl (r.1,true))) else
 (if ((ae (x.2.2.1- x.2.1))<(50:Int)) then
 (Sum.inr (Sum.inl (r.1,false))) else
 (ai (List.set r.1 (Int.toNat r.2.1) (List.getD r.1 (Int.toNat (ae (r.2.1- (1:Int)))) (0:Int))) fun y=>
 (ai (List.set y (Int.toNat (ae (r.2.1- (1:Int)))) (List.getD r.1 (Int.toNat r.2.1) (0:Int))) fun aq=>
 (if ((ae (r.2.1- x.2.1))>=(2:Int)) then
 (ai (run (cP x) (aq,(r.2.1,(r.2.2,(ae (r.2.1- (1:Int))))))) fun r_1=>
 (if ((ae (x.2.2.1- r_1.2.1))>=(2:Int)) then
 (ai (run (bj x) (r_1.1,(r_1.2.1,(r_1.2.2,(ae (r_1.2.1+(1:Int))))))) fun r_2=>
 (Sum.inl (r_2.1,(r_2.2.1,(ae (r_2.2.2+(1:Int))))))) else
 (Sum.inl (r_1.1,(r_1.2.1,(ae (r_1.2.2+(1:Int)))))))) else
 (if ((ae (x.2.2.1- r.2.1))>=(2:Int)) then
 (ai (run (bj x) (aq,(r.2.1,(r.2.2,(ae (r.2.1+(1:Int))))))) fun r_1=>
 (Sum.inl (r_1.1,(r_1.2.1,(ae (r_1.2.2+(1:Int))))))) else
 (Sum.inl (aq,(r.2.1,(ae (r.2.2+(1:Int))))))))))))) else
 (Sum.inr (Sum.inr (s.1))))
def da (x:((List Int)×(Int×(Int×((List I9)×Int))))) (s:((List Int)×I2)):Prop:=
 ((s.2.2<(5:Int))->
 (Term (cO x) (jH x) (s.1,(s.2.1,s.2.2))/\
 az (run (cO x) (s.1,(s.2.1,s.2.2))) fun r=>
 (¬((r.2.1==x.2.2.1)=true)->
 (¬((ae (x.2.2.1- x.2.1))<(50:Int))->
 ((((0:Int)<=(ae (r.2.1- (1:Int))))/\ ((ae (r.2.1- (1:Int)))<(r.1.length:Int)))/\
 (((Int.toNat (ae (r.2.1- (1:Int))))<(List.length r.1))/\
 (((Int.toNat (ae (r.2.1- (1:Int))))<(List.length r.1))/\
 ((((0:Int)<=r.2.1)/\ (r.2.1<(r.1.length:Int)))/\
 (((Int.toNat r.2.1)<(List.length r.1))/\
 (((Int.toNat r.2.1)<(List.length r.1))/\
 ((((0:Int)<=r.2.1)/\ (r.2.1<(r.1.length:Int)))/\
 (((Int.toNat r.2.1)<(List.length r.1))/\
 (((Int.toNat r.2.1)<(List.length r.1))/\
 (az (List.set r.1 (Int.toNat r.2.1) (List.getD r.1 (Int.toNat (ae (r.2.1- (1:Int)))) (0:Int))) fun y=>
 ((((0:Int)<=(ae (r.2.1- (1:Int))))/\ ((ae (r.2.1- (1:Int)))<(y.length:Int)))/\
 (((Int.toNat (ae (r.2.1- (1:Int))))<(List.length y))/\
 (((Int.toNat (ae (r.2.1- (1:Int))))<(List.length y))/\
 (az (List.set y (Int.toNat (ae (r.2.1- (1:Int)))) (List.getD r.1 (Int.toNat r.2.1) (0:Int))) fun aq=>
 ((((ae (r.2.1- x.2.1))>=(2:Int))->
 (Term (cP x) (gX x) (aq,(r.2.1,(r.2.2,(ae (r.2.1- (1:Int))))))/\
 az (run (cP x) (aq,(r.2.1,(r.2.2,(ae (r.2.1- (1:Int))))))) fun r_1=>
 (((ae (x.2.2.1- r_1.2.1))>=(2:Int))->
 (Term (bj x) (dc x) (r_1.1,(r_1.2.1,(r_1.2.2,(ae (r_1.2.1+(1:Int))))))))))/\
 (¬((ae (r.2.1- x.2.1))>=(2:Int))->
 (((ae (x.2.2.1- r.2.1))>=(2:Int))->
 (Term (bj x) (dc x) (aq,(r.2.1,(r.2.2,(ae (r.2.1+(1:Int))))))))))))))))))))))))))))
def vW (x:((List Int)×(Int×(Int×((List I9)×Int))))) (s:((List Int)×I2)):Tr (((List Int)×I2)⊕(((List Int)×Bool)⊕(List Int))) true:=
 (.i10 (s.2.2<(5:Int))
 (aI.lp (BX x) (vX x) (s.1,(s.2.1,s.2.2)) fun r=>
 (.nY (r.2.1==x.2.2.1)
 (.ret (.inr (Sum.inl (r.1,true))))
 (.Di ((ae (x.2.2.1- x.2.1))<(50:Int))
 (.ret (.inr (Sum.inl (r.1,false))))
 (.bO (wm r.2.1) r.1
 (.bO r.2.1 r.1
 (.bO r.2.1 r.1
 (.lt (List.set r.1 (tN r.2.1) (gI r.1 (wm r.2.1))) fun y=>
 (.bO (wm r.2.1) y
 (.lt (List.set y (tN (wm r.2.1)) (gI r.1 r.2.1)) fun aq=>
 (.i11 ((ae (r.2.1- x.2.1))>=(2:Int))
 (aI.lp (BY x) (vY x) (aq,(r.2.1,(r.2.2,(wm r.2.1)))) fun r_1=>
 (.i10 ((ae (x.2.2.1- r_1.2.1))>=(2:Int))
 (aI.lp (uH x) (pY x) (r_1.1,(r_1.2.1,(r_1.2.2,(w1 r_1.2.1)))) fun r_2=>
 (.ret (.inl (r_2.1,(r_2.2.1,(w1 r_2.2.2))))))
 (.ret (.inl (r_1.1,(r_1.2.1,(w1 r_1.2.2)))))))
 (.i10 ((ae (x.2.2.1- r.2.1))>=(2:Int))
 (aI.lp (uH x) (pY x) (aq,(r.2.1,(r.2.2,(w1 r.2.1)))) fun r_1=>
 (.ret (.inl (r_1.1,(r_1.2.1,(w1 r_1.2.2))))))
 (.ret (.inl (aq,(r.2.1,(w1 r.2.2))))))))))))))))
 (.ret (.inr (Sum.inr (s.1)))))
def lC (x:((List Int)×(Int×(Int×((List I9)×Int))))):(Bool×((List Int)×(Bool×(Bool×Bool)))):=
 (ai (run (bu x) (x.1,((ae (x.2.1+(1:Int))),(0:Int)))) fun r=>
 (Sum.elim (fun a=>
 (a.2,(a.1,(false,(false,false))))) (fun b=>
 (false,(b,(false,(false,false))))) r))
def jg (x:((List Int)×(Int×(Int×((List I9)×Int))))):Prop:=
 (Term (bu x) (da x) (x.1,((ae (x.2.1+(1:Int))),(0:Int)))/\
 az (run (bu x) (x.1,((ae (x.2.1+(1:Int))),(0:Int)))) fun r=>
 (cS r (fun a=>
 ((List.length a.1)=(List.length x.1))) (fun b=>
 ((List.length b)=(List.length x.1)))))
def UR (x:((List Int)×(Int×(Int×((List I9)×Int))))):Tr (Bool×((List Int)×(Bool×(Bool×Bool)))) true:=
 (aI.lp (BW x) (vW x) (x.1,((w1 x.2.1),z0)) fun r=>
 (.s11 r (fun a=>
 (.pn 0 2
 (.og ((decide ((List.length a.1)=(List.length x.1)))&&true) ((List.length a.1)=(List.length x.1)) (fun h=>(c7 (decide_eq_true h) rfl))
 (.ret (a.2,(a.1,(false,(false,false)))))))) (fun b=>
 (.pn 0 2
 (.og ((decide ((List.length b)=(List.length x.1)))&&true) ((List.length b)=(List.length x.1)) (fun h=>(c7 (decide_eq_true h) rfl))
 (.ret (false,(b,(false,(false,false))))))))))
abbrev pX:Dh:=⟨(.pair (.row yi) (.pair (.val (.one yi)) (.pair (.val (.one yi)) (.val ug)))),(.one Ty.bool),jg,lC⟩
theorem RR:ak Tryz.prog 134 (bf pX):=ak.Ly pX UR (fn:=Tryz.f134) aC jk mixed (by kernel_rfl) (aA.nil _ _) (fun x=>(aB.tr aC (ah.c8 jk (aA.nil _ _)) mixed 0 (BW x) (vW x) (aB.tr aC (ah.c8 jk (aA.nil _ _)) mixed 2 (BX x) (vX x) (aB.tr aC (ah.c8 jk (aA.nil _ _)) mixed 4 (BY x) (vY x) (aB.tr aC (ah.c8 jk (aA.nil _ _)) mixed 6 (uH x) (pY x) aB.nil (by kernel_rfl) fun g s Q=>(by kernel_rfl)) (by kernel_rfl) fun g s Q=>(by kernel_rfl)) (by kernel_rfl) fun g s Q=>(by kernel_rfl)) (by kernel_rfl) fun g s Q=>(by kernel_rfl))) (fun x=>(by kernel_rfl)) fun x r0 Q=>(by kernel_rfl)
def CK:List (Nat×Ev.Spec):=(134,bf pX)::Jt
theorem zv:ah Tryz.prog CK:=ah.add (fn:=Tryz.f134) (by kernel_rfl) RR jk
end Go.Proofs.YtlkgabjhkfhgaaaGreat
