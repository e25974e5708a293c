/- Models of functions of layer 16. -/
import Derived.Test.YtfgdjlhilladhaaGreatFc
noncomputable section
set_option linter.unusedSectionVars false
set_option linter.unusedVariables false
set_option linter.unusedSimpArgs false
namespace Go.Proofs.YtfgdjlhilladhaaGreat
open Go Go.Ev Go.Proofs
def bL (x:(List I6)) (g0:Loop) (g1:Env) (s:(Int×Int×I3)):AS:=⟨[.v (.one (.sJ 8)),D,D,D,D,D,D,.v (.one (.full 0)),vi (x.length:Int),vi s.2.2.2.2,D,D,D,D,D,D,D,D,D,D,D,D,D],[.row aZ x 0,.cells [ci 0,ci 0] 23,.cells [ci 0,ci 0] 23,.cells [ci 0] 41,.cells [ci s.1,ci s.2.1] 23,.cells [ci s.2.2.1,ci s.2.2.2.1] 23,.gone,.cells [.full 0] 57,.loop g0 LoopState.ready Option.none,.ji g1 9]⟩
def cA (x:(List I6)) (g0:Loop) (g1:Env) (r:((Int×I3)⊕(Int×I3))) (K:Exit->AS->Prop):Prop:=cS r (fun a0=>K .ret ⟨[D,D,D,D,D,D,D,D,D,D,D,D,D,D,D,D,D,D,D,D,D,D,D],[.row aZ x 0,.cells [ci 0,ci 0] 23,.cells [ci 0,ci 0] 23,.cells [ci 5] 41,.cells [ci a0.1,ci a0.2.1] 23,.cells [ci a0.2.2.1,ci a0.2.2.2] 23,.gone,.cells [.full 0] 57,.loop g0 LoopState.done (Option.some Code.ret),.ji g1 9]⟩) (fun b0=>K .normal ⟨[D,D,D,D,D,D,D,D,D,D,D,D,D,D,D,D,D,D,D,D,D,D,D],[.row aZ x 0,.cells [ci 0,ci 0] 23,.cells [ci 0,ci 0] 23,.cells [ci 0] 41,.cells [ci b0.1,ci b0.2.1] 23,.cells [ci b0.2.2.1,ci b0.2.2.2] 23,.gone,.cells [.full 0] 57,.loop g0 LoopState.ready Option.none,.ji g1 9]⟩)
def bO (x:(List I6)) (t:Unit) (s:(Int×Int×I3)):(Int×Int×I3)⊕((Int×I3)⊕(Int×I3)):=
 (if (s.2.2.2.2<(x.length:Int)) then
 (aq (fA [(x.getD s.2.2.2.2.toNat ((0,0),(0,0),0,0)).1]) fun y=>
 (if ((!y)=true) then
 (Sum.inr (Sum.inl (s.1,s.2.1,s.2.2.1,s.2.2.2.1))) else
 (aq (fA [(x.getD s.2.2.2.2.toNat ((0,0),(0,0),0,0)).2.1]) fun aB=>
 (if ((!aB)=true) then
 (Sum.inr (Sum.inl ((aG s.1 (x.getD s.2.2.2.2.toNat ((0,0),(0,0),0,0)).1.1),(aG s.2.1 (x.getD s.2.2.2.2.toNat ((0,0),(0,0),0,0)).1.2),(aI s.2.2.1 (x.getD s.2.2.2.2.toNat ((0,0),(0,0),0,0)).1.1),(aI s.2.2.2.1 (x.getD s.2.2.2.2.toNat ((0,0),(0,0),0,0)).1.2)))) else
 (aq (fA [(x.getD s.2.2.2.2.toNat ((0,0),(0,0),0,0)).2.2]) fun y_2=>
 (if ((!y_2)=true) then
 (Sum.inr (Sum.inl ((aG (aG s.1 (x.getD s.2.2.2.2.toNat ((0,0),(0,0),0,0)).1.1) (x.getD s.2.2.2.2.toNat ((0,0),(0,0),0,0)).2.1.1),(aG (aG s.2.1 (x.getD s.2.2.2.2.toNat ((0,0),(0,0),0,0)).1.2) (x.getD s.2.2.2.2.toNat ((0,0),(0,0),0,0)).2.1.2),(aI (aI s.2.2.1 (x.getD s.2.2.2.2.toNat ((0,0),(0,0),0,0)).1.1) (x.getD s.2.2.2.2.toNat ((0,0),(0,0),0,0)).2.1.1),(aI (aI s.2.2.2.1 (x.getD s.2.2.2.2.toNat ((0,0),(0,0),0,0)).1.2) (x.getD s.2.2.2.2.toNat ((0,0),(0,0),0,0)).2.1.2)))) else
 (Sum.inl ((aG (aG (aG s.1 (x.getD s.2.2.2.2.toNat ((0,0),(0,0),0,0)).1.1) (x.getD s.2.2.2.2.toNat ((0,0),(0,0),0,0)).2.1.1) (x.getD s.2.2.2.2.toNat ((0,0),(0,0),0,0)).2.2.1),(aG (aG (aG s.2.1 (x.getD s.2.2.2.2.toNat ((0,0),(0,0),0,0)).1.2) (x.getD s.2.2.2.2.toNat ((0,0),(0,0),0,0)).2.1.2) (x.getD s.2.2.2.2.toNat ((0,0),(0,0),0,0)).2.2.2),(aI (aI (aI s.2.2.1 (x.getD s.2.2.2.2.toNat ((0,0),(0,0),0,0)).1.1) (x.getD s.2.2.2.2.toNat ((0,0),(0,0),0,0)).2.1.1) (x.getD s.2.2.2.2.toNat ((0,0),(0,0),0,0)).2.2.1),(aI (aI (aI s.2.2.2.1 (x.getD s.2.2.2.2.toNat ((0,0),(0,0),0,0)).1.2) (x.getD s.2.2.2.2.toNat ((0,0),(0,0),0,0)).2.1.2) (x.getD s.2.2.2.2.toNat ((0,0),(0,0),0,0)).2.2.2),(aj (s.2.2.2.2+1)))))))))) else
 (Sum.inr (Sum.inr ((s.1,s.2.1,s.2.2.1,s.2.2.2.1)))))
def dA (x:(List I6)) (t:Unit) (s:(Int×Int×I3)):Prop:=
 ((s.2.2.2.2<(x.length:Int))->
 (((0<=s.2.2.2.2)/\ (s.2.2.2.2<(x.length:Int)))/\
 ((s.2.2.2.2.toNat<x.length)/\
 ((s.2.2.2.2.toNat<x.length)/\
 ((dD [(x.getD s.2.2.2.2.toNat ((0,0),(0,0),0,0)).1])/\
 az (fA [(x.getD s.2.2.2.2.toNat ((0,0),(0,0),0,0)).1]) fun y=>
 (¬((!y)=true)->
 ((dD [(x.getD s.2.2.2.2.toNat ((0,0),(0,0),0,0)).2.1])/\
 az (fA [(x.getD s.2.2.2.2.toNat ((0,0),(0,0),0,0)).2.1]) fun aB=>
 (¬((!aB)=true)->
 (dD [(x.getD s.2.2.2.2.toNat ((0,0),(0,0),0,0)).2.2])))))))))
def pz (x:(List I6)) (g0:Loop) (g1:Env) (t:Unit):bC:=pB (bL x g0 g1) (bO x t) (dA x t) (cA x g0 g1)
def xA (x:(List I6)) (ys:List (Nat×Ev.Spec)):List (Nat×bC):= []
def lu (x:(List I6)) (ys:List (Nat×Ev.Spec)):List (Nat×bC):=(2,MP tt bu cZ (xA x ys) ys ((170,fq tt bu cZ (fun ys=> []) [] Tryz.f170):: []) 2 (cI (bR 2 (bn Tryz.f186))) 4)::xA x ys
def rJ (x:(List I6)) (ys:List (Nat×Ev.Spec)):List (Nat×bC):=(0,FL [(10,uK 8 fun g0=>CF 9 fun g1=>YJ ⟨tt,bu,cZ,lu x ys,ys,((170,fq tt bu cZ (fun ys=> []) [] Tryz.f170):: [])⟩ (.loop (cI (bR 0 (bn Tryz.f186)))) 0 fun (q:Unit×(Nat->AV))=>pz x g0 g1 q.1)])::lu x ys
def FW (x:(List I6)):Ctx:=⟨tt,bu,cZ,[],[],((186,fq tt bu cZ (rJ x) ((170,fq tt bu cZ (fun ys=> []) [] Tryz.f170):: []) Tryz.f186)::((170,fq tt bu cZ (fun ys=> []) [] Tryz.f170):: []))⟩
theorem IP (x:(List I6)) (g0:Loop) (g1:Env) (t:Unit) (d:Nat->AV) (s:(Int×Int×I3)) (K:Exit->AS->Prop) (KN:AS->Prop):cy ⟨tt,bu,cZ,(lu x (SU 8 ((d 0)::(d 1):: .v (.one (.ptr 1 0)):: .v (.one (.ptr 2 0)):: .v (.one (.ptr 3 0)):: .v (.one (.ptr 4 0)):: .v (.one (.ptr 5 0))::(d 7)::(d 8)::(d 9)::(d 10)::(d 11)::(d 12)::(d 13)::(d 14)::(d 15)::(d 16)::(d 17)::(d 18)::(d 19)::(d 20)::(d 21)::(d 22)::(d 23)::(d 24)::(d 25)::(d 26)::(d 27)::(d 28)::(d 29)::(d 30)::(d 31)::(d 32)::(d 33)::(d 34)::(d 35)::(d 36)::(d 37)::(d 38)::(d 39)::(d 40)::(d 41)::(d 42)::(d 43)::(d 44)::(d 45)::(d 46)::(d 47)::(d 48)::(d 49)::(d 50)::(d 51)::(d 52)::(d 53):: []) g0 g1 [23] (FW x) Tryz.f134)),(SU 8 ((d 0)::(d 1):: .v (.one (.ptr 1 0)):: .v (.one (.ptr 2 0)):: .v (.one (.ptr 3 0)):: .v (.one (.ptr 4 0)):: .v (.one (.ptr 5 0))::(d 7)::(d 8)::(d 9)::(d 10)::(d 11)::(d 12)::(d 13)::(d 14)::(d 15)::(d 16)::(d 17)::(d 18)::(d 19)::(d 20)::(d 21)::(d 22)::(d 23)::(d 24)::(d 25)::(d 26)::(d 27)::(d 28)::(d 29)::(d 30)::(d 31)::(d 32)::(d 33)::(d 34)::(d 35)::(d 36)::(d 37)::(d 38)::(d 39)::(d 40)::(d 41)::(d 42)::(d 43)::(d 44)::(d 45)::(d 46)::(d 47)::(d 48)::(d 49)::(d 50)::(d 51)::(d 52)::(d 53):: []) g0 g1 [23] (FW x) Tryz.f134),((170,fq tt bu cZ (fun ys=> []) [] Tryz.f170):: [])⟩ (cI (bR 0 (bn Tryz.f186))) (bL x g0 g1 s) (KB 0 K KN)=
 (cB (decide (s.2.2.2.2<(x.length:Int)))
 (ob ((decide ((0:Int)<=s.2.2.2.2))&&(decide (s.2.2.2.2<(x.length:Int))))
 (ob (decide (s.2.2.2.2.toNat<x.length))
 (ob (decide (s.2.2.2.2.toNat<x.length))
 ((cZ=cZ)/\
 ((g1=g1)/\
 ((9=9)/\
 ((g0=g0)/\
 (∀cn:Env,
 ((cn=cn)/\
 ((12=12)/\
 ((g0=g0)/\
 ((dD [(x.getD s.2.2.2.2.toNat aK).1])/\ ∀y:Bool,y=(fA [(x.getD s.2.2.2.2.toNat aK).1])->
 (cB (!y)
 ((g0=g0)/\
 ((cn=cn)/\
 ((12=12)/\
 (KB 0 K KN .ret ⟨[.v (.one (.sJ 8)),D,D,D,.v (.one (.ptr 10 0)),D,.v (.one (.ptr 11 0)),.v (.one (.full 0)),vi (x.length:Int),vi s.2.2.2.2,vb (decide (s.2.2.2.2<(x.length:Int))),.v (.one (.br 0 s.2.2.2.2.toNat 0)),.v (.agg [ci (x.getD s.2.2.2.2.toNat aK).1.1,ci (x.getD s.2.2.2.2.toNat aK).1.2,ci (x.getD s.2.2.2.2.toNat aK).2.1.1,ci (x.getD s.2.2.2.2.toNat aK).2.1.2,ci (x.getD s.2.2.2.2.toNat aK).2.2.1,ci (x.getD s.2.2.2.2.toNat aK).2.2.2]),.v (.agg [ci (x.getD s.2.2.2.2.toNat aK).1.1,ci (x.getD s.2.2.2.2.toNat aK).1.2,ci (x.getD s.2.2.2.2.toNat aK).2.1.1,ci (x.getD s.2.2.2.2.toNat aK).2.1.2,ci (x.getD s.2.2.2.2.toNat aK).2.2.1,ci (x.getD s.2.2.2.2.toNat aK).2.2.2]),vi (0:Int),vb true,.v (.agg [ci (x.getD s.2.2.2.2.toNat aK).1.1,ci (x.getD s.2.2.2.2.toNat aK).1.2]),.v (.one (.sJ 8)),.v (.agg [ci (x.getD s.2.2.2.2.toNat aK).1.1,ci (x.getD s.2.2.2.2.toNat aK).1.2]),vb false,vb true,D,D],[.row aZ x 0,.cells [ci (0:Int),ci (0:Int)] 23,.cells [ci (0:Int),ci (0:Int)] 23,.cells [ci (5:Int)] 41,.cells [ci s.1,ci s.2.1] 23,.cells [ci s.2.2.1,ci s.2.2.2.1] 23,.gone,.cells [.full 0] 57,.loop g0 LoopState.done (Option.some Code.ret),.ji g1 9,.cells [ci (x.getD s.2.2.2.2.toNat aK).1.1,ci (x.getD s.2.2.2.2.toNat aK).1.2,ci (x.getD s.2.2.2.2.toNat aK).2.1.1,ci (x.getD s.2.2.2.2.toNat aK).2.1.2,ci (x.getD s.2.2.2.2.toNat aK).2.2.1,ci (x.getD s.2.2.2.2.toNat aK).2.2.2] 24,.cells [ci (x.getD s.2.2.2.2.toNat aK).1.1,ci (x.getD s.2.2.2.2.toNat aK).1.2] 23,.gone,.cells [ci (x.getD s.2.2.2.2.toNat aK).1.1,ci (x.getD s.2.2.2.2.toNat aK).1.2] 23,.cells [ci (x.getD s.2.2.2.2.toNat aK).1.1,ci (x.getD s.2.2.2.2.toNat aK).1.2] 23]⟩))))
 ((g0=g0)/\
 ((cn=cn)/\
 ((12=12)/\
 ((cZ=cZ)/\
 ((g1=g1)/\
 ((9=9)/\
 ((g0=g0)/\
 (∀MX:Env,
 ((MX=MX)/\
 ((16=16)/\
 ((g0=g0)/\
 ((dD [(x.getD s.2.2.2.2.toNat aK).2.1])/\ ∀aB:Bool,aB=(fA [(x.getD s.2.2.2.2.toNat aK).2.1])->
 (cB (!aB)
 ((g0=g0)/\
 ((MX=MX)/\
 ((16=16)/\
 (KB 0 K KN .ret ⟨[.v (.one (.sJ 8)),D,D,D,.v (.one (.ptr 10 0)),D,.v (.one (.ptr 15 0)),.v (.one (.full 0)),vi (x.length:Int),vi s.2.2.2.2,vb (decide (s.2.2.2.2<(x.length:Int))),.v (.one (.br 0 s.2.2.2.2.toNat 0)),.v (.agg [ci (x.getD s.2.2.2.2.toNat aK).1.1,ci (x.getD s.2.2.2.2.toNat aK).1.2,ci (x.getD s.2.2.2.2.toNat aK).2.1.1,ci (x.getD s.2.2.2.2.toNat aK).2.1.2,ci (x.getD s.2.2.2.2.toNat aK).2.2.1,ci (x.getD s.2.2.2.2.toNat aK).2.2.2]),.v (.agg [ci (x.getD s.2.2.2.2.toNat aK).1.1,ci (x.getD s.2.2.2.2.toNat aK).1.2,ci (x.getD s.2.2.2.2.toNat aK).2.1.1,ci (x.getD s.2.2.2.2.toNat aK).2.1.2,ci (x.getD s.2.2.2.2.toNat aK).2.2.1,ci (x.getD s.2.2.2.2.toNat aK).2.2.2]),vi (1:Int),vb true,.v (.agg [ci (x.getD s.2.2.2.2.toNat aK).2.1.1,ci (x.getD s.2.2.2.2.toNat aK).2.1.2]),.v (.one (.sJ 8)),.v (.agg [ci (x.getD s.2.2.2.2.toNat aK).2.1.1,ci (x.getD s.2.2.2.2.toNat aK).2.1.2]),vb false,vb true,vi (1:Int),D],[.row aZ x 0,.cells [ci (0:Int),ci (0:Int)] 23,.cells [ci (0:Int),ci (0:Int)] 23,.cells [ci (5:Int)] 41,.cells [ci (aG s.1 (x.getD s.2.2.2.2.toNat aK).1.1),ci (aG s.2.1 (x.getD s.2.2.2.2.toNat aK).1.2)] 23,.cells [ci (aI s.2.2.1 (x.getD s.2.2.2.2.toNat aK).1.1),ci (aI s.2.2.2.1 (x.getD s.2.2.2.2.toNat aK).1.2)] 23,.gone,.cells [.full 0] 57,.loop g0 LoopState.done (Option.some Code.ret),.ji g1 9,.cells [ci (x.getD s.2.2.2.2.toNat aK).1.1,ci (x.getD s.2.2.2.2.toNat aK).1.2,ci (x.getD s.2.2.2.2.toNat aK).2.1.1,ci (x.getD s.2.2.2.2.toNat aK).2.1.2,ci (x.getD s.2.2.2.2.toNat aK).2.2.1,ci (x.getD s.2.2.2.2.toNat aK).2.2.2] 24,.cells [ci (x.getD s.2.2.2.2.toNat aK).1.1,ci (x.getD s.2.2.2.2.toNat aK).1.2] 23,.gone,.cells [ci (x.getD s.2.2.2.2.toNat aK).1.1,ci (x.getD s.2.2.2.2.toNat aK).1.2] 23,.cells [ci (x.getD s.2.2.2.2.toNat aK).1.1,ci (x.getD s.2.2.2.2.toNat aK).1.2] 23,.cells [ci (x.getD s.2.2.2.2.toNat aK).2.1.1,ci (x.getD s.2.2.2.2.toNat aK).2.1.2] 23,.gone,.cells [ci (x.getD s.2.2.2.2.toNat aK).2.1.1,ci (x.getD s.2.2.2.2.toNat aK).2.1.2] 23,.cells [ci (x.getD s.2.2.2.2.toNat aK).2.1.1,ci (x.getD s.2.2.2.2.toNat aK).2.1.2] 23]⟩))))
 ((g0=g0)/\
 ((MX=MX)/\
 ((16=16)/\
 ((cZ=cZ)/\
 ((g1=g1)/\
 ((9=9)/\
 ((g0=g0)/\
 (∀MY:Env,
 ((MY=MY)/\
 ((20=20)/\
 ((g0=g0)/\
 ((dD [(x.getD s.2.2.2.2.toNat aK).2.2])/\ ∀y_2:Bool,y_2=(fA [(x.getD s.2.2.2.2.toNat aK).2.2])->
 (cB (!y_2)
 ((g0=g0)/\
 ((MY=MY)/\
 ((20=20)/\
 (KB 0 K KN .ret ⟨[.v (.one (.sJ 8)),D,D,D,.v (.one (.ptr 10 0)),D,.v (.one (.ptr 19 0)),.v (.one (.full 0)),vi (x.length:Int),vi s.2.2.2.2,vb (decide (s.2.2.2.2<(x.length:Int))),.v (.one (.br 0 s.2.2.2.2.toNat 0)),.v (.agg [ci (x.getD s.2.2.2.2.toNat aK).1.1,ci (x.getD s.2.2.2.2.toNat aK).1.2,ci (x.getD s.2.2.2.2.toNat aK).2.1.1,ci (x.getD s.2.2.2.2.toNat aK).2.1.2,ci (x.getD s.2.2.2.2.toNat aK).2.2.1,ci (x.getD s.2.2.2.2.toNat aK).2.2.2]),.v (.agg [ci (x.getD s.2.2.2.2.toNat aK).1.1,ci (x.getD s.2.2.2.2.toNat aK).1.2,ci (x.getD s.2.2.2.2.toNat aK).2.1.1,ci (x.getD s.2.2.2.2.toNat aK).2.1.2,ci (x.getD s.2.2.2.2.toNat aK).2.2.1,ci (x.getD s.2.2.2.2.toNat aK).2.2.2]),vi (2:Int),vb true,.v (.agg [ci (x.getD s.2.2.2.2.toNat aK).2.2.1,ci (x.getD s.2.2.2.2.toNat aK).2.2.2]),.v (.one (.sJ 8)),.v (.agg [ci (x.getD s.2.2.2.2.toNat aK).2.2.1,ci (x.getD s.2.2.2.2.toNat aK).2.2.2]),vb false,vb true,vi (2:Int),D],[.row aZ x 0,.cells [ci (0:Int),ci (0:Int)] 23,.cells [ci (0:Int),ci (0:Int)] 23,.cells [ci (5:Int)] 41,.cells [ci (aG (aG s.1 (x.getD s.2.2.2.2.toNat aK).1.1) (x.getD s.2.2.2.2.toNat aK).2.1.1),ci (aG (aG s.2.1 (x.getD s.2.2.2.2.toNat aK).1.2) (x.getD s.2.2.2.2.toNat aK).2.1.2)] 23,.cells [ci (aI (aI s.2.2.1 (x.getD s.2.2.2.2.toNat aK).1.1) (x.getD s.2.2.2.2.toNat aK).2.1.1),ci (aI (aI s.2.2.2.1 (x.getD s.2.2.2.2.toNat aK).1.2) (x.getD s.2.2.2.2.toNat aK).2.1.2)] 23,.gone,.cells [.full 0] 57,.loop g0 LoopState.done (Option.some Code.ret),.ji g1 9,.cells [ci (x.getD s.2.2.2.2.toNat aK).1.1,ci (x.getD s.2.2.2.2.toNat aK).1.2,ci (x.getD s.2.2.2.2.toNat aK).2.1.1,ci (x.getD s.2.2.2.2.toNat aK).2.1.2,ci (x.getD s.2.2.2.2.toNat aK).2.2.1,ci (x.getD s.2.2.2.2.toNat aK).2.2.2] 24,.cells [ci (x.getD s.2.2.2.2.toNat aK).1.1,ci (x.getD s.2.2.2.2.toNat aK).1.2] 23,.gone,.cells [ci (x.getD s.2.2.2.2.toNat aK).1.1,ci (x.getD s.2.2.2.2.toNat aK).1.2] 23,.cells [ci (x.getD s.2.2.2.2.toNat aK).1.1,ci (x.getD s.2.2.2.2.toNat aK).1.2] 23,.cells [ci (x.getD s.2.2.2.2.toNat aK).2.1.1,ci (x.getD s.2.2.2.2.toNat aK).2.1.2] 23,.gone,.cells [ci (x.getD s.2.2.2.2.toNat aK).2.1.1,ci (x.getD s.2.2.2.2.toNat aK).2.1.2] 23,.cells [ci (x.getD s.2.2.2.2.toNat aK).2.1.1,ci (x.getD s.2.2.2.2.toNat aK).2.1.2] 23,.cells [ci (x.getD s.2.2.2.2.toNat aK).2.2.1,ci (x.getD s.2.2.2.2.toNat aK).2.2.2] 23,.gone,.cells [ci (x.getD s.2.2.2.2.toNat aK).2.2.1,ci (x.getD s.2.2.2.2.toNat aK).2.2.2] 23,.cells [ci (x.getD s.2.2.2.2.toNat aK).2.2.1,ci (x.getD s.2.2.2.2.toNat aK).2.2.2] 23]⟩))))
 ((g0=g0)/\
 ((MY=MY)/\
 ((20=20)/\
 (KB 0 K KN .normal ⟨[.v (.one (.sJ 8)),D,D,D,.v (.one (.ptr 10 0)),D,.v (.one (.ptr 19 0)),.v (.one (.full 0)),vi (x.length:Int),vi (aj (s.2.2.2.2+(1:Int))),vb (decide (s.2.2.2.2<(x.length:Int))),.v (.one (.br 0 s.2.2.2.2.toNat 0)),.v (.agg [ci (x.getD s.2.2.2.2.toNat aK).1.1,ci (x.getD s.2.2.2.2.toNat aK).1.2,ci (x.getD s.2.2.2.2.toNat aK).2.1.1,ci (x.getD s.2.2.2.2.toNat aK).2.1.2,ci (x.getD s.2.2.2.2.toNat aK).2.2.1,ci (x.getD s.2.2.2.2.toNat aK).2.2.2]),.v (.agg [ci (x.getD s.2.2.2.2.toNat aK).1.1,ci (x.getD s.2.2.2.2.toNat aK).1.2,ci (x.getD s.2.2.2.2.toNat aK).2.1.1,ci (x.getD s.2.2.2.2.toNat aK).2.1.2,ci (x.getD s.2.2.2.2.toNat aK).2.2.1,ci (x.getD s.2.2.2.2.toNat aK).2.2.2]),vi (3:Int),vb false,.v (.agg [ci (x.getD s.2.2.2.2.toNat aK).2.2.1,ci (x.getD s.2.2.2.2.toNat aK).2.2.2]),.v (.one (.sJ 8)),.v (.agg [ci (x.getD s.2.2.2.2.toNat aK).2.2.1,ci (x.getD s.2.2.2.2.toNat aK).2.2.2]),vb true,vb false,vi (3:Int),vi (aj (s.2.2.2.2+(1:Int)))],[.row aZ x 0,.cells [ci (0:Int),ci (0:Int)] 23,.cells [ci (0:Int),ci (0:Int)] 23,.cells [ci (0:Int)] 41,.cells [ci (aG (aG (aG s.1 (x.getD s.2.2.2.2.toNat aK).1.1) (x.getD s.2.2.2.2.toNat aK).2.1.1) (x.getD s.2.2.2.2.toNat aK).2.2.1),ci (aG (aG (aG s.2.1 (x.getD s.2.2.2.2.toNat aK).1.2) (x.getD s.2.2.2.2.toNat aK).2.1.2) (x.getD s.2.2.2.2.toNat aK).2.2.2)] 23,.cells [ci (aI (aI (aI s.2.2.1 (x.getD s.2.2.2.2.toNat aK).1.1) (x.getD s.2.2.2.2.toNat aK).2.1.1) (x.getD s.2.2.2.2.toNat aK).2.2.1),ci (aI (aI (aI s.2.2.2.1 (x.getD s.2.2.2.2.toNat aK).1.2) (x.getD s.2.2.2.2.toNat aK).2.1.2) (x.getD s.2.2.2.2.toNat aK).2.2.2)] 23,.gone,.cells [.full 0] 57,.loop g0 LoopState.ready Option.none,.ji g1 9,.cells [ci (x.getD s.2.2.2.2.toNat aK).1.1,ci (x.getD s.2.2.2.2.toNat aK).1.2,ci (x.getD s.2.2.2.2.toNat aK).2.1.1,ci (x.getD s.2.2.2.2.toNat aK).2.1.2,ci (x.getD s.2.2.2.2.toNat aK).2.2.1,ci (x.getD s.2.2.2.2.toNat aK).2.2.2] 24,.cells [ci (x.getD s.2.2.2.2.toNat aK).1.1,ci (x.getD s.2.2.2.2.toNat aK).1.2] 23,.gone,.cells [ci (x.getD s.2.2.2.2.toNat aK).1.1,ci (x.getD s.2.2.2.2.toNat aK).1.2] 23,.cells [ci (x.getD s.2.2.2.2.toNat aK).1.1,ci (x.getD s.2.2.2.2.toNat aK).1.2] 23,.cells [ci (x.getD s.2.2.2.2.toNat aK).2.1.1,ci (x.getD s.2.2.2.2.toNat aK).2.1.2] 23,.gone,.cells [ci (x.getD s.2.2.2.2.toNat aK).2.1.1,ci (x.getD s.2.2.2.2.toNat aK).2.1.2] 23,.cells [ci (x.getD s.2.2.2.2.toNat aK).2.1.1,ci (x.getD s.2.2.2.2.toNat aK).2.1.2] 23,.cells [ci (x.getD s.2.2.2.2.toNat aK).2.2.1,ci (x.getD s.2.2.2.2.toNat aK).2.2.2] 23,.gone,.cells [ci (x.getD s.2.2.2.2.toNat aK).2.2.1,ci (x.getD s.2.2.2.2.toNat aK).2.2.2] 23,.cells [ci (x.getD s.2.2.2.2.toNat aK).2.2.1,ci (x.getD s.2.2.2.2.toNat aK).2.2.2] 23]⟩)))))))))))))))))))))))))))))))))))))))))))
 (KB 0 K KN (.exit 0) ⟨[.v (.one (.sJ 8)),D,D,D,D,D,D,.v (.one (.full 0)),vi (x.length:Int),vi s.2.2.2.2,vb (decide (s.2.2.2.2<(x.length:Int))),D,D,D,D,D,D,D,D,D,D,D,D],[.row aZ x 0,.cells [ci (0:Int),ci (0:Int)] 23,.cells [ci (0:Int),ci (0:Int)] 23,.cells [ci (0:Int)] 41,.cells [ci s.1,ci s.2.1] 23,.cells [ci s.2.2.1,ci s.2.2.2.1] 23,.gone,.cells [.full 0] 57,.loop g0 LoopState.ready Option.none,.ji g1 9]⟩)):=by kernel_rfl
theorem IN (x:(List I6)) (g0:Loop) (g1:Env) (t:Unit) (d:Nat->AV):w6 ⟨tt,bu,cZ,(lu x (SU 8 ((d 0)::(d 1):: .v (.one (.ptr 1 0)):: .v (.one (.ptr 2 0)):: .v (.one (.ptr 3 0)):: .v (.one (.ptr 4 0)):: .v (.one (.ptr 5 0))::(d 7)::(d 8)::(d 9)::(d 10)::(d 11)::(d 12)::(d 13)::(d 14)::(d 15)::(d 16)::(d 17)::(d 18)::(d 19)::(d 20)::(d 21)::(d 22)::(d 23)::(d 24)::(d 25)::(d 26)::(d 27)::(d 28)::(d 29)::(d 30)::(d 31)::(d 32)::(d 33)::(d 34)::(d 35)::(d 36)::(d 37)::(d 38)::(d 39)::(d 40)::(d 41)::(d 42)::(d 43)::(d 44)::(d 45)::(d 46)::(d 47)::(d 48)::(d 49)::(d 50)::(d 51)::(d 52)::(d 53):: []) g0 g1 [23] (FW x) Tryz.f134)),(SU 8 ((d 0)::(d 1):: .v (.one (.ptr 1 0)):: .v (.one (.ptr 2 0)):: .v (.one (.ptr 3 0)):: .v (.one (.ptr 4 0)):: .v (.one (.ptr 5 0))::(d 7)::(d 8)::(d 9)::(d 10)::(d 11)::(d 12)::(d 13)::(d 14)::(d 15)::(d 16)::(d 17)::(d 18)::(d 19)::(d 20)::(d 21)::(d 22)::(d 23)::(d 24)::(d 25)::(d 26)::(d 27)::(d 28)::(d 29)::(d 30)::(d 31)::(d 32)::(d 33)::(d 34)::(d 35)::(d 36)::(d 37)::(d 38)::(d 39)::(d 40)::(d 41)::(d 42)::(d 43)::(d 44)::(d 45)::(d 46)::(d 47)::(d 48)::(d 49)::(d 50)::(d 51)::(d 52)::(d 53):: []) g0 g1 [23] (FW x) Tryz.f134),((170,fq tt bu cZ (fun ys=> []) [] Tryz.f170):: [])⟩ (.loop (cI (bR 0 (bn Tryz.f186)))) 0 (pz x g0 g1 t):=w8.V2 fun st K hk=>fX (fun s K KN hp hq=> .eq (IP x g0 g1 t d s K KN) (have hp:=Eq.mp (dA.eq_1 x t s) hp;have hq:=Eq.mp (congrArg (cz (bL x g0 g1) (cA x g0 g1) K KN) (bO.eq_1 x t s)) hq;
 (CG (Q:=(cz (bL x g0 g1) (cA x g0 g1) K KN)) hq (fun c hq=>have hp:=(hp c);(b7 (dK (decide_eq_true hp.1.1) (decide_eq_true hp.1.2)) (have hp:=hp.2;(b7 (decide_eq_true hp.1) (have hp:=hp.2;(b7 (decide_eq_true hp.1) (have hp:=hp.2;(And.intro rfl (And.intro rfl (And.intro rfl (And.intro rfl (fun cn=>(And.intro rfl (And.intro rfl (And.intro rfl (And.intro hp.1 (oK (Q:=(cz (bL x g0 g1) (cA x g0 g1) K KN)) hp.2 hq fun y hp hq=>(FO (Q:=(cz (bL x g0 g1) (cA x g0 g1) K KN)) hq (fun c hq=>(And.intro rfl (And.intro rfl (And.intro rfl (Exists.intro ⟨[D,D,D,D,D,D,D,D,D,D,D,D,D,D,D,D,D,D,D,D,D,D,D],[.row aZ x 0,.cells [ci (0:Int),ci (0:Int)] 23,.cells [ci (0:Int),ci (0:Int)] 23,.cells [ci (5:Int)] 41,.cells [ci s.1,ci s.2.1] 23,.cells [ci s.2.2.1,ci s.2.2.2.1] 23,.gone,.cells [.full 0] 57,.loop g0 LoopState.done (Option.some Code.ret),.ji g1 9]⟩ (And.intro (bP (π:= [.same 0,.same 1,.same 2,.same 3,.same 4,.same 5,.same 6,.same 7,.same 8,.same 9]) trivial (And.intro (ai rfl rfl) (And.intro (ai rfl rfl) (And.intro (ai rfl rfl) (And.intro (ai rfl rfl) (And.intro (ai rfl rfl) (And.intro (ai rfl rfl) (And.intro (ai rfl rfl) (And.intro (ai rfl rfl) (And.intro (ai rfl rfl) trivial))))))))) rfl) hq)))))) (fun c hq=>have hp:=(hp c);(And.intro rfl (And.intro rfl (And.intro rfl (And.intro rfl (And.intro rfl (And.intro rfl (And.intro rfl (fun MX=>(And.intro rfl (And.intro rfl (And.intro rfl (And.intro hp.1 (oK (Q:=(cz (bL x g0 g1) (cA x g0 g1) K KN)) hp.2 hq fun aB hp hq=>(FO (Q:=(cz (bL x g0 g1) (cA x g0 g1) K KN)) hq (fun c hq=>(And.intro rfl (And.intro rfl (And.intro rfl (Exists.intro ⟨[D,D,D,D,D,D,D,D,D,D,D,D,D,D,D,D,D,D,D,D,D,D,D],[.row aZ x 0,.cells [ci (0:Int),ci (0:Int)] 23,.cells [ci (0:Int),ci (0:Int)] 23,.cells [ci (5:Int)] 41,.cells [ci (aG s.1 (x.getD s.2.2.2.2.toNat (((0:Int),(0:Int)),((0:Int),(0:Int)),(0:Int),(0:Int))).1.1),ci (aG s.2.1 (x.getD s.2.2.2.2.toNat (((0:Int),(0:Int)),((0:Int),(0:Int)),(0:Int),(0:Int))).1.2)] 23,.cells [ci (aI s.2.2.1 (x.getD s.2.2.2.2.toNat (((0:Int),(0:Int)),((0:Int),(0:Int)),(0:Int),(0:Int))).1.1),ci (aI s.2.2.2.1 (x.getD s.2.2.2.2.toNat (((0:Int),(0:Int)),((0:Int),(0:Int)),(0:Int),(0:Int))).1.2)] 23,.gone,.cells [.full 0] 57,.loop g0 LoopState.done (Option.some Code.ret),.ji g1 9]⟩ (And.intro (bP (π:= [.same 0,.same 1,.same 2,.same 3,.same 4,.same 5,.same 6,.same 7,.same 8,.same 9]) trivial (And.intro (ai rfl rfl) (And.intro (ai rfl rfl) (And.intro (ai rfl rfl) (And.intro (ai rfl rfl) (And.intro (ai rfl rfl) (And.intro (ai rfl rfl) (And.intro (ai rfl rfl) (And.intro (ai rfl rfl) (And.intro (ai rfl rfl) trivial))))))))) rfl) hq)))))) (fun c hq=>have hp:=(hp c);(And.intro rfl (And.intro rfl (And.intro rfl (And.intro rfl (And.intro rfl (And.intro rfl (And.intro rfl (fun MY=>(And.intro rfl (And.intro rfl (And.intro rfl (And.intro hp (pL (Q:=(cz (bL x g0 g1) (cA x g0 g1) K KN)) hq fun y_2 hq=>(FO (Q:=(cz (bL x g0 g1) (cA x g0 g1) K KN)) hq (fun c hq=>(And.intro rfl (And.intro rfl (And.intro rfl (Exists.intro ⟨[D,D,D,D,D,D,D,D,D,D,D,D,D,D,D,D,D,D,D,D,D,D,D],[.row aZ x 0,.cells [ci (0:Int),ci (0:Int)] 23,.cells [ci (0:Int),ci (0:Int)] 23,.cells [ci (5:Int)] 41,.cells [ci (aG (aG s.1 (x.getD s.2.2.2.2.toNat (((0:Int),(0:Int)),((0:Int),(0:Int)),(0:Int),(0:Int))).1.1) (x.getD s.2.2.2.2.toNat (((0:Int),(0:Int)),((0:Int),(0:Int)),(0:Int),(0:Int))).2.1.1),ci (aG (aG s.2.1 (x.getD s.2.2.2.2.toNat (((0:Int),(0:Int)),((0:Int),(0:Int)),(0:Int),(0:Int))).1.2) (x.getD s.2.2.2.2.toNat (((0:Int),(0:Int)),((0:Int),(0:Int)),(0:Int),(0:Int))).2.1.2)] 23,.cells [ci (aI (aI s.2.2.1 (x.getD s.2.2.2.2.toNat (((0:Int),(0:Int)),((0:Int),(0:Int)),(0:Int),(0:Int))).1.1) (x.getD s.2.2.2.2.toNat (((0:Int),(0:Int)),((0:Int),(0:Int)),(0:Int),(0:Int))).2.1.1),ci (aI (aI s.2.2.2.1 (x.getD s.2.2.2.2.toNat (((0:Int),(0:Int)),((0:Int),(0:Int)),(0:Int),(0:Int))).1.2) (x.getD s.2.2.2.2.toNat (((0:Int),(0:Int)),((0:Int),(0:Int)),(0:Int),(0:Int))).2.1.2)] 23,.gone,.cells [.full 0] 57,.loop g0 LoopState.done (Option.some Code.ret),.ji g1 9]⟩ (And.intro (bP (π:= [.same 0,.same 1,.same 2,.same 3,.same 4,.same 5,.same 6,.same 7,.same 8,.same 9]) trivial (And.intro (ai rfl rfl) (And.intro (ai rfl rfl) (And.intro (ai rfl rfl) (And.intro (ai rfl rfl) (And.intro (ai rfl rfl) (And.intro (ai rfl rfl) (And.intro (ai rfl rfl) (And.intro (ai rfl rfl) (And.intro (ai rfl rfl) trivial))))))))) rfl) hq)))))) (fun c hq=>(And.intro rfl (And.intro rfl (And.intro rfl (Exists.intro (bL x g0 g1 ((aG (aG (aG s.1 (x.getD s.2.2.2.2.toNat (((0:Int),(0:Int)),((0:Int),(0:Int)),(0:Int),(0:Int))).1.1) (x.getD s.2.2.2.2.toNat (((0:Int),(0:Int)),((0:Int),(0:Int)),(0:Int),(0:Int))).2.1.1) (x.getD s.2.2.2.2.toNat (((0:Int),(0:Int)),((0:Int),(0:Int)),(0:Int),(0:Int))).2.2.1),(aG (aG (aG s.2.1 (x.getD s.2.2.2.2.toNat (((0:Int),(0:Int)),((0:Int),(0:Int)),(0:Int),(0:Int))).1.2) (x.getD s.2.2.2.2.toNat (((0:Int),(0:Int)),((0:Int),(0:Int)),(0:Int),(0:Int))).2.1.2) (x.getD s.2.2.2.2.toNat (((0:Int),(0:Int)),((0:Int),(0:Int)),(0:Int),(0:Int))).2.2.2),(aI (aI (aI s.2.2.1 (x.getD s.2.2.2.2.toNat (((0:Int),(0:Int)),((0:Int),(0:Int)),(0:Int),(0:Int))).1.1) (x.getD s.2.2.2.2.toNat (((0:Int),(0:Int)),((0:Int),(0:Int)),(0:Int),(0:Int))).2.1.1) (x.getD s.2.2.2.2.toNat (((0:Int),(0:Int)),((0:Int),(0:Int)),(0:Int),(0:Int))).2.2.1),(aI (aI (aI s.2.2.2.1 (x.getD s.2.2.2.2.toNat (((0:Int),(0:Int)),((0:Int),(0:Int)),(0:Int),(0:Int))).1.2) (x.getD s.2.2.2.2.toNat (((0:Int),(0:Int)),((0:Int),(0:Int)),(0:Int),(0:Int))).2.1.2) (x.getD s.2.2.2.2.toNat (((0:Int),(0:Int)),((0:Int),(0:Int)),(0:Int),(0:Int))).2.2.2),(aj (s.2.2.2.2+(1:Int))))) (And.intro (bP (π:= [.same 0,.same 1,.same 2,.same 3,.same 4,.same 5,.same 6,.same 7,.same 8,.same 9]) (And.intro rfl (And.intro rfl (And.intro rfl (And.intro rfl trivial)))) (And.intro (ai rfl rfl) (And.intro (ai rfl rfl) (And.intro (ai rfl rfl) (And.intro (ai rfl rfl) (And.intro (ai rfl rfl) (And.intro (ai rfl rfl) (And.intro (ai rfl rfl) (And.intro (ai rfl rfl) (And.intro (ai rfl rfl) trivial))))))))) rfl) hq)))))))))))))))))))))))))))))))))))))))))))))))))))))) (fun c hq=>(Exists.intro ⟨[D,D,D,D,D,D,D,D,D,D,D,D,D,D,D,D,D,D,D,D,D,D,D],[.row aZ x 0,.cells [ci (0:Int),ci (0:Int)] 23,.cells [ci (0:Int),ci (0:Int)] 23,.cells [ci (0:Int)] 41,.cells [ci s.1,ci s.2.1] 23,.cells [ci s.2.2.1,ci s.2.2.2.1] 23,.gone,.cells [.full 0] 57,.loop g0 LoopState.ready Option.none,.ji g1 9]⟩ (And.intro (bP (π:= [.same 0,.same 1,.same 2,.same 3,.same 4,.same 5,.same 6,.same 7,.same 8,.same 9]) trivial (And.intro (ai rfl rfl) (And.intro (ai rfl rfl) (And.intro (ai rfl rfl) (And.intro (ai rfl rfl) (And.intro (ai rfl rfl) (And.intro (ai rfl rfl) (And.intro (ai rfl rfl) (And.intro (ai rfl rfl) (And.intro (ai rfl rfl) trivial))))))))) rfl) hq)))))) st K hk
theorem J4 (x:(List I6)): ∀ys,xe Tryz.prog ys->au Tryz.prog cZ (bn Tryz.f186) (xA x ys):=fun ys hy=>au.nil
theorem J5 (x:(List I6)): ∀ys,xe Tryz.prog ys->au Tryz.prog cZ (bn Tryz.f186) (lu x ys):=fun ys hy=>au.Cu ax ⟨dI,hy,(av.cons (dS.of (fn:=Tryz.f170) (by kernel_rfl) (by kernel_rfl) (by kernel_rfl)) (dr.fn ax dI mixed (fn:=Tryz.f170) (by kernel_rfl) (by kernel_rfl) (av.nil _ _) (fun ys hy=>au.nil)) (av.nil _ _))⟩ mixed 4 (J4 x ys hy) (by kernel_rfl) (by kernel_rfl)
theorem J6 (x:(List I6)): ∀ys,xe Tryz.prog ys->au Tryz.prog cZ (bn Tryz.f186) (rJ x ys):=fun ys hy=>au.ac9 ax ⟨dI,hy,(av.cons (dS.of (fn:=Tryz.f170) (by kernel_rfl) (by kernel_rfl) (by kernel_rfl)) (dr.fn ax dI mixed (fn:=Tryz.f170) (by kernel_rfl) (by kernel_rfl) (av.nil _ _) (fun ys hy=>au.nil)) (av.nil _ _))⟩ mixed (J5 x ys hy) (by kernel_rfl) (by kernel_rfl) (w8.cons (w8.uK fun g0=>w8.CF fun g1=>w8.cert) w8.nil)
def jn (x:(List I6)):(I2×I2×Int):=
 (if (((x.length:Int)==0)=true) then
 ((0,0),(0,0),1) else
 (aq (run (bO x ()) ((x.getD 0 ((0,0),(0,0),0,0)).1.1,(x.getD 0 ((0,0),(0,0),0,0)).1.2,(x.getD 0 ((0,0),(0,0),0,0)).1.1,(x.getD 0 ((0,0),(0,0),0,0)).1.2,0)) fun r_1=>
 (Sum.elim (fun a=>
 ((0,0),(0,0),5)) (fun b=>
 ((b.1,b.2.1),b.2.2,0)) r_1)))
def qz (x:(List I6)):Prop:=
 (¬(((x.length:Int)==0)=true)->
 ((0<(x.length:Int))/\
 ((0<x.length)/\
 ((0<x.length)/\
 ((0<x.length)/\
 ((0<(x.length:Int))/\
 ((0<x.length)/\
 ((0<x.length)/\
 ((0<x.length)/\
 (Term (bO x ()) (dA x ()) ((x.getD 0 ((0,0),(0,0),0,0)).1.1,(x.getD 0 ((0,0),(0,0),0,0)).1.2,(x.getD 0 ((0,0),(0,0),0,0)).1.1,(x.getD 0 ((0,0),(0,0),0,0)).1.2,0)))))))))))
theorem agX (x:(List I6)) (Q:(I2×I2×Int)->Prop):Na ⟨tt,bu,cZ,[],[],((186,fq tt bu cZ (rJ x) ((170,fq tt bu cZ (fun ys=> []) [] Tryz.f170):: []) Tryz.f186)::((170,fq tt bu cZ (fun ys=> []) [] Tryz.f170):: []))⟩ Tryz.f134 (ij (.one (Ty.sl aZ)) x) (iq (.one (Ty.sl aZ)) x) (Ss (.pair (.agg aQ) (.pair (.agg aQ) (.one yi))) Q)=
 (cB ((x.length:Int)==(0:Int))
 (Q (jg,jg,(1:Int)))
 (ob (true&&(decide ((0:Int)<(x.length:Int))))
 (ob (decide (0<x.length))
 (ob (decide (0<x.length))
 (ob (decide (0<x.length))
 (ob (true&&(decide ((0:Int)<(x.length:Int))))
 (ob (decide (0<x.length))
 (ob (decide (0<x.length))
 (ob (decide (0<x.length))
 (∀cn:Env,
 ((cn=cn)/\
 ((6=6)/\
 (∀r:Loop,
 (∀tG:Env,
 (Exists fun tq:Unit×(Nat->AV)=>w6 ⟨tt,bu,cZ,(lu x (SU 8 (.v (.one (.full 0))::aH:: .v (.one (.ptr 1 0)):: .v (.one (.ptr 2 0)):: .v (.one (.ptr 3 0)):: .v (.one (.ptr 4 0)):: .v (.one (.ptr 5 0))::aH:: .v (.one (.full 0))::vi (x.length:Int)::vb ((x.length:Int)==(0:Int))::aH::aH:: .v (.one (.full 0)):: .v (.one (.br 0 0 0)):: .v (.one (.br 0 0 0)):: .v (.agg [ci (x.getD 0 aK).1.1,ci (x.getD 0 aK).1.2]):: .v (.one (.full 0)):: .v (.one (.br 0 0 0)):: .v (.one (.br 0 0 0)):: .v (.agg [ci (x.getD 0 aK).1.1,ci (x.getD 0 aK).1.2]):: .v (.one (.full 0)):: .v (.one (.ik (Fn.func 186) [] [(Ref.loc 7 0)]))::aH::aH::aH::aH::aH::aH::aH::aH::aH::aH::aH::aH::aH::aH::aH::aH::aH::aH::aH::aH::aH::aH::aH::aH::aH::aH::aH::aH::aH::aH::aH:: []) r tG [23] (FW x) Tryz.f134)),(SU 8 (.v (.one (.full 0))::aH:: .v (.one (.ptr 1 0)):: .v (.one (.ptr 2 0)):: .v (.one (.ptr 3 0)):: .v (.one (.ptr 4 0)):: .v (.one (.ptr 5 0))::aH:: .v (.one (.full 0))::vi (x.length:Int)::vb ((x.length:Int)==(0:Int))::aH::aH:: .v (.one (.full 0)):: .v (.one (.br 0 0 0)):: .v (.one (.br 0 0 0)):: .v (.agg [ci (x.getD 0 aK).1.1,ci (x.getD 0 aK).1.2]):: .v (.one (.full 0)):: .v (.one (.br 0 0 0)):: .v (.one (.br 0 0 0)):: .v (.agg [ci (x.getD 0 aK).1.1,ci (x.getD 0 aK).1.2]):: .v (.one (.full 0)):: .v (.one (.ik (Fn.func 186) [] [(Ref.loc 7 0)]))::aH::aH::aH::aH::aH::aH::aH::aH::aH::aH::aH::aH::aH::aH::aH::aH::aH::aH::aH::aH::aH::aH::aH::aH::aH::aH::aH::aH::aH::aH::aH:: []) r tG [23] (FW x) Tryz.f134),((170,fq tt bu cZ (fun ys=> []) [] Tryz.f170):: [])⟩ (.loop (cI (bR 0 (bn Tryz.f186)))) 0 (pz x r tG tq.1)/\ (Exists fun s0:(Int×Int×I3)=>pN ⟨[.v (.one (.sJ 8)),.v (.one (.ptr 7 0)),aH,aH,aH,aH,aH,.v (.one (.full 0)),vi (x.length:Int),vi (0:Int),aH,aH,aH,aH,aH,aH,aH,aH,aH,aH,aH,aH,aH],[.row aZ x 0,.cells [ci (0:Int),ci (0:Int)] 23,.cells [ci (0:Int),ci (0:Int)] 23,.cells [ci (0:Int)] 41,.cells [ci (x.getD 0 aK).1.1,ci (x.getD 0 aK).1.2] 23,.cells [ci (x.getD 0 aK).1.1,ci (x.getD 0 aK).1.2] 23,.gone,.cells [.full 0] 57,.loop r LoopState.ready Option.none,.ji tG 9]⟩ (bL x r tG s0)/\ Term (bO x tq.1) (dA x tq.1) s0/\ ∀r_1:((Int×I3)⊕(Int×I3)),r_1=run (bO x tq.1) s0->
 (cS r_1 (fun a=>
 ((tG=tG)/\
 ((9=9)/\
 (Q (jg,jg,(5:Int)))))) (fun b=>
 ((tG=tG)/\
 ((9=9)/\
 (Q ((b.1,b.2.1),b.2.2,(0:Int))))))))))))))))))))))):=by kernel_rfl
theorem agV (x:(List I6)) (Q:(I2×I2×Int)->Prop) (hp:qz x) (hq:Q (jn x)):Vc (Na ⟨tt,bu,cZ,[],[],((186,fq tt bu cZ (rJ x) ((170,fq tt bu cZ (fun ys=> []) [] Tryz.f170):: []) Tryz.f186)::((170,fq tt bu cZ (fun ys=> []) [] Tryz.f170):: []))⟩ Tryz.f134 (ij (.one (Ty.sl aZ)) x) (iq (.one (Ty.sl aZ)) x) (Ss (.pair (.agg aQ) (.pair (.agg aQ) (.one yi))) Q)):= .eq (agX x Q) (have hp:=Eq.mp (qz.eq_1 x) hp;have hq:=Eq.mp (congrArg Q (jn.eq_1 x)) hq;
 (FO (Q:=Q) hq (fun c hq=>hq) (fun c hq=>have hp:=(hp c);(b7 (dK rfl (decide_eq_true hp.1)) (have hp:=hp.2;(b7 (decide_eq_true hp.1) (have hp:=hp.2;(b7 (decide_eq_true hp.1) (have hp:=hp.2;(b7 (decide_eq_true hp.1) (have hp:=hp.2;(b7 (dK rfl (decide_eq_true hp.1)) (have hp:=hp.2;(b7 (decide_eq_true hp.1) (have hp:=hp.2;(b7 (decide_eq_true hp.1) (have hp:=hp.2;(b7 (decide_eq_true hp.1) (have hp:=hp.2;(fun cn=>(And.intro rfl (And.intro rfl (fun r=>(fun tG=>(Exists.intro ((),(dG (.v (.one (.full 0))::aH:: .v (.one (.ptr 1 0)):: .v (.one (.ptr 2 0)):: .v (.one (.ptr 3 0)):: .v (.one (.ptr 4 0)):: .v (.one (.ptr 5 0))::aH:: .v (.one (.full 0))::vi (x.length:Int)::vb ((x.length:Int)==(0:Int))::aH::aH:: .v (.one (.full 0)):: .v (.one (.br 0 0 0)):: .v (.one (.br 0 0 0)):: .v (.agg [ci (x.getD 0 (((0:Int),(0:Int)),((0:Int),(0:Int)),(0:Int),(0:Int))).1.1,ci (x.getD 0 (((0:Int),(0:Int)),((0:Int),(0:Int)),(0:Int),(0:Int))).1.2]):: .v (.one (.full 0)):: .v (.one (.br 0 0 0)):: .v (.one (.br 0 0 0)):: .v (.agg [ci (x.getD 0 (((0:Int),(0:Int)),((0:Int),(0:Int)),(0:Int),(0:Int))).1.1,ci (x.getD 0 (((0:Int),(0:Int)),((0:Int),(0:Int)),(0:Int),(0:Int))).1.2]):: .v (.one (.full 0)):: .v (.one (.ik (Fn.func 186) [] [(Ref.loc 7 0)]))::aH::aH::aH::aH::aH::aH::aH::aH::aH::aH::aH::aH::aH::aH::aH::aH::aH::aH::aH::aH::aH::aH::aH::aH::aH::aH::aH::aH::aH::aH::aH:: []))) (And.intro (IN x r tG () (dG (.v (.one (.full 0))::aH:: .v (.one (.ptr 1 0)):: .v (.one (.ptr 2 0)):: .v (.one (.ptr 3 0)):: .v (.one (.ptr 4 0)):: .v (.one (.ptr 5 0))::aH:: .v (.one (.full 0))::vi (x.length:Int)::vb ((x.length:Int)==(0:Int))::aH::aH:: .v (.one (.full 0)):: .v (.one (.br 0 0 0)):: .v (.one (.br 0 0 0)):: .v (.agg [ci (x.getD 0 (((0:Int),(0:Int)),((0:Int),(0:Int)),(0:Int),(0:Int))).1.1,ci (x.getD 0 (((0:Int),(0:Int)),((0:Int),(0:Int)),(0:Int),(0:Int))).1.2]):: .v (.one (.full 0)):: .v (.one (.br 0 0 0)):: .v (.one (.br 0 0 0)):: .v (.agg [ci (x.getD 0 (((0:Int),(0:Int)),((0:Int),(0:Int)),(0:Int),(0:Int))).1.1,ci (x.getD 0 (((0:Int),(0:Int)),((0:Int),(0:Int)),(0:Int),(0:Int))).1.2]):: .v (.one (.full 0)):: .v (.one (.ik (Fn.func 186) [] [(Ref.loc 7 0)]))::aH::aH::aH::aH::aH::aH::aH::aH::aH::aH::aH::aH::aH::aH::aH::aH::aH::aH::aH::aH::aH::aH::aH::aH::aH::aH::aH::aH::aH::aH::aH:: []))) (Exists.intro ((x.getD 0 (((0:Int),(0:Int)),((0:Int),(0:Int)),(0:Int),(0:Int))).1.1,(x.getD 0 (((0:Int),(0:Int)),((0:Int),(0:Int)),(0:Int),(0:Int))).1.2,(x.getD 0 (((0:Int),(0:Int)),((0:Int),(0:Int)),(0:Int),(0:Int))).1.1,(x.getD 0 (((0:Int),(0:Int)),((0:Int),(0:Int)),(0:Int),(0:Int))).1.2,(0:Int)) (And.intro (bP (π:= [.same 0,.same 1,.same 2,.same 3,.same 4,.same 5,.same 6,.same 7,.same 8,.same 9]) (And.intro rfl (And.intro rfl (And.intro rfl (And.intro rfl trivial)))) (And.intro (ai rfl rfl) (And.intro (ai rfl rfl) (And.intro (ai rfl rfl) (And.intro (ai rfl rfl) (And.intro (ai rfl rfl) (And.intro (ai rfl rfl) (And.intro (ai rfl rfl) (And.intro (ai rfl rfl) (And.intro (ai rfl rfl) trivial))))))))) rfl) (And.intro hp (pL (Q:=Q) hq fun r_1 hq=>(akL (Q:=Q) (P:=fun _=>True) (P':=fun _=>True) (by cases r_1<;>trivial) hq (fun a _ hq=>(And.intro rfl (And.intro rfl hq))) (fun b _ hq=>(And.intro rfl (And.intro rfl hq))))))))))))))))))))))))))))))))))
abbrev Wc:bB:=⟨(.one (Ty.sl aZ)),(.pair (.agg aQ) (.pair (.agg aQ) (.one yi))),qz,jn⟩
theorem agW:ah Tryz.prog 134 (ak Wc):=ah.akW (fn:=Tryz.f134) ax dI mixed (by kernel_rfl) (by kernel_rfl) (.one (Ty.sl aZ)) (.pair (.agg aQ) (.pair (.agg aQ) (.one yi))) qz jn (by kernel_rfl) fun x hp=>⟨_,_,(av.cons (dS.of (fn:=Tryz.f186) (by kernel_rfl) (by kernel_rfl) (by kernel_rfl)) (dr.fn ax dI mixed (fn:=Tryz.f186) (by kernel_rfl) (by kernel_rfl) (av.cons (dS.of (fn:=Tryz.f170) (by kernel_rfl) (by kernel_rfl) (by kernel_rfl)) (dr.fn ax dI mixed (fn:=Tryz.f170) (by kernel_rfl) (by kernel_rfl) (av.nil _ _) (fun ys hy=>au.nil)) (av.nil _ _)) (J6 x)) (av.cons (dS.of (fn:=Tryz.f170) (by kernel_rfl) (by kernel_rfl) (by kernel_rfl)) (dr.fn ax dI mixed (fn:=Tryz.f170) (by kernel_rfl) (by kernel_rfl) (av.nil _ _) (fun ys hy=>au.nil)) (av.nil _ _))),au.nil,agV x (fun y=>y=jn x) hp rfl⟩
def ZE:List (Nat×Ev.Spec):=(134,ak Wc)::bu
theorem L3:ae Tryz.prog ZE:=ae.add (fn:=Tryz.f134) (by kernel_rfl) agW dI
def V3 (x:(List I6)):(List I6):=
 ((List.replicate 0 (((0:Int),(0:Int)),((0:Int),(0:Int)),(0:Int),(0:Int)))++x)
def BK (x:(List I6)):Prop:=
 (∀b:Bool,((0<x.length)->(b=false))->(((if (b=true) then
 [] else
 ((List.replicate 0 (((0:Int),(0:Int)),((0:Int),(0:Int)),(0:Int),(0:Int)))++x))=((List.replicate 0 (((0:Int),(0:Int)),((0:Int),(0:Int)),(0:Int),(0:Int)))++x))/\ (¬(b=true)->
 ((0+x.length)<1099511627776))))
def ac8 (x:(List I6)):Tr (List I6) true:=
 (.nil (fun b=>((0<x.length)->(b=false))) fun b=>
 (.dy b
 (.ret [])
 (.od ((0+x.length)<1099511627776)
 (.ret ((List.replicate 0 aK)++x)))))
abbrev CK:bB:=⟨(.one (Ty.sl aZ)),(.one (Ty.sl aZ)),BK,V3⟩
theorem aaf:ah Tryz.prog 137 (ak CK):=ah.tr CK ac8 (fn:=Tryz.f137) ax L3 mixed (by kernel_rfl) (av.dead 137 (fn:=Tryz.f137) (by kernel_rfl)) (fun x=>au.nil) (fun x=>(by kernel_rfl)) fun x Q=>(by kernel_rfl)
def Pz:List (Nat×Ev.Spec):=(137,ak CK)::ZE
theorem Ez:ae Tryz.prog Pz:=ae.add (fn:=Tryz.f137) (by kernel_rfl) aaf L3
def eI (x:(I2×I2)):I2:=
 ((aj (x.1.1+x.2.1)),(aj (x.1.2+x.2.2)))
def aa8 (_:(I2×I2)):Prop:=True
def ahq (x:(I2×I2)):Tr I2 false:=
 (.ret ((aj (x.1.1+x.2.1)),(aj (x.1.2+x.2.2))))
abbrev zO:bB:=⟨(.pair (.agg aQ) (.ptr (.prod (.int .i64) (.int .i64)))),(.agg aQ),aa8,eI⟩
theorem aeA:ah Tryz.prog 92 (ak zO):=ah.tr zO ahq (fn:=Tryz.f92) ax Ez mixed (by kernel_rfl) (av.nil _ _) (fun x=>au.nil) (fun x=>(by kernel_rfl)) fun x Q=>(by kernel_rfl)
def Vl:List (Nat×Ev.Spec):=(92,ak zO)::Pz
theorem sF:ae Tryz.prog Vl:=ae.add (fn:=Tryz.f92) (by kernel_rfl) aeA Ez
def MN (x:(List I6×I2)):aF:=⟨[],⟨bq 35 0 [(1,.v (.one (.ik 92 0 [.elem 0]))),(5,.v (.one (.full 1))),(12,.v (.one (.full 1))),(13,.v (.one (.i .i64))),(14,.v (.one (.i .i64)))],[.row aQ 0,.row aZ 2],0,none,[],[0,3],[4,1,2],[(.l aZ),.i,.i],[.n 0,.l aQ [x.2]]⟩,[⟨(.exit 0),.normal,⟨bq 35 0 [(5,.v (.one (.full 0)))],[.row aZ 2],0,none,[],[],[0],[(.l aZ)],[]⟩⟩]⟩
def kR (x:(List I6×I2)) (s:(List I6×I2)):(List I6×I2)⊕(List I6):=
 (if (s.2.2<s.2.1) then
 (aq (eI ((s.1.getD s.2.2.toNat ((0,0),(0,0),0,0)).1,x.2)) fun y=>
 (aq (List.set s.1 s.2.2.toNat (y,(s.1.getD s.2.2.toNat ((0,0),(0,0),0,0)).2)) fun aB=>
 (aq (eI ((s.1.getD s.2.2.toNat ((0,0),(0,0),0,0)).2.1,x.2)) fun y_2=>
 (aq (List.set aB s.2.2.toNat ((aB.getD s.2.2.toNat ((0,0),(0,0),0,0)).1,y_2,(aB.getD s.2.2.toNat ((0,0),(0,0),0,0)).2.2)) fun bh=>
 (aq (eI ((s.1.getD s.2.2.toNat ((0,0),(0,0),0,0)).2.2,x.2)) fun bj=>
 (aq (List.set bh s.2.2.toNat ((bh.getD s.2.2.toNat ((0,0),(0,0),0,0)).1,(bh.getD s.2.2.toNat ((0,0),(0,0),0,0)).2.1,bj)) fun gw=>
 (Sum.inl (gw,s.2.1,(aj (s.2.2+1)))))))))) else
 (Sum.inr (s.1)))
def q9 (x:(List I6×I2)) (s:(List I6×I2)):Prop:=
 ((s.2.2<s.2.1)->
 (((0<=s.2.2)/\ (s.2.2<(s.1.length:Int)))/\
 ((s.2.2.toNat<s.1.length)/\
 ((s.2.2.toNat<s.1.length)/\
 (az (eI ((s.1.getD s.2.2.toNat ((0,0),(0,0),0,0)).1,x.2)) fun y=>
 (((0<=s.2.2)/\ (s.2.2<(s.1.length:Int)))/\
 ((s.2.2.toNat<s.1.length)/\
 ((s.2.2.toNat<s.1.length)/\
 ((s.2.2.toNat<s.1.length)/\
 (az (List.set s.1 s.2.2.toNat (y,(s.1.getD s.2.2.toNat ((0,0),(0,0),0,0)).2)) fun aB=>
 (az (eI ((s.1.getD s.2.2.toNat ((0,0),(0,0),0,0)).2.1,x.2)) fun y_2=>
 (((0<=s.2.2)/\ (s.2.2<(aB.length:Int)))/\
 ((s.2.2.toNat<aB.length)/\
 ((s.2.2.toNat<aB.length)/\
 ((s.2.2.toNat<aB.length)/\
 (az (List.set aB s.2.2.toNat ((aB.getD s.2.2.toNat ((0,0),(0,0),0,0)).1,y_2,(aB.getD s.2.2.toNat ((0,0),(0,0),0,0)).2.2)) fun bh=>
 (az (eI ((s.1.getD s.2.2.toNat ((0,0),(0,0),0,0)).2.2,x.2)) fun bj=>
 (((0<=s.2.2)/\ (s.2.2<(bh.length:Int)))/\
 ((s.2.2.toNat<bh.length)/\
 ((s.2.2.toNat<bh.length)/\
 (s.2.2.toNat<bh.length)))))))))))))))))))))
def Fu (x:(List I6×I2)) (s:(List I6×I2)):Tr ((List I6×I2)⊕(List I6)) true:=
 (.i10 (s.2.2<s.2.1)
 (.gu s.2.2 s.1
 (.fn0 zO ((gT s.1 s.2.2 aK).1,x.2) trivial fun y=>
 (.Dx s.2.2 s.1
 (.lt (List.set s.1 (tN s.2.2) (y,(gT s.1 s.2.2 aK).2)) fun aB=>
 (.fn0 zO ((gT s.1 s.2.2 aK).2.1,x.2) trivial fun y_2=>
 (.Dx s.2.2 aB
 (.lt (List.set aB (tN s.2.2) ((gT aB s.2.2 aK).1,y_2,(gT aB s.2.2 aK).2.2)) fun bh=>
 (.fn0 zO ((gT s.1 s.2.2 aK).2.2,x.2) trivial fun bj=>
 (.Dx s.2.2 bh
 (.lt (List.set bh (tN s.2.2) ((gT bh s.2.2 aK).1,(gT bh s.2.2 aK).2.1,bj)) fun gw=>
 (.ret (.inl (gw,s.2.1,(w1 s.2.2))))))))))))))
 (.ret (.inr (s.1))))
def SE (x:(List I6×I2)):(List I6):=
 (aq (V3 x.1) fun y=>
 (aq (run (kR x) (y,(y.length:Int),0)) fun r=>
 r))
def zc (x:(List I6×I2)):Prop:=
 ((BK x.1)/\
 az (V3 x.1) fun y=>
 (Term (kR x) (q9 x) (y,(y.length:Int),0)))
def acB (x:(List I6×I2)):Tr (List I6) true:=
 (.fn CK x.1 fun y=>
 (aF.lp (MN x) (Fu x) (y,(nL y),z0) fun r=>
 (.ret r)))
abbrev As:bB:=⟨(.pair (.one (Ty.sl aZ)) (.ik 92 (.ptr (.prod (.int .i64) (.int .i64))))),(.one (Ty.sl aZ)),zc,SE⟩
theorem Yr:ah Tryz.prog 91 (ak As):=ah.tr As acB (fn:=Tryz.f91) ax sF mixed (by kernel_rfl) (av.nil _ _) (fun x=>(au.tr ax (ae.bD sF (av.nil _ _)) mixed 0 (MN x) (Fu x) (au.j7 ax (ae.bD sF (av.nil _ _)) mixed 2 4 au.nil (by kernel_rfl)) (by kernel_rfl) fun g s Q=>(by kernel_rfl))) (fun x=>(by kernel_rfl)) fun x Q=>(by kernel_rfl)
def MB:List (Nat×Ev.Spec):=(91,ak As)::Vl
theorem By:ae Tryz.prog MB:=ae.add (fn:=Tryz.f91) (by kernel_rfl) Yr sF
def VO (x:(List Int×List I6×I2)):Bool:=
 (if ((x.1.length:Int)>500) then
 false else
 (if (((x.2.1.length:Int) !=(x.1.length:Int))=true) then
 false else
 (aq (tJ (x.2.1,false)) fun y=>
 (if (y=true) then
 false else
 (aq (jn x.2.1) fun aB=>
 (if ((aB.2.2 !=0)=true) then
 false else
 (if ((!((aB.1.1==0)&&((aB.1.2==0)&&true)))=true) then
 false else
 (aq (Kg aB.2.1) fun y_2=>
 (if ((x.2.2.1==y_2.1)=true) then
 (if ((x.2.2.2==y_2.2)=true) then
 (aq (J2 x.2.1) fun bh=>
 bh) else
 false) else
 false)))))))))
def CV (x:(List Int×List I6×I2)):Prop:=
 (¬((x.1.length:Int)>500)->
 (¬(((x.2.1.length:Int) !=(x.1.length:Int))=true)->
 ((sP (x.2.1,false))/\
 az (tJ (x.2.1,false)) fun y=>
 (¬(y=true)->
 ((qz x.2.1)/\
 az (jn x.2.1) fun aB=>
 (¬((aB.2.2 !=0)=true)->
 (¬((!((aB.1.1==0)&&((aB.1.2==0)&&true)))=true)->
 (az (Kg aB.2.1) fun y_2=>
 (((x.2.2.1==y_2.1)=true)->
 (((x.2.2.2==y_2.2)=true)->
 (BT x.2.1)))))))))))
def akT (x:(List Int×List I6×I2)):Tr Bool true:=
 (.nK ((nL x.1)>500)
 (.ret false)
 (.dy ((nL x.2.1) !=(nL x.1))
 (.ret false)
 (.fn rG (x.2.1,false) fun y=>
 (.dy y
 (.ret false)
 (.fn Wc x.2.1 fun aB=>
 (.dy (aB.2.2 !=z0)
 (.ret false)
 (.dy (!((aB.1.1==z0)&&((aB.1.2==z0)&&true)))
 (.ret false)
 (.fn0 C1 aB.2.1 trivial fun y_2=>
 (.FB (x.2.2.1==y_2.1)
 (.FB (x.2.2.2==y_2.2)
 (.fn CR x.2.1 fun bh=>
 (.ret bh))
 (.ret false))
 (.ret false))))))))))
abbrev Tl:bB:=⟨(.agg (Ty.prod (Ty.sl yi) (Ty.prod (Ty.sl aZ) aQ))),(.one Ty.bool),CV,VO⟩
theorem ajg:ah Tryz.prog 90 (ak Tl):=ah.tr Tl akT (fn:=Tryz.f90) ax By mixed (by kernel_rfl) (av.nil _ _) (fun x=>au.nil) (fun x=>(by kernel_rfl)) fun x Q=>(by kernel_rfl)
def afS:List (Nat×Ev.Spec):=(90,ak Tl)::MB
theorem PG:ae Tryz.prog afS:=ae.add (fn:=Tryz.f90) (by kernel_rfl) ajg By
def CX (x:((List Int×List I6×I2)×I2)):(List I6×Int):=
 (aq (VO x.1) fun y=>
 (if ((!y)=true) then
 ([],1) else
 (if ((aG x.2.1 x.2.2)<0) then
 ([],5) else
 (if ((aI x.2.1 x.2.2)>65536) then
 ([],5) else
 (aq (SE (x.1.2.1,x.2)) fun aB=>
 (aB,0))))))
def zy (x:((List Int×List I6×I2)×I2)):Prop:=
 ((CV x.1)/\
 az (VO x.1) fun y=>
 (¬((!y)=true)->
 (¬((aG x.2.1 x.2.2)<0)->
 (¬((aI x.2.1 x.2.2)>65536)->
 (zc (x.1.2.1,x.2))))))
def ag6 (x:((List Int×List I6×I2)×I2)):Tr (List I6×Int) true:=
 (.fn Tl x.1 fun y=>
 (.dy (!y)
 (.ret ([],z1))
 (.nK ((aG x.2.1 x.2.2)<z0)
 (.ret ([],5))
 (.nK ((aI x.2.1 x.2.2)>65536)
 (.ret ([],5))
 (.fn As (x.1.2.1,x.2) fun aB=>
 (.ret (aB,z0)))))))
abbrev Jd:bB:=⟨(.pair (.agg (Ty.prod (Ty.sl yi) (Ty.prod (Ty.sl aZ) aQ))) (.agg aQ)),(.pair (.one (Ty.sl aZ)) (.one yi)),zy,CX⟩
theorem adx:ah Tryz.prog 48 (ak Jd):=ah.tr Jd ag6 (fn:=Tryz.f48) ax PG mixed (by kernel_rfl) (av.nil _ _) (fun x=>au.nil) (fun x=>(by kernel_rfl)) fun x Q=>(by kernel_rfl)
def Vf:List (Nat×Ev.Spec):=(48,ak Jd)::afS
theorem Vg:ae Tryz.prog Vf:=ae.add (fn:=Tryz.f48) (by kernel_rfl) adx PG
end Go.Proofs.YtfgdjlhilladhaaGreat
