/- Models of functions of layer 16. -/
import Derived.Test.YtojielnkfeoccaaGreatFc
noncomputable section
set_option linter.unusedSectionVars false
set_option linter.unusedVariables false
set_option linter.unusedSimpArgs false
namespace Go.Proofs.YtojielnkfeoccaaGreat
open Go Go.Ev Go.Proofs
def bW (x:(List I6)) (g0:Loop) (g1:Env) (s:(Int×Int×I3)):AS:=⟨[.v (.one (.nU 8)),D,D,D,D,D,D,.v (.one (.full 0)),vi (x.length:Int),vi s.2.2.2.2,D,D,D,D,D,D,D,D,D,D,D,D,D],[.row bZ x 0,.cells [ci 0,ci 0] 31,.cells [ci 0,ci 0] 31,.cells [ci 0] 24,.cells [ci s.1,ci s.2.1] 31,.cells [ci s.2.2.1,ci s.2.2.2.1] 31,.gone,.cells [.full 0] 49,.loop g0 LoopState.ready Option.none,.eJ g1 9]⟩
def cH (x:(List I6)) (g0:Loop) (g1:Env) (r:((Int×I3)⊕(Int×I3))) (K:Exit->AS->Prop):Prop:=cS r (fun a0=>K .ret ⟨[D,D,D,D,D,D,D,D,D,D,D,D,D,D,D,D,D,D,D,D,D,D,D],[.row bZ x 0,.cells [ci 0,ci 0] 31,.cells [ci 0,ci 0] 31,.cells [ci 5] 24,.cells [ci a0.1,ci a0.2.1] 31,.cells [ci a0.2.2.1,ci a0.2.2.2] 31,.gone,.cells [.full 0] 49,.loop g0 LoopState.done (Option.some Code.ret),.eJ g1 9]⟩) (fun b0=>K .normal ⟨[D,D,D,D,D,D,D,D,D,D,D,D,D,D,D,D,D,D,D,D,D,D,D],[.row bZ x 0,.cells [ci 0,ci 0] 31,.cells [ci 0,ci 0] 31,.cells [ci 0] 24,.cells [ci b0.1,ci b0.2.1] 31,.cells [ci b0.2.2.1,ci b0.2.2.2] 31,.gone,.cells [.full 0] 49,.loop g0 LoopState.ready Option.none,.eJ g1 9]⟩)
def cg (x:(List I6)) (t:Unit) (s:(Int×Int×I3)):(Int×Int×I3)⊕((Int×I3)⊕(Int×I3)):=
 (if (s.2.2.2.2<(x.length:Int)) then
 (au (fI [(x.getD s.2.2.2.2.toNat ((0,0),(0,0),0,0)).1]) fun y=>
 (if ((!y)=true) then
 (Sum.inr (Sum.inl (s.1,s.2.1,s.2.2.1,s.2.2.2.1))) else
 (au (fI [(x.getD s.2.2.2.2.toNat ((0,0),(0,0),0,0)).2.1]) fun bq=>
 (if ((!bq)=true) then
 (Sum.inr (Sum.inl ((aO s.1 (x.getD s.2.2.2.2.toNat ((0,0),(0,0),0,0)).1.1),(aO s.2.1 (x.getD s.2.2.2.2.toNat ((0,0),(0,0),0,0)).1.2),(aS s.2.2.1 (x.getD s.2.2.2.2.toNat ((0,0),(0,0),0,0)).1.1),(aS s.2.2.2.1 (x.getD s.2.2.2.2.toNat ((0,0),(0,0),0,0)).1.2)))) else
 (au (fI [(x.getD s.2.2.2.2.toNat ((0,0),(0,0),0,0)).2.2]) fun y_2=>
 (if ((!y_2)=true) then
 (Sum.inr (Sum.inl ((aO (aO s.1 (x.getD s.2.2.2.2.toNat ((0,0),(0,0),0,0)).1.1) (x.getD s.2.2.2.2.toNat ((0,0),(0,0),0,0)).2.1.1),(aO (aO s.2.1 (x.getD s.2.2.2.2.toNat ((0,0),(0,0),0,0)).1.2) (x.getD s.2.2.2.2.toNat ((0,0),(0,0),0,0)).2.1.2),(aS (aS s.2.2.1 (x.getD s.2.2.2.2.toNat ((0,0),(0,0),0,0)).1.1) (x.getD s.2.2.2.2.toNat ((0,0),(0,0),0,0)).2.1.1),(aS (aS s.2.2.2.1 (x.getD s.2.2.2.2.toNat ((0,0),(0,0),0,0)).1.2) (x.getD s.2.2.2.2.toNat ((0,0),(0,0),0,0)).2.1.2)))) else
 (Sum.inl ((aO (aO (aO s.1 (x.getD s.2.2.2.2.toNat ((0,0),(0,0),0,0)).1.1) (x.getD s.2.2.2.2.toNat ((0,0),(0,0),0,0)).2.1.1) (x.getD s.2.2.2.2.toNat ((0,0),(0,0),0,0)).2.2.1),(aO (aO (aO s.2.1 (x.getD s.2.2.2.2.toNat ((0,0),(0,0),0,0)).1.2) (x.getD s.2.2.2.2.toNat ((0,0),(0,0),0,0)).2.1.2) (x.getD s.2.2.2.2.toNat ((0,0),(0,0),0,0)).2.2.2),(aS (aS (aS s.2.2.1 (x.getD s.2.2.2.2.toNat ((0,0),(0,0),0,0)).1.1) (x.getD s.2.2.2.2.toNat ((0,0),(0,0),0,0)).2.1.1) (x.getD s.2.2.2.2.toNat ((0,0),(0,0),0,0)).2.2.1),(aS (aS (aS s.2.2.2.1 (x.getD s.2.2.2.2.toNat ((0,0),(0,0),0,0)).1.2) (x.getD s.2.2.2.2.toNat ((0,0),(0,0),0,0)).2.1.2) (x.getD s.2.2.2.2.toNat ((0,0),(0,0),0,0)).2.2.2),(aj (s.2.2.2.2+1)))))))))) else
 (Sum.inr (Sum.inr ((s.1,s.2.1,s.2.2.1,s.2.2.2.1)))))
def dK (x:(List I6)) (t:Unit) (s:(Int×Int×I3)):Prop:=
 ((s.2.2.2.2<(x.length:Int))->
 (((0<=s.2.2.2.2)/\ (s.2.2.2.2<(x.length:Int)))/\
 ((s.2.2.2.2.toNat<x.length)/\
 ((s.2.2.2.2.toNat<x.length)/\
 ((ep [(x.getD s.2.2.2.2.toNat ((0,0),(0,0),0,0)).1])/\
 aM (fI [(x.getD s.2.2.2.2.toNat ((0,0),(0,0),0,0)).1]) fun y=>
 (¬((!y)=true)->
 ((ep [(x.getD s.2.2.2.2.toNat ((0,0),(0,0),0,0)).2.1])/\
 aM (fI [(x.getD s.2.2.2.2.toNat ((0,0),(0,0),0,0)).2.1]) fun bq=>
 (¬((!bq)=true)->
 (ep [(x.getD s.2.2.2.2.toNat ((0,0),(0,0),0,0)).2.2])))))))))
def l9 (x:(List I6)) (g0:Loop) (g1:Env) (t:Unit):bE:=vm (bW x g0 g1) (cg x t) (dK x t) (cH x g0 g1)
def rX (x:(List I6)) (ys:List (Nat×Ev.Spec)):List (Nat×bE):= []
def jA (x:(List I6)) (ys:List (Nat×Ev.Spec)):List (Nat×bE):=(2,p9 tt bG cT (rX x ys) ys ((107,fh tt bG cT (fun ys=> []) [] Tryz.f107):: []) 2 (cI (blk 2 (bh Tryz.f118))) 4)::rX x ys
def oA (x:(List I6)) (ys:List (Nat×Ev.Spec)):List (Nat×bE):=(0,yU [(10,qc 8 fun g0=>wk 9 fun g1=>NN ⟨tt,bG,cT,jA x ys,ys,((107,fh tt bG cT (fun ys=> []) [] Tryz.f107):: [])⟩ (.loop (cI (blk 0 (bh Tryz.f118)))) 0 fun (q:Unit×(Nat->AV))=>l9 x g0 g1 q.1)])::jA x ys
def zh (x:(List I6)):Ctx:=⟨tt,bG,cT,[],[],((118,fh tt bG cT (oA x) ((107,fh tt bG cT (fun ys=> []) [] Tryz.f107):: []) Tryz.f118)::((107,fh tt bG cT (fun ys=> []) [] Tryz.f107):: []))⟩
theorem Bh (x:(List I6)) (g0:Loop) (g1:Env) (t:Unit) (d:Nat->AV) (s:(Int×Int×I3)) (K:Exit->AS->Prop) (KN:AS->Prop):cK ⟨tt,bG,cT,(jA x (IX 8 ((d 0)::(d 1):: .v (.one (.ptr 1 0)):: .v (.one (.ptr 2 0)):: .v (.one (.ptr 3 0)):: .v (.one (.ptr 4 0)):: .v (.one (.ptr 5 0))::(d 7)::(d 8)::(d 9)::(d 10)::(d 11)::(d 12)::(d 13)::(d 14)::(d 15)::(d 16)::(d 17)::(d 18)::(d 19)::(d 20)::(d 21)::(d 22)::(d 23)::(d 24)::(d 25)::(d 26)::(d 27)::(d 28)::(d 29)::(d 30)::(d 31)::(d 32)::(d 33)::(d 34)::(d 35)::(d 36)::(d 37)::(d 38)::(d 39)::(d 40)::(d 41)::(d 42)::(d 43)::(d 44)::(d 45)::(d 46)::(d 47)::(d 48)::(d 49)::(d 50)::(d 51)::(d 52)::(d 53):: []) g0 g1 [23] (zh x) Tryz.f83)),(IX 8 ((d 0)::(d 1):: .v (.one (.ptr 1 0)):: .v (.one (.ptr 2 0)):: .v (.one (.ptr 3 0)):: .v (.one (.ptr 4 0)):: .v (.one (.ptr 5 0))::(d 7)::(d 8)::(d 9)::(d 10)::(d 11)::(d 12)::(d 13)::(d 14)::(d 15)::(d 16)::(d 17)::(d 18)::(d 19)::(d 20)::(d 21)::(d 22)::(d 23)::(d 24)::(d 25)::(d 26)::(d 27)::(d 28)::(d 29)::(d 30)::(d 31)::(d 32)::(d 33)::(d 34)::(d 35)::(d 36)::(d 37)::(d 38)::(d 39)::(d 40)::(d 41)::(d 42)::(d 43)::(d 44)::(d 45)::(d 46)::(d 47)::(d 48)::(d 49)::(d 50)::(d 51)::(d 52)::(d 53):: []) g0 g1 [23] (zh x) Tryz.f83),((107,fh tt bG cT (fun ys=> []) [] Tryz.f107):: [])⟩ (cI (blk 0 (bh Tryz.f118))) (bW x g0 g1 s) (KB 0 K KN)=
 (cB (decide (s.2.2.2.2<(x.length:Int)))
 (ob ((decide ((0:Int)<=s.2.2.2.2))&&(decide (s.2.2.2.2<(x.length:Int))))
 (ob (decide (s.2.2.2.2.toNat<x.length))
 (ob (decide (s.2.2.2.2.toNat<x.length))
 ((cT=cT)/\
 ((g1=g1)/\
 ((9=9)/\
 ((g0=g0)/\
 (∀cJ:Env,
 ((cJ=cJ)/\
 ((12=12)/\
 ((g0=g0)/\
 ((ep [(x.getD s.2.2.2.2.toNat aV).1])/\ ∀y:Bool,y=(fI [(x.getD s.2.2.2.2.toNat aV).1])->
 (cB (!y)
 ((g0=g0)/\
 ((cJ=cJ)/\
 ((12=12)/\
 (KB 0 K KN .ret ⟨[.v (.one (.nU 8)),D,D,D,.v (.one (.ptr 10 0)),D,.v (.one (.ptr 11 0)),.v (.one (.full 0)),vi (x.length:Int),vi s.2.2.2.2,vb (decide (s.2.2.2.2<(x.length:Int))),.v (.one (.bA 0 s.2.2.2.2.toNat 0)),.v (.agg [ci (x.getD s.2.2.2.2.toNat aV).1.1,ci (x.getD s.2.2.2.2.toNat aV).1.2,ci (x.getD s.2.2.2.2.toNat aV).2.1.1,ci (x.getD s.2.2.2.2.toNat aV).2.1.2,ci (x.getD s.2.2.2.2.toNat aV).2.2.1,ci (x.getD s.2.2.2.2.toNat aV).2.2.2]),.v (.agg [ci (x.getD s.2.2.2.2.toNat aV).1.1,ci (x.getD s.2.2.2.2.toNat aV).1.2,ci (x.getD s.2.2.2.2.toNat aV).2.1.1,ci (x.getD s.2.2.2.2.toNat aV).2.1.2,ci (x.getD s.2.2.2.2.toNat aV).2.2.1,ci (x.getD s.2.2.2.2.toNat aV).2.2.2]),vi (0:Int),vb true,.v (.agg [ci (x.getD s.2.2.2.2.toNat aV).1.1,ci (x.getD s.2.2.2.2.toNat aV).1.2]),.v (.one (.nU 8)),.v (.agg [ci (x.getD s.2.2.2.2.toNat aV).1.1,ci (x.getD s.2.2.2.2.toNat aV).1.2]),vb false,vb true,D,D],[.row bZ x 0,.cells [ci (0:Int),ci (0:Int)] 31,.cells [ci (0:Int),ci (0:Int)] 31,.cells [ci (5:Int)] 24,.cells [ci s.1,ci s.2.1] 31,.cells [ci s.2.2.1,ci s.2.2.2.1] 31,.gone,.cells [.full 0] 49,.loop g0 LoopState.done (Option.some Code.ret),.eJ g1 9,.cells [ci (x.getD s.2.2.2.2.toNat aV).1.1,ci (x.getD s.2.2.2.2.toNat aV).1.2,ci (x.getD s.2.2.2.2.toNat aV).2.1.1,ci (x.getD s.2.2.2.2.toNat aV).2.1.2,ci (x.getD s.2.2.2.2.toNat aV).2.2.1,ci (x.getD s.2.2.2.2.toNat aV).2.2.2] 91,.cells [ci (x.getD s.2.2.2.2.toNat aV).1.1,ci (x.getD s.2.2.2.2.toNat aV).1.2] 31,.gone,.cells [ci (x.getD s.2.2.2.2.toNat aV).1.1,ci (x.getD s.2.2.2.2.toNat aV).1.2] 31,.cells [ci (x.getD s.2.2.2.2.toNat aV).1.1,ci (x.getD s.2.2.2.2.toNat aV).1.2] 31]⟩))))
 ((g0=g0)/\
 ((cJ=cJ)/\
 ((12=12)/\
 ((cT=cT)/\
 ((g1=g1)/\
 ((9=9)/\
 ((g0=g0)/\
 (∀Eo:Env,
 ((Eo=Eo)/\
 ((16=16)/\
 ((g0=g0)/\
 ((ep [(x.getD s.2.2.2.2.toNat aV).2.1])/\ ∀bq:Bool,bq=(fI [(x.getD s.2.2.2.2.toNat aV).2.1])->
 (cB (!bq)
 ((g0=g0)/\
 ((Eo=Eo)/\
 ((16=16)/\
 (KB 0 K KN .ret ⟨[.v (.one (.nU 8)),D,D,D,.v (.one (.ptr 10 0)),D,.v (.one (.ptr 15 0)),.v (.one (.full 0)),vi (x.length:Int),vi s.2.2.2.2,vb (decide (s.2.2.2.2<(x.length:Int))),.v (.one (.bA 0 s.2.2.2.2.toNat 0)),.v (.agg [ci (x.getD s.2.2.2.2.toNat aV).1.1,ci (x.getD s.2.2.2.2.toNat aV).1.2,ci (x.getD s.2.2.2.2.toNat aV).2.1.1,ci (x.getD s.2.2.2.2.toNat aV).2.1.2,ci (x.getD s.2.2.2.2.toNat aV).2.2.1,ci (x.getD s.2.2.2.2.toNat aV).2.2.2]),.v (.agg [ci (x.getD s.2.2.2.2.toNat aV).1.1,ci (x.getD s.2.2.2.2.toNat aV).1.2,ci (x.getD s.2.2.2.2.toNat aV).2.1.1,ci (x.getD s.2.2.2.2.toNat aV).2.1.2,ci (x.getD s.2.2.2.2.toNat aV).2.2.1,ci (x.getD s.2.2.2.2.toNat aV).2.2.2]),vi (1:Int),vb true,.v (.agg [ci (x.getD s.2.2.2.2.toNat aV).2.1.1,ci (x.getD s.2.2.2.2.toNat aV).2.1.2]),.v (.one (.nU 8)),.v (.agg [ci (x.getD s.2.2.2.2.toNat aV).2.1.1,ci (x.getD s.2.2.2.2.toNat aV).2.1.2]),vb false,vb true,vi (1:Int),D],[.row bZ x 0,.cells [ci (0:Int),ci (0:Int)] 31,.cells [ci (0:Int),ci (0:Int)] 31,.cells [ci (5:Int)] 24,.cells [ci (aO s.1 (x.getD s.2.2.2.2.toNat aV).1.1),ci (aO s.2.1 (x.getD s.2.2.2.2.toNat aV).1.2)] 31,.cells [ci (aS s.2.2.1 (x.getD s.2.2.2.2.toNat aV).1.1),ci (aS s.2.2.2.1 (x.getD s.2.2.2.2.toNat aV).1.2)] 31,.gone,.cells [.full 0] 49,.loop g0 LoopState.done (Option.some Code.ret),.eJ g1 9,.cells [ci (x.getD s.2.2.2.2.toNat aV).1.1,ci (x.getD s.2.2.2.2.toNat aV).1.2,ci (x.getD s.2.2.2.2.toNat aV).2.1.1,ci (x.getD s.2.2.2.2.toNat aV).2.1.2,ci (x.getD s.2.2.2.2.toNat aV).2.2.1,ci (x.getD s.2.2.2.2.toNat aV).2.2.2] 91,.cells [ci (x.getD s.2.2.2.2.toNat aV).1.1,ci (x.getD s.2.2.2.2.toNat aV).1.2] 31,.gone,.cells [ci (x.getD s.2.2.2.2.toNat aV).1.1,ci (x.getD s.2.2.2.2.toNat aV).1.2] 31,.cells [ci (x.getD s.2.2.2.2.toNat aV).1.1,ci (x.getD s.2.2.2.2.toNat aV).1.2] 31,.cells [ci (x.getD s.2.2.2.2.toNat aV).2.1.1,ci (x.getD s.2.2.2.2.toNat aV).2.1.2] 31,.gone,.cells [ci (x.getD s.2.2.2.2.toNat aV).2.1.1,ci (x.getD s.2.2.2.2.toNat aV).2.1.2] 31,.cells [ci (x.getD s.2.2.2.2.toNat aV).2.1.1,ci (x.getD s.2.2.2.2.toNat aV).2.1.2] 31]⟩))))
 ((g0=g0)/\
 ((Eo=Eo)/\
 ((16=16)/\
 ((cT=cT)/\
 ((g1=g1)/\
 ((9=9)/\
 ((g0=g0)/\
 (∀Ep:Env,
 ((Ep=Ep)/\
 ((20=20)/\
 ((g0=g0)/\
 ((ep [(x.getD s.2.2.2.2.toNat aV).2.2])/\ ∀y_2:Bool,y_2=(fI [(x.getD s.2.2.2.2.toNat aV).2.2])->
 (cB (!y_2)
 ((g0=g0)/\
 ((Ep=Ep)/\
 ((20=20)/\
 (KB 0 K KN .ret ⟨[.v (.one (.nU 8)),D,D,D,.v (.one (.ptr 10 0)),D,.v (.one (.ptr 19 0)),.v (.one (.full 0)),vi (x.length:Int),vi s.2.2.2.2,vb (decide (s.2.2.2.2<(x.length:Int))),.v (.one (.bA 0 s.2.2.2.2.toNat 0)),.v (.agg [ci (x.getD s.2.2.2.2.toNat aV).1.1,ci (x.getD s.2.2.2.2.toNat aV).1.2,ci (x.getD s.2.2.2.2.toNat aV).2.1.1,ci (x.getD s.2.2.2.2.toNat aV).2.1.2,ci (x.getD s.2.2.2.2.toNat aV).2.2.1,ci (x.getD s.2.2.2.2.toNat aV).2.2.2]),.v (.agg [ci (x.getD s.2.2.2.2.toNat aV).1.1,ci (x.getD s.2.2.2.2.toNat aV).1.2,ci (x.getD s.2.2.2.2.toNat aV).2.1.1,ci (x.getD s.2.2.2.2.toNat aV).2.1.2,ci (x.getD s.2.2.2.2.toNat aV).2.2.1,ci (x.getD s.2.2.2.2.toNat aV).2.2.2]),vi (2:Int),vb true,.v (.agg [ci (x.getD s.2.2.2.2.toNat aV).2.2.1,ci (x.getD s.2.2.2.2.toNat aV).2.2.2]),.v (.one (.nU 8)),.v (.agg [ci (x.getD s.2.2.2.2.toNat aV).2.2.1,ci (x.getD s.2.2.2.2.toNat aV).2.2.2]),vb false,vb true,vi (2:Int),D],[.row bZ x 0,.cells [ci (0:Int),ci (0:Int)] 31,.cells [ci (0:Int),ci (0:Int)] 31,.cells [ci (5:Int)] 24,.cells [ci (aO (aO s.1 (x.getD s.2.2.2.2.toNat aV).1.1) (x.getD s.2.2.2.2.toNat aV).2.1.1),ci (aO (aO s.2.1 (x.getD s.2.2.2.2.toNat aV).1.2) (x.getD s.2.2.2.2.toNat aV).2.1.2)] 31,.cells [ci (aS (aS s.2.2.1 (x.getD s.2.2.2.2.toNat aV).1.1) (x.getD s.2.2.2.2.toNat aV).2.1.1),ci (aS (aS s.2.2.2.1 (x.getD s.2.2.2.2.toNat aV).1.2) (x.getD s.2.2.2.2.toNat aV).2.1.2)] 31,.gone,.cells [.full 0] 49,.loop g0 LoopState.done (Option.some Code.ret),.eJ g1 9,.cells [ci (x.getD s.2.2.2.2.toNat aV).1.1,ci (x.getD s.2.2.2.2.toNat aV).1.2,ci (x.getD s.2.2.2.2.toNat aV).2.1.1,ci (x.getD s.2.2.2.2.toNat aV).2.1.2,ci (x.getD s.2.2.2.2.toNat aV).2.2.1,ci (x.getD s.2.2.2.2.toNat aV).2.2.2] 91,.cells [ci (x.getD s.2.2.2.2.toNat aV).1.1,ci (x.getD s.2.2.2.2.toNat aV).1.2] 31,.gone,.cells [ci (x.getD s.2.2.2.2.toNat aV).1.1,ci (x.getD s.2.2.2.2.toNat aV).1.2] 31,.cells [ci (x.getD s.2.2.2.2.toNat aV).1.1,ci (x.getD s.2.2.2.2.toNat aV).1.2] 31,.cells [ci (x.getD s.2.2.2.2.toNat aV).2.1.1,ci (x.getD s.2.2.2.2.toNat aV).2.1.2] 31,.gone,.cells [ci (x.getD s.2.2.2.2.toNat aV).2.1.1,ci (x.getD s.2.2.2.2.toNat aV).2.1.2] 31,.cells [ci (x.getD s.2.2.2.2.toNat aV).2.1.1,ci (x.getD s.2.2.2.2.toNat aV).2.1.2] 31,.cells [ci (x.getD s.2.2.2.2.toNat aV).2.2.1,ci (x.getD s.2.2.2.2.toNat aV).2.2.2] 31,.gone,.cells [ci (x.getD s.2.2.2.2.toNat aV).2.2.1,ci (x.getD s.2.2.2.2.toNat aV).2.2.2] 31,.cells [ci (x.getD s.2.2.2.2.toNat aV).2.2.1,ci (x.getD s.2.2.2.2.toNat aV).2.2.2] 31]⟩))))
 ((g0=g0)/\
 ((Ep=Ep)/\
 ((20=20)/\
 (KB 0 K KN .normal ⟨[.v (.one (.nU 8)),D,D,D,.v (.one (.ptr 10 0)),D,.v (.one (.ptr 19 0)),.v (.one (.full 0)),vi (x.length:Int),vi (aj (s.2.2.2.2+(1:Int))),vb (decide (s.2.2.2.2<(x.length:Int))),.v (.one (.bA 0 s.2.2.2.2.toNat 0)),.v (.agg [ci (x.getD s.2.2.2.2.toNat aV).1.1,ci (x.getD s.2.2.2.2.toNat aV).1.2,ci (x.getD s.2.2.2.2.toNat aV).2.1.1,ci (x.getD s.2.2.2.2.toNat aV).2.1.2,ci (x.getD s.2.2.2.2.toNat aV).2.2.1,ci (x.getD s.2.2.2.2.toNat aV).2.2.2]),.v (.agg [ci (x.getD s.2.2.2.2.toNat aV).1.1,ci (x.getD s.2.2.2.2.toNat aV).1.2,ci (x.getD s.2.2.2.2.toNat aV).2.1.1,ci (x.getD s.2.2.2.2.toNat aV).2.1.2,ci (x.getD s.2.2.2.2.toNat aV).2.2.1,ci (x.getD s.2.2.2.2.toNat aV).2.2.2]),vi (3:Int),vb false,.v (.agg [ci (x.getD s.2.2.2.2.toNat aV).2.2.1,ci (x.getD s.2.2.2.2.toNat aV).2.2.2]),.v (.one (.nU 8)),.v (.agg [ci (x.getD s.2.2.2.2.toNat aV).2.2.1,ci (x.getD s.2.2.2.2.toNat aV).2.2.2]),vb true,vb false,vi (3:Int),vi (aj (s.2.2.2.2+(1:Int)))],[.row bZ x 0,.cells [ci (0:Int),ci (0:Int)] 31,.cells [ci (0:Int),ci (0:Int)] 31,.cells [ci (0:Int)] 24,.cells [ci (aO (aO (aO s.1 (x.getD s.2.2.2.2.toNat aV).1.1) (x.getD s.2.2.2.2.toNat aV).2.1.1) (x.getD s.2.2.2.2.toNat aV).2.2.1),ci (aO (aO (aO s.2.1 (x.getD s.2.2.2.2.toNat aV).1.2) (x.getD s.2.2.2.2.toNat aV).2.1.2) (x.getD s.2.2.2.2.toNat aV).2.2.2)] 31,.cells [ci (aS (aS (aS s.2.2.1 (x.getD s.2.2.2.2.toNat aV).1.1) (x.getD s.2.2.2.2.toNat aV).2.1.1) (x.getD s.2.2.2.2.toNat aV).2.2.1),ci (aS (aS (aS s.2.2.2.1 (x.getD s.2.2.2.2.toNat aV).1.2) (x.getD s.2.2.2.2.toNat aV).2.1.2) (x.getD s.2.2.2.2.toNat aV).2.2.2)] 31,.gone,.cells [.full 0] 49,.loop g0 LoopState.ready Option.none,.eJ g1 9,.cells [ci (x.getD s.2.2.2.2.toNat aV).1.1,ci (x.getD s.2.2.2.2.toNat aV).1.2,ci (x.getD s.2.2.2.2.toNat aV).2.1.1,ci (x.getD s.2.2.2.2.toNat aV).2.1.2,ci (x.getD s.2.2.2.2.toNat aV).2.2.1,ci (x.getD s.2.2.2.2.toNat aV).2.2.2] 91,.cells [ci (x.getD s.2.2.2.2.toNat aV).1.1,ci (x.getD s.2.2.2.2.toNat aV).1.2] 31,.gone,.cells [ci (x.getD s.2.2.2.2.toNat aV).1.1,ci (x.getD s.2.2.2.2.toNat aV).1.2] 31,.cells [ci (x.getD s.2.2.2.2.toNat aV).1.1,ci (x.getD s.2.2.2.2.toNat aV).1.2] 31,.cells [ci (x.getD s.2.2.2.2.toNat aV).2.1.1,ci (x.getD s.2.2.2.2.toNat aV).2.1.2] 31,.gone,.cells [ci (x.getD s.2.2.2.2.toNat aV).2.1.1,ci (x.getD s.2.2.2.2.toNat aV).2.1.2] 31,.cells [ci (x.getD s.2.2.2.2.toNat aV).2.1.1,ci (x.getD s.2.2.2.2.toNat aV).2.1.2] 31,.cells [ci (x.getD s.2.2.2.2.toNat aV).2.2.1,ci (x.getD s.2.2.2.2.toNat aV).2.2.2] 31,.gone,.cells [ci (x.getD s.2.2.2.2.toNat aV).2.2.1,ci (x.getD s.2.2.2.2.toNat aV).2.2.2] 31,.cells [ci (x.getD s.2.2.2.2.toNat aV).2.2.1,ci (x.getD s.2.2.2.2.toNat aV).2.2.2] 31]⟩)))))))))))))))))))))))))))))))))))))))))))
 (KB 0 K KN (.exit 0) ⟨[.v (.one (.nU 8)),D,D,D,D,D,D,.v (.one (.full 0)),vi (x.length:Int),vi s.2.2.2.2,vb (decide (s.2.2.2.2<(x.length:Int))),D,D,D,D,D,D,D,D,D,D,D,D],[.row bZ x 0,.cells [ci (0:Int),ci (0:Int)] 31,.cells [ci (0:Int),ci (0:Int)] 31,.cells [ci (0:Int)] 24,.cells [ci s.1,ci s.2.1] 31,.cells [ci s.2.2.1,ci s.2.2.2.1] 31,.gone,.cells [.full 0] 49,.loop g0 LoopState.ready Option.none,.eJ g1 9]⟩)):=by kernel_rfl
theorem Bg (x:(List I6)) (g0:Loop) (g1:Env) (t:Unit) (d:Nat->AV):rC ⟨tt,bG,cT,(jA x (IX 8 ((d 0)::(d 1):: .v (.one (.ptr 1 0)):: .v (.one (.ptr 2 0)):: .v (.one (.ptr 3 0)):: .v (.one (.ptr 4 0)):: .v (.one (.ptr 5 0))::(d 7)::(d 8)::(d 9)::(d 10)::(d 11)::(d 12)::(d 13)::(d 14)::(d 15)::(d 16)::(d 17)::(d 18)::(d 19)::(d 20)::(d 21)::(d 22)::(d 23)::(d 24)::(d 25)::(d 26)::(d 27)::(d 28)::(d 29)::(d 30)::(d 31)::(d 32)::(d 33)::(d 34)::(d 35)::(d 36)::(d 37)::(d 38)::(d 39)::(d 40)::(d 41)::(d 42)::(d 43)::(d 44)::(d 45)::(d 46)::(d 47)::(d 48)::(d 49)::(d 50)::(d 51)::(d 52)::(d 53):: []) g0 g1 [23] (zh x) Tryz.f83)),(IX 8 ((d 0)::(d 1):: .v (.one (.ptr 1 0)):: .v (.one (.ptr 2 0)):: .v (.one (.ptr 3 0)):: .v (.one (.ptr 4 0)):: .v (.one (.ptr 5 0))::(d 7)::(d 8)::(d 9)::(d 10)::(d 11)::(d 12)::(d 13)::(d 14)::(d 15)::(d 16)::(d 17)::(d 18)::(d 19)::(d 20)::(d 21)::(d 22)::(d 23)::(d 24)::(d 25)::(d 26)::(d 27)::(d 28)::(d 29)::(d 30)::(d 31)::(d 32)::(d 33)::(d 34)::(d 35)::(d 36)::(d 37)::(d 38)::(d 39)::(d 40)::(d 41)::(d 42)::(d 43)::(d 44)::(d 45)::(d 46)::(d 47)::(d 48)::(d 49)::(d 50)::(d 51)::(d 52)::(d 53):: []) g0 g1 [23] (zh x) Tryz.f83),((107,fh tt bG cT (fun ys=> []) [] Tryz.f107):: [])⟩ (.loop (cI (blk 0 (bh Tryz.f118)))) 0 (l9 x g0 g1 t):=rD.LD fun st K hk=>nC (fun s K KN hp hq=> .eq (Bh x g0 g1 t d s K KN) (have hp:=Eq.mp (dK.eq_1 x t s) hp;have hq:=Eq.mp (congrArg (fN (bW x g0 g1) (cH x g0 g1) K KN) (cg.eq_1 x t s)) hq;
 (Jf (Q:=(fN (bW x g0 g1) (cH x g0 g1) K KN)) hq (fun c hq=>have hp:=(hp c);(kN (jR (decide_eq_true hp.1.1) (decide_eq_true hp.1.2)) (have hp:=hp.2;(kN (decide_eq_true hp.1) (have hp:=hp.2;(kN (decide_eq_true hp.1) (have hp:=hp.2;(And.intro rfl (And.intro rfl (And.intro rfl (And.intro rfl (fun cJ=>(And.intro rfl (And.intro rfl (And.intro rfl (And.intro hp.1 (FD (Q:=(fN (bW x g0 g1) (cH x g0 g1) K KN)) hp.2 hq fun y hp hq=>(Hg (Q:=(fN (bW x g0 g1) (cH x g0 g1) K KN)) hq (fun c hq=>(And.intro rfl (And.intro rfl (And.intro rfl (Exists.intro ⟨[D,D,D,D,D,D,D,D,D,D,D,D,D,D,D,D,D,D,D,D,D,D,D],[.row bZ x 0,.cells [ci (0:Int),ci (0:Int)] 31,.cells [ci (0:Int),ci (0:Int)] 31,.cells [ci (5:Int)] 24,.cells [ci s.1,ci s.2.1] 31,.cells [ci s.2.2.1,ci s.2.2.2.1] 31,.gone,.cells [.full 0] 49,.loop g0 LoopState.done (Option.some Code.ret),.eJ g1 9]⟩ (And.intro (ej (π:= [.same 0,.same 1,.same 2,.same 3,.same 4,.same 5,.same 6,.same 7,.same 8,.same 9]) trivial (And.intro (ah rfl rfl) (And.intro (ah rfl rfl) (And.intro (ah rfl rfl) (And.intro (ah rfl rfl) (And.intro (ah rfl rfl) (And.intro (ah rfl rfl) (And.intro (ah rfl rfl) (And.intro (ah rfl rfl) (And.intro (ah rfl rfl) trivial))))))))) rfl) hq)))))) (fun c hq=>have hp:=(hp c);(And.intro rfl (And.intro rfl (And.intro rfl (And.intro rfl (And.intro rfl (And.intro rfl (And.intro rfl (fun Eo=>(And.intro rfl (And.intro rfl (And.intro rfl (And.intro hp.1 (FD (Q:=(fN (bW x g0 g1) (cH x g0 g1) K KN)) hp.2 hq fun bq hp hq=>(Hg (Q:=(fN (bW x g0 g1) (cH x g0 g1) K KN)) hq (fun c hq=>(And.intro rfl (And.intro rfl (And.intro rfl (Exists.intro ⟨[D,D,D,D,D,D,D,D,D,D,D,D,D,D,D,D,D,D,D,D,D,D,D],[.row bZ x 0,.cells [ci (0:Int),ci (0:Int)] 31,.cells [ci (0:Int),ci (0:Int)] 31,.cells [ci (5:Int)] 24,.cells [ci (aO s.1 (x.getD s.2.2.2.2.toNat (((0:Int),(0:Int)),((0:Int),(0:Int)),(0:Int),(0:Int))).1.1),ci (aO s.2.1 (x.getD s.2.2.2.2.toNat (((0:Int),(0:Int)),((0:Int),(0:Int)),(0:Int),(0:Int))).1.2)] 31,.cells [ci (aS s.2.2.1 (x.getD s.2.2.2.2.toNat (((0:Int),(0:Int)),((0:Int),(0:Int)),(0:Int),(0:Int))).1.1),ci (aS s.2.2.2.1 (x.getD s.2.2.2.2.toNat (((0:Int),(0:Int)),((0:Int),(0:Int)),(0:Int),(0:Int))).1.2)] 31,.gone,.cells [.full 0] 49,.loop g0 LoopState.done (Option.some Code.ret),.eJ g1 9]⟩ (And.intro (ej (π:= [.same 0,.same 1,.same 2,.same 3,.same 4,.same 5,.same 6,.same 7,.same 8,.same 9]) trivial (And.intro (ah rfl rfl) (And.intro (ah rfl rfl) (And.intro (ah rfl rfl) (And.intro (ah rfl rfl) (And.intro (ah rfl rfl) (And.intro (ah rfl rfl) (And.intro (ah rfl rfl) (And.intro (ah rfl rfl) (And.intro (ah rfl rfl) trivial))))))))) rfl) hq)))))) (fun c hq=>have hp:=(hp c);(And.intro rfl (And.intro rfl (And.intro rfl (And.intro rfl (And.intro rfl (And.intro rfl (And.intro rfl (fun Ep=>(And.intro rfl (And.intro rfl (And.intro rfl (And.intro hp (Dd (Q:=(fN (bW x g0 g1) (cH x g0 g1) K KN)) hq fun y_2 hq=>(Hg (Q:=(fN (bW x g0 g1) (cH x g0 g1) K KN)) hq (fun c hq=>(And.intro rfl (And.intro rfl (And.intro rfl (Exists.intro ⟨[D,D,D,D,D,D,D,D,D,D,D,D,D,D,D,D,D,D,D,D,D,D,D],[.row bZ x 0,.cells [ci (0:Int),ci (0:Int)] 31,.cells [ci (0:Int),ci (0:Int)] 31,.cells [ci (5:Int)] 24,.cells [ci (aO (aO s.1 (x.getD s.2.2.2.2.toNat (((0:Int),(0:Int)),((0:Int),(0:Int)),(0:Int),(0:Int))).1.1) (x.getD s.2.2.2.2.toNat (((0:Int),(0:Int)),((0:Int),(0:Int)),(0:Int),(0:Int))).2.1.1),ci (aO (aO s.2.1 (x.getD s.2.2.2.2.toNat (((0:Int),(0:Int)),((0:Int),(0:Int)),(0:Int),(0:Int))).1.2) (x.getD s.2.2.2.2.toNat (((0:Int),(0:Int)),((0:Int),(0:Int)),(0:Int),(0:Int))).2.1.2)] 31,.cells [ci (aS (aS s.2.2.1 (x.getD s.2.2.2.2.toNat (((0:Int),(0:Int)),((0:Int),(0:Int)),(0:Int),(0:Int))).1.1) (x.getD s.2.2.2.2.toNat (((0:Int),(0:Int)),((0:Int),(0:Int)),(0:Int),(0:Int))).2.1.1),ci (aS (aS s.2.2.2.1 (x.getD s.2.2.2.2.toNat (((0:Int),(0:Int)),((0:Int),(0:Int)),(0:Int),(0:Int))).1.2) (x.getD s.2.2.2.2.toNat (((0:Int),(0:Int)),((0:Int),(0:Int)),(0:Int),(0:Int))).2.1.2)] 31,.gone,.cells [.full 0] 49,.loop g0 LoopState.done (Option.some Code.ret),.eJ g1 9]⟩ (And.intro (ej (π:= [.same 0,.same 1,.same 2,.same 3,.same 4,.same 5,.same 6,.same 7,.same 8,.same 9]) trivial (And.intro (ah rfl rfl) (And.intro (ah rfl rfl) (And.intro (ah rfl rfl) (And.intro (ah rfl rfl) (And.intro (ah rfl rfl) (And.intro (ah rfl rfl) (And.intro (ah rfl rfl) (And.intro (ah rfl rfl) (And.intro (ah rfl rfl) trivial))))))))) rfl) hq)))))) (fun c hq=>(And.intro rfl (And.intro rfl (And.intro rfl (Exists.intro (bW x g0 g1 ((aO (aO (aO s.1 (x.getD s.2.2.2.2.toNat (((0:Int),(0:Int)),((0:Int),(0:Int)),(0:Int),(0:Int))).1.1) (x.getD s.2.2.2.2.toNat (((0:Int),(0:Int)),((0:Int),(0:Int)),(0:Int),(0:Int))).2.1.1) (x.getD s.2.2.2.2.toNat (((0:Int),(0:Int)),((0:Int),(0:Int)),(0:Int),(0:Int))).2.2.1),(aO (aO (aO s.2.1 (x.getD s.2.2.2.2.toNat (((0:Int),(0:Int)),((0:Int),(0:Int)),(0:Int),(0:Int))).1.2) (x.getD s.2.2.2.2.toNat (((0:Int),(0:Int)),((0:Int),(0:Int)),(0:Int),(0:Int))).2.1.2) (x.getD s.2.2.2.2.toNat (((0:Int),(0:Int)),((0:Int),(0:Int)),(0:Int),(0:Int))).2.2.2),(aS (aS (aS s.2.2.1 (x.getD s.2.2.2.2.toNat (((0:Int),(0:Int)),((0:Int),(0:Int)),(0:Int),(0:Int))).1.1) (x.getD s.2.2.2.2.toNat (((0:Int),(0:Int)),((0:Int),(0:Int)),(0:Int),(0:Int))).2.1.1) (x.getD s.2.2.2.2.toNat (((0:Int),(0:Int)),((0:Int),(0:Int)),(0:Int),(0:Int))).2.2.1),(aS (aS (aS s.2.2.2.1 (x.getD s.2.2.2.2.toNat (((0:Int),(0:Int)),((0:Int),(0:Int)),(0:Int),(0:Int))).1.2) (x.getD s.2.2.2.2.toNat (((0:Int),(0:Int)),((0:Int),(0:Int)),(0:Int),(0:Int))).2.1.2) (x.getD s.2.2.2.2.toNat (((0:Int),(0:Int)),((0:Int),(0:Int)),(0:Int),(0:Int))).2.2.2),(aj (s.2.2.2.2+(1:Int))))) (And.intro (ej (π:= [.same 0,.same 1,.same 2,.same 3,.same 4,.same 5,.same 6,.same 7,.same 8,.same 9]) (And.intro rfl (And.intro rfl (And.intro rfl (And.intro rfl trivial)))) (And.intro (ah rfl rfl) (And.intro (ah rfl rfl) (And.intro (ah rfl rfl) (And.intro (ah rfl rfl) (And.intro (ah rfl rfl) (And.intro (ah rfl rfl) (And.intro (ah rfl rfl) (And.intro (ah rfl rfl) (And.intro (ah rfl rfl) trivial))))))))) rfl) hq)))))))))))))))))))))))))))))))))))))))))))))))))))))) (fun c hq=>(Exists.intro ⟨[D,D,D,D,D,D,D,D,D,D,D,D,D,D,D,D,D,D,D,D,D,D,D],[.row bZ x 0,.cells [ci (0:Int),ci (0:Int)] 31,.cells [ci (0:Int),ci (0:Int)] 31,.cells [ci (0:Int)] 24,.cells [ci s.1,ci s.2.1] 31,.cells [ci s.2.2.1,ci s.2.2.2.1] 31,.gone,.cells [.full 0] 49,.loop g0 LoopState.ready Option.none,.eJ g1 9]⟩ (And.intro (ej (π:= [.same 0,.same 1,.same 2,.same 3,.same 4,.same 5,.same 6,.same 7,.same 8,.same 9]) trivial (And.intro (ah rfl rfl) (And.intro (ah rfl rfl) (And.intro (ah rfl rfl) (And.intro (ah rfl rfl) (And.intro (ah rfl rfl) (And.intro (ah rfl rfl) (And.intro (ah rfl rfl) (And.intro (ah rfl rfl) (And.intro (ah rfl rfl) trivial))))))))) rfl) hq)))))) st K hk
theorem CL (x:(List I6)): ∀ys,rh Tryz.prog ys->ay Tryz.prog cT (bh Tryz.f118) (rX x ys):=fun ys hy=>ay.nil
theorem CM (x:(List I6)): ∀ys,rh Tryz.prog ys->ay Tryz.prog cT (bh Tryz.f118) (jA x ys):=fun ys hy=>ay.vS aD ⟨dS,hy,(aA.cons (Enters.of (fn:=Tryz.f107) (by kernel_rfl) (by kernel_rfl) (by kernel_rfl)) (dB.fn aD dS mixed (fn:=Tryz.f107) (by kernel_rfl) (by kernel_rfl) (aA.nil _ _) (fun ys hy=>ay.nil)) (aA.nil _ _))⟩ mixed 4 (CL x ys hy) (by kernel_rfl) (by kernel_rfl)
theorem CN (x:(List I6)): ∀ys,rh Tryz.prog ys->ay Tryz.prog cT (bh Tryz.f118) (oA x ys):=fun ys hy=>ay.RS aD ⟨dS,hy,(aA.cons (Enters.of (fn:=Tryz.f107) (by kernel_rfl) (by kernel_rfl) (by kernel_rfl)) (dB.fn aD dS mixed (fn:=Tryz.f107) (by kernel_rfl) (by kernel_rfl) (aA.nil _ _) (fun ys hy=>ay.nil)) (aA.nil _ _))⟩ mixed (CM x ys hy) (by kernel_rfl) (by kernel_rfl) (rD.cons (rD.qc fun g0=>rD.wk fun g1=>rD.cert) rD.nil)
def mu (x:(List I6)):(I2×I2×Int):=
 (if (((x.length:Int)==0)=true) then
 ((0,0),(0,0),1) else
 (au (run (cg x ()) ((x.getD 0 ((0,0),(0,0),0,0)).1.1,(x.getD 0 ((0,0),(0,0),0,0)).1.2,(x.getD 0 ((0,0),(0,0),0,0)).1.1,(x.getD 0 ((0,0),(0,0),0,0)).1.2,0)) fun r_1=>
 (Sum.elim (fun a=>
 ((0,0),(0,0),5)) (fun b=>
 ((b.1,b.2.1),b.2.2,0)) r_1)))
def nh (x:(List I6)):Prop:=
 (¬(((x.length:Int)==0)=true)->
 ((0<(x.length:Int))/\
 ((0<x.length)/\
 ((0<x.length)/\
 ((0<x.length)/\
 ((0<(x.length:Int))/\
 ((0<x.length)/\
 ((0<x.length)/\
 ((0<x.length)/\
 (Term (cg x ()) (dK x ()) ((x.getD 0 ((0,0),(0,0),0,0)).1.1,(x.getD 0 ((0,0),(0,0),0,0)).1.2,(x.getD 0 ((0,0),(0,0),0,0)).1.1,(x.getD 0 ((0,0),(0,0),0,0)).1.2,0)))))))))))
theorem VT (x:(List I6)) (Q:(I2×I2×Int)->Prop):N1 ⟨tt,bG,cT,[],[],((118,fh tt bG cT (oA x) ((107,fh tt bG cT (fun ys=> []) [] Tryz.f107):: []) Tryz.f118)::((107,fh tt bG cT (fun ys=> []) [] Tryz.f107):: []))⟩ Tryz.f83 (jy (.one (Ty.sl bZ)) x) (jB (.one (Ty.sl bZ)) x) (vB (.pair (.agg aH) (.pair (.agg aH) (.one yi))) Q)=
 (cB ((x.length:Int)==(0:Int))
 (Q (aY,aY,(1:Int)))
 (ob (true&&(decide ((0:Int)<(x.length:Int))))
 (ob (decide (0<x.length))
 (ob (decide (0<x.length))
 (ob (decide (0<x.length))
 (ob (true&&(decide ((0:Int)<(x.length:Int))))
 (ob (decide (0<x.length))
 (ob (decide (0<x.length))
 (ob (decide (0<x.length))
 (∀cJ:Env,
 ((cJ=cJ)/\
 ((6=6)/\
 (∀r:Loop,
 (∀mI:Env,
 (Exists fun tq:Unit×(Nat->AV)=>rC ⟨tt,bG,cT,(jA x (IX 8 (.v (.one (.full 0))::aT:: .v (.one (.ptr 1 0)):: .v (.one (.ptr 2 0)):: .v (.one (.ptr 3 0)):: .v (.one (.ptr 4 0)):: .v (.one (.ptr 5 0))::aT:: .v (.one (.full 0))::vi (x.length:Int)::vb ((x.length:Int)==(0:Int))::aT::aT:: .v (.one (.full 0)):: .v (.one (.bA 0 0 0)):: .v (.one (.bA 0 0 0)):: .v (.agg [ci (x.getD 0 aV).1.1,ci (x.getD 0 aV).1.2]):: .v (.one (.full 0)):: .v (.one (.bA 0 0 0)):: .v (.one (.bA 0 0 0)):: .v (.agg [ci (x.getD 0 aV).1.1,ci (x.getD 0 aV).1.2]):: .v (.one (.full 0)):: .v (.one (.eN (Fn.func 118) [] [(Ref.loc 7 0)]))::aT::aT::aT::aT::aT::aT::aT::aT::aT::aT::aT::aT::aT::aT::aT::aT::aT::aT::aT::aT::aT::aT::aT::aT::aT::aT::aT::aT::aT::aT::aT:: []) r mI [23] (zh x) Tryz.f83)),(IX 8 (.v (.one (.full 0))::aT:: .v (.one (.ptr 1 0)):: .v (.one (.ptr 2 0)):: .v (.one (.ptr 3 0)):: .v (.one (.ptr 4 0)):: .v (.one (.ptr 5 0))::aT:: .v (.one (.full 0))::vi (x.length:Int)::vb ((x.length:Int)==(0:Int))::aT::aT:: .v (.one (.full 0)):: .v (.one (.bA 0 0 0)):: .v (.one (.bA 0 0 0)):: .v (.agg [ci (x.getD 0 aV).1.1,ci (x.getD 0 aV).1.2]):: .v (.one (.full 0)):: .v (.one (.bA 0 0 0)):: .v (.one (.bA 0 0 0)):: .v (.agg [ci (x.getD 0 aV).1.1,ci (x.getD 0 aV).1.2]):: .v (.one (.full 0)):: .v (.one (.eN (Fn.func 118) [] [(Ref.loc 7 0)]))::aT::aT::aT::aT::aT::aT::aT::aT::aT::aT::aT::aT::aT::aT::aT::aT::aT::aT::aT::aT::aT::aT::aT::aT::aT::aT::aT::aT::aT::aT::aT:: []) r mI [23] (zh x) Tryz.f83),((107,fh tt bG cT (fun ys=> []) [] Tryz.f107):: [])⟩ (.loop (cI (blk 0 (bh Tryz.f118)))) 0 (l9 x r mI tq.1)/\ (Exists fun s0:(Int×Int×I3)=>mS ⟨[.v (.one (.nU 8)),.v (.one (.ptr 7 0)),aT,aT,aT,aT,aT,.v (.one (.full 0)),vi (x.length:Int),vi (0:Int),aT,aT,aT,aT,aT,aT,aT,aT,aT,aT,aT,aT,aT],[.row bZ x 0,.cells [ci (0:Int),ci (0:Int)] 31,.cells [ci (0:Int),ci (0:Int)] 31,.cells [ci (0:Int)] 24,.cells [ci (x.getD 0 aV).1.1,ci (x.getD 0 aV).1.2] 31,.cells [ci (x.getD 0 aV).1.1,ci (x.getD 0 aV).1.2] 31,.gone,.cells [.full 0] 49,.loop r LoopState.ready Option.none,.eJ mI 9]⟩ (bW x r mI s0)/\ Term (cg x tq.1) (dK x tq.1) s0/\ ∀r_1:((Int×I3)⊕(Int×I3)),r_1=run (cg x tq.1) s0->
 (cS r_1 (fun a=>
 ((mI=mI)/\
 ((9=9)/\
 (Q (aY,aY,(5:Int)))))) (fun b=>
 ((mI=mI)/\
 ((9=9)/\
 (Q ((b.1,b.2.1),b.2.2,(0:Int))))))))))))))))))))))):=by kernel_rfl
theorem VR (x:(List I6)) (Q:(I2×I2×Int)->Prop) (hp:nh x) (hq:Q (mu x)):Vc (N1 ⟨tt,bG,cT,[],[],((118,fh tt bG cT (oA x) ((107,fh tt bG cT (fun ys=> []) [] Tryz.f107):: []) Tryz.f118)::((107,fh tt bG cT (fun ys=> []) [] Tryz.f107):: []))⟩ Tryz.f83 (jy (.one (Ty.sl bZ)) x) (jB (.one (Ty.sl bZ)) x) (vB (.pair (.agg aH) (.pair (.agg aH) (.one yi))) Q)):= .eq (VT x Q) (have hp:=Eq.mp (nh.eq_1 x) hp;have hq:=Eq.mp (congrArg Q (mu.eq_1 x)) hq;
 (Hg (Q:=Q) hq (fun c hq=>hq) (fun c hq=>have hp:=(hp c);(kN (jR rfl (decide_eq_true hp.1)) (have hp:=hp.2;(kN (decide_eq_true hp.1) (have hp:=hp.2;(kN (decide_eq_true hp.1) (have hp:=hp.2;(kN (decide_eq_true hp.1) (have hp:=hp.2;(kN (jR rfl (decide_eq_true hp.1)) (have hp:=hp.2;(kN (decide_eq_true hp.1) (have hp:=hp.2;(kN (decide_eq_true hp.1) (have hp:=hp.2;(kN (decide_eq_true hp.1) (have hp:=hp.2;(fun cJ=>(And.intro rfl (And.intro rfl (fun r=>(fun mI=>(Exists.intro ((),(dP (.v (.one (.full 0))::aT:: .v (.one (.ptr 1 0)):: .v (.one (.ptr 2 0)):: .v (.one (.ptr 3 0)):: .v (.one (.ptr 4 0)):: .v (.one (.ptr 5 0))::aT:: .v (.one (.full 0))::vi (x.length:Int)::vb ((x.length:Int)==(0:Int))::aT::aT:: .v (.one (.full 0)):: .v (.one (.bA 0 0 0)):: .v (.one (.bA 0 0 0)):: .v (.agg [ci (x.getD 0 (((0:Int),(0:Int)),((0:Int),(0:Int)),(0:Int),(0:Int))).1.1,ci (x.getD 0 (((0:Int),(0:Int)),((0:Int),(0:Int)),(0:Int),(0:Int))).1.2]):: .v (.one (.full 0)):: .v (.one (.bA 0 0 0)):: .v (.one (.bA 0 0 0)):: .v (.agg [ci (x.getD 0 (((0:Int),(0:Int)),((0:Int),(0:Int)),(0:Int),(0:Int))).1.1,ci (x.getD 0 (((0:Int),(0:Int)),((0:Int),(0:Int)),(0:Int),(0:Int))).1.2]):: .v (.one (.full 0)):: .v (.one (.eN (Fn.func 118) [] [(Ref.loc 7 0)]))::aT::aT::aT::aT::aT::aT::aT::aT::aT::aT::aT::aT::aT::aT::aT::aT::aT::aT::aT::aT::aT::aT::aT::aT::aT::aT::aT::aT::aT::aT::aT:: []))) (And.intro (Bg x r mI () (dP (.v (.one (.full 0))::aT:: .v (.one (.ptr 1 0)):: .v (.one (.ptr 2 0)):: .v (.one (.ptr 3 0)):: .v (.one (.ptr 4 0)):: .v (.one (.ptr 5 0))::aT:: .v (.one (.full 0))::vi (x.length:Int)::vb ((x.length:Int)==(0:Int))::aT::aT:: .v (.one (.full 0)):: .v (.one (.bA 0 0 0)):: .v (.one (.bA 0 0 0)):: .v (.agg [ci (x.getD 0 (((0:Int),(0:Int)),((0:Int),(0:Int)),(0:Int),(0:Int))).1.1,ci (x.getD 0 (((0:Int),(0:Int)),((0:Int),(0:Int)),(0:Int),(0:Int))).1.2]):: .v (.one (.full 0)):: .v (.one (.bA 0 0 0)):: .v (.one (.bA 0 0 0)):: .v (.agg [ci (x.getD 0 (((0:Int),(0:Int)),((0:Int),(0:Int)),(0:Int),(0:Int))).1.1,ci (x.getD 0 (((0:Int),(0:Int)),((0:Int),(0:Int)),(0:Int),(0:Int))).1.2]):: .v (.one (.full 0)):: .v (.one (.eN (Fn.func 118) [] [(Ref.loc 7 0)]))::aT::aT::aT::aT::aT::aT::aT::aT::aT::aT::aT::aT::aT::aT::aT::aT::aT::aT::aT::aT::aT::aT::aT::aT::aT::aT::aT::aT::aT::aT::aT:: []))) (Exists.intro ((x.getD 0 (((0:Int),(0:Int)),((0:Int),(0:Int)),(0:Int),(0:Int))).1.1,(x.getD 0 (((0:Int),(0:Int)),((0:Int),(0:Int)),(0:Int),(0:Int))).1.2,(x.getD 0 (((0:Int),(0:Int)),((0:Int),(0:Int)),(0:Int),(0:Int))).1.1,(x.getD 0 (((0:Int),(0:Int)),((0:Int),(0:Int)),(0:Int),(0:Int))).1.2,(0:Int)) (And.intro (ej (π:= [.same 0,.same 1,.same 2,.same 3,.same 4,.same 5,.same 6,.same 7,.same 8,.same 9]) (And.intro rfl (And.intro rfl (And.intro rfl (And.intro rfl trivial)))) (And.intro (ah rfl rfl) (And.intro (ah rfl rfl) (And.intro (ah rfl rfl) (And.intro (ah rfl rfl) (And.intro (ah rfl rfl) (And.intro (ah rfl rfl) (And.intro (ah rfl rfl) (And.intro (ah rfl rfl) (And.intro (ah rfl rfl) trivial))))))))) rfl) (And.intro hp (Dd (Q:=Q) hq fun r_1 hq=>(ZU (Q:=Q) (P:=fun _=>True) (P':=fun _=>True) (by cases r_1<;>trivial) hq (fun a _ hq=>(And.intro rfl (And.intro rfl hq))) (fun b _ hq=>(And.intro rfl (And.intro rfl hq))))))))))))))))))))))))))))))))))
abbrev LZ:fg:=⟨(.one (Ty.sl bZ)),(.pair (.agg aH) (.pair (.agg aH) (.one yi))),nh,mu⟩
theorem VS:ak Tryz.prog 83 (aq LZ):=ak.aag (fn:=Tryz.f83) aD dS mixed (by kernel_rfl) (by kernel_rfl) (.one (Ty.sl bZ)) (.pair (.agg aH) (.pair (.agg aH) (.one yi))) nh mu (by kernel_rfl) fun x hp=>⟨_,_,(aA.cons (Enters.of (fn:=Tryz.f118) (by kernel_rfl) (by kernel_rfl) (by kernel_rfl)) (dB.fn aD dS mixed (fn:=Tryz.f118) (by kernel_rfl) (by kernel_rfl) (aA.cons (Enters.of (fn:=Tryz.f107) (by kernel_rfl) (by kernel_rfl) (by kernel_rfl)) (dB.fn aD dS mixed (fn:=Tryz.f107) (by kernel_rfl) (by kernel_rfl) (aA.nil _ _) (fun ys hy=>ay.nil)) (aA.nil _ _)) (CN x)) (aA.cons (Enters.of (fn:=Tryz.f107) (by kernel_rfl) (by kernel_rfl) (by kernel_rfl)) (dB.fn aD dS mixed (fn:=Tryz.f107) (by kernel_rfl) (by kernel_rfl) (aA.nil _ _) (fun ys hy=>ay.nil)) (aA.nil _ _))),ay.nil,VR x (fun y=>y=mu x) hp rfl⟩
def OY:List (Nat×Ev.Spec):=(83,aq LZ)::bG
theorem DY:af Tryz.prog OY:=af.add (fn:=Tryz.f83) (by kernel_rfl) VS dS
def LF (x:(List I6)):(List I6):=
 ((List.replicate 0 (((0:Int),(0:Int)),((0:Int),(0:Int)),(0:Int),(0:Int)))++x)
def uW (x:(List I6)):Prop:=
 (∀b:Bool,((0<x.length)->(b=false))->(((if (b=true) then
 [] else
 ((List.replicate 0 (((0:Int),(0:Int)),((0:Int),(0:Int)),(0:Int),(0:Int)))++x))=((List.replicate 0 (((0:Int),(0:Int)),((0:Int),(0:Int)),(0:Int),(0:Int)))++x))/\ (¬(b=true)->
 ((0+x.length)<1099511627776))))
def RR (x:(List I6)):Tr (List I6) true:=
 (.nil (fun b=>((0<x.length)->(b=false))) fun b=>
 (.n9 b
 (.ret [])
 (.od ((0+x.length)<1099511627776)
 (.ret ((List.replicate 0 aV)++x)))))
abbrev wv:fg:=⟨(.one (Ty.sl bZ)),(.one (Ty.sl bZ)),uW,LF⟩
theorem PD:ak Tryz.prog 86 (aq wv):=ak.tr wv RR (fn:=Tryz.f86) aD DY mixed (by kernel_rfl) (aA.dead 86 (fn:=Tryz.f86) (by kernel_rfl)) (fun x=>ay.nil) (fun x=>(by kernel_rfl)) fun x Q=>(by kernel_rfl)
def Gk:List (Nat×Ev.Spec):=(86,aq wv)::OY
theorem ya:af Tryz.prog Gk:=af.add (fn:=Tryz.f86) (by kernel_rfl) PD DY
def jE (x:(I2×I2)):I2:=
 ((aj (x.1.1+x.2.1)),(aj (x.1.2+x.2.2)))
def QF (_:(I2×I2)):Prop:=True
def Wn (x:(I2×I2)):Tr I2 false:=
 (.ret ((aj (x.1.1+x.2.1)),(aj (x.1.2+x.2.2))))
abbrev tL:fg:=⟨(.pair (.agg aH) (.ptr (.prod (.int .i64) (.int .i64)))),(.agg aH),QF,jE⟩
theorem TK:ak Tryz.prog 61 (aq tL):=ak.tr tL Wn (fn:=Tryz.f61) aD ya mixed (by kernel_rfl) (aA.nil _ _) (fun x=>ay.nil) (fun x=>(by kernel_rfl)) fun x Q=>(by kernel_rfl)
def KV:List (Nat×Ev.Spec):=(61,aq tL)::Gk
theorem oO:af Tryz.prog KV:=af.add (fn:=Tryz.f61) (by kernel_rfl) TK ya
def Ej (x:(List I6×I2)):aW:=⟨[],⟨dy 35 0 [(1,.v (.one (.eN 61 0 [.elem 0]))),(5,.v (.one (.full 1))),(12,.v (.one (.full 1))),(13,.v (.one (.i .i64))),(14,.v (.one (.i .i64)))],[.row aH 0,.row bZ 2],0,none,[],[0,3],[4,1,2],[(.l bZ),.i,.i],[.n 0,.l aH [x.2]]⟩,[⟨(.exit 0),.normal,⟨dy 35 0 [(5,.v (.one (.full 0)))],[.row bZ 2],0,none,[],[],[0],[(.l bZ)],[]⟩⟩]⟩
def jm (x:(List I6×I2)) (s:(List I6×I2)):(List I6×I2)⊕(List I6):=
 (if (s.2.2<s.2.1) then
 (au (jE ((s.1.getD s.2.2.toNat ((0,0),(0,0),0,0)).1,x.2)) fun y=>
 (au (List.set s.1 s.2.2.toNat (y,(s.1.getD s.2.2.toNat ((0,0),(0,0),0,0)).2)) fun bq=>
 (au (jE ((s.1.getD s.2.2.toNat ((0,0),(0,0),0,0)).2.1,x.2)) fun y_2=>
 (au (List.set bq s.2.2.toNat ((bq.getD s.2.2.toNat ((0,0),(0,0),0,0)).1,y_2,(bq.getD s.2.2.toNat ((0,0),(0,0),0,0)).2.2)) fun bJ=>
 (au (jE ((s.1.getD s.2.2.toNat ((0,0),(0,0),0,0)).2.2,x.2)) fun bn=>
 (au (List.set bJ s.2.2.toNat ((bJ.getD s.2.2.toNat ((0,0),(0,0),0,0)).1,(bJ.getD s.2.2.toNat ((0,0),(0,0),0,0)).2.1,bn)) fun bz=>
 (Sum.inl (bz,s.2.1,(aj (s.2.2+1)))))))))) else
 (Sum.inr (s.1)))
def nP (x:(List I6×I2)) (s:(List I6×I2)):Prop:=
 ((s.2.2<s.2.1)->
 (((0<=s.2.2)/\ (s.2.2<(s.1.length:Int)))/\
 ((s.2.2.toNat<s.1.length)/\
 ((s.2.2.toNat<s.1.length)/\
 (aM (jE ((s.1.getD s.2.2.toNat ((0,0),(0,0),0,0)).1,x.2)) fun y=>
 (((0<=s.2.2)/\ (s.2.2<(s.1.length:Int)))/\
 ((s.2.2.toNat<s.1.length)/\
 ((s.2.2.toNat<s.1.length)/\
 ((s.2.2.toNat<s.1.length)/\
 (aM (List.set s.1 s.2.2.toNat (y,(s.1.getD s.2.2.toNat ((0,0),(0,0),0,0)).2)) fun bq=>
 (aM (jE ((s.1.getD s.2.2.toNat ((0,0),(0,0),0,0)).2.1,x.2)) fun y_2=>
 (((0<=s.2.2)/\ (s.2.2<(bq.length:Int)))/\
 ((s.2.2.toNat<bq.length)/\
 ((s.2.2.toNat<bq.length)/\
 ((s.2.2.toNat<bq.length)/\
 (aM (List.set bq s.2.2.toNat ((bq.getD s.2.2.toNat ((0,0),(0,0),0,0)).1,y_2,(bq.getD s.2.2.toNat ((0,0),(0,0),0,0)).2.2)) fun bJ=>
 (aM (jE ((s.1.getD s.2.2.toNat ((0,0),(0,0),0,0)).2.2,x.2)) fun bn=>
 (((0<=s.2.2)/\ (s.2.2<(bJ.length:Int)))/\
 ((s.2.2.toNat<bJ.length)/\
 ((s.2.2.toNat<bJ.length)/\
 (s.2.2.toNat<bJ.length)))))))))))))))))))))
def yL (x:(List I6×I2)) (s:(List I6×I2)):Tr ((List I6×I2)⊕(List I6)) true:=
 (.i10 (s.2.2<s.2.1)
 (.lA s.2.2 s.1
 (.fn0 tL ((gT s.1 s.2.2 aV).1,x.2) trivial fun y=>
 (.zx s.2.2 s.1
 (.lt (List.set s.1 (tN s.2.2) (y,(gT s.1 s.2.2 aV).2)) fun bq=>
 (.fn0 tL ((gT s.1 s.2.2 aV).2.1,x.2) trivial fun y_2=>
 (.zx s.2.2 bq
 (.lt (List.set bq (tN s.2.2) ((gT bq s.2.2 aV).1,y_2,(gT bq s.2.2 aV).2.2)) fun bJ=>
 (.fn0 tL ((gT s.1 s.2.2 aV).2.2,x.2) trivial fun bn=>
 (.zx s.2.2 bJ
 (.lt (List.set bJ (tN s.2.2) ((gT bJ s.2.2 aV).1,(gT bJ s.2.2 aV).2.1,bn)) fun bz=>
 (.ret (.inl (bz,s.2.1,(w1 s.2.2))))))))))))))
 (.ret (.inr (s.1))))
def IF (x:(List I6×I2)):(List I6):=
 (au (LF x.1) fun y=>
 (au (run (jm x) (y,(y.length:Int),0)) fun r=>
 r))
def s6 (x:(List I6×I2)):Prop:=
 ((uW x.1)/\
 aM (LF x.1) fun y=>
 (Term (jm x) (nP x) (y,(y.length:Int),0)))
def Rg (x:(List I6×I2)):Tr (List I6) true:=
 (.fn wv x.1 fun y=>
 (aW.lp (Ej x) (yL x) (y,(nL y),z0) fun r=>
 (.ret r)))
abbrev tV:fg:=⟨(.pair (.one (Ty.sl bZ)) (.eN 61 (.ptr (.prod (.int .i64) (.int .i64))))),(.one (Ty.sl bZ)),s6,IF⟩
theorem NC:ak Tryz.prog 60 (aq tV):=ak.tr tV Rg (fn:=Tryz.f60) aD oO mixed (by kernel_rfl) (aA.nil _ _) (fun x=>(ay.tr aD (af.eO oO (aA.nil _ _)) mixed 0 (Ej x) (yL x) (ay.yM aD (af.eO oO (aA.nil _ _)) mixed 2 4 ay.nil (by kernel_rfl)) (by kernel_rfl) fun g s Q=>(by kernel_rfl))) (fun x=>(by kernel_rfl)) fun x Q=>(by kernel_rfl)
def D8:List (Nat×Ev.Spec):=(60,aq tV)::KV
theorem uK:af Tryz.prog D8:=af.add (fn:=Tryz.f60) (by kernel_rfl) NC oO
def Rn (x:(List Int×List I6×I2)):Bool:=
 (if ((x.1.length:Int)>500) then
 false else
 (if (((x.2.1.length:Int) !=(x.1.length:Int))=true) then
 false else
 (au (pH (x.2.1,false)) fun y=>
 (if (y=true) then
 false else
 (au (mu x.2.1) fun bq=>
 (if ((bq.2.2 !=0)=true) then
 false else
 (if ((!((bq.1.1==0)&&((bq.1.2==0)&&true)))=true) then
 false else
 (au (CU bq.2.1) fun y_2=>
 (if ((x.2.2.1==y_2.1)=true) then
 (if ((x.2.2.2==y_2.2)=true) then
 (au (Hz x.2.1) fun bJ=>
 bJ) else
 false) else
 false)))))))))
def wO (x:(List Int×List I6×I2)):Prop:=
 (¬((x.1.length:Int)>500)->
 (¬(((x.2.1.length:Int) !=(x.1.length:Int))=true)->
 ((oU (x.2.1,false))/\
 aM (pH (x.2.1,false)) fun y=>
 (¬(y=true)->
 ((nh x.2.1)/\
 aM (mu x.2.1) fun bq=>
 (¬((bq.2.2 !=0)=true)->
 (¬((!((bq.1.1==0)&&((bq.1.2==0)&&true)))=true)->
 (aM (CU bq.2.1) fun y_2=>
 (((x.2.2.1==y_2.1)=true)->
 (((x.2.2.2==y_2.2)=true)->
 (u9 x.2.1)))))))))))
def aad (x:(List Int×List I6×I2)):Tr Bool true:=
 (.uu ((nL x.1)>500)
 (.ret false)
 (.n9 ((nL x.2.1) !=(nL x.1))
 (.ret false)
 (.fn ot (x.2.1,false) fun y=>
 (.n9 y
 (.ret false)
 (.fn LZ x.2.1 fun bq=>
 (.n9 (bq.2.2 !=z0)
 (.ret false)
 (.n9 (!((bq.1.1==z0)&&((bq.1.2==z0)&&true)))
 (.ret false)
 (.fn0 wW bq.2.1 trivial fun y_2=>
 (.Es (x.2.2.1==y_2.1)
 (.Es (x.2.2.2==y_2.2)
 (.fn wJ x.2.1 fun bJ=>
 (.ret bJ))
 (.ret false))
 (.ret false))))))))))
abbrev JD:fg:=⟨(.agg (Ty.prod (Ty.sl yi) (Ty.prod (Ty.sl bZ) aH))),(.one Ty.bool),wO,Rn⟩
theorem Yf:ak Tryz.prog 59 (aq JD):=ak.tr JD aad (fn:=Tryz.f59) aD uK mixed (by kernel_rfl) (aA.nil _ _) (fun x=>ay.nil) (fun x=>(by kernel_rfl)) fun x Q=>(by kernel_rfl)
def UE:List (Nat×Ev.Spec):=(59,aq JD)::D8
theorem Gu:af Tryz.prog UE:=af.add (fn:=Tryz.f59) (by kernel_rfl) Yf uK
def Ap (x:((List Int×List I6×I2)×I2)):(List I6×Int):=
 (au (Rn x.1) fun y=>
 (if ((!y)=true) then
 ([],1) else
 (if ((aO x.2.1 x.2.2)<0) then
 ([],5) else
 (if ((aS x.2.1 x.2.2)>65536) then
 ([],5) else
 (au (IF (x.1.2.1,x.2)) fun bq=>
 (bq,0))))))
def tw (x:((List Int×List I6×I2)×I2)):Prop:=
 ((wO x.1)/\
 aM (Rn x.1) fun y=>
 (¬((!y)=true)->
 (¬((aO x.2.1 x.2.2)<0)->
 (¬((aS x.2.1 x.2.2)>65536)->
 (s6 (x.1.2.1,x.2))))))
def VY (x:((List Int×List I6×I2)×I2)):Tr (List I6×Int) true:=
 (.fn JD x.1 fun y=>
 (.n9 (!y)
 (.ret ([],z1))
 (.uu ((aO x.2.1 x.2.2)<z0)
 (.ret ([],5))
 (.uu ((aS x.2.1 x.2.2)>65536)
 (.ret ([],5))
 (.fn tV (x.1.2.1,x.2) fun bq=>
 (.ret (bq,z0)))))))
abbrev BP:fg:=⟨(.pair (.agg (Ty.prod (Ty.sl yi) (Ty.prod (Ty.sl bZ) aH))) (.agg aH)),(.pair (.one (Ty.sl bZ)) (.one yi)),tw,Ap⟩
theorem Sy:ak Tryz.prog 31 (aq BP):=ak.tr BP VY (fn:=Tryz.f31) aD Gu mixed (by kernel_rfl) (aA.nil _ _) (fun x=>ay.nil) (fun x=>(by kernel_rfl)) fun x Q=>(by kernel_rfl)
def KP:List (Nat×Ev.Spec):=(31,aq BP)::UE
theorem KQ:af Tryz.prog KP:=af.add (fn:=Tryz.f31) (by kernel_rfl) Sy Gu
end Go.Proofs.YtojielnkfeoccaaGreat
