/- Model of GatherEnds. -/
import Derived.Test.YtngdehlpoomaiaaGreatLm
noncomputable section
set_option linter.unusedSectionVars false
set_option linter.unusedVariables false
set_option linter.unusedSimpArgs false
namespace Go.Proofs.YtngdehlpoomaiaaGreat
open Go Go.Ev Go.Proofs
def xV (x:((Int×Int×Int×Int×List (Int×I3×I3×I2))×I3×I3×Int)):aL:=⟨[],⟨dL 177 0 [(3,.v (.one (.i .i64))),(4,.v (.one (.ptr 0 0))),(9,.v (.one (.full 2))),(11,.v (.one (.ptr 3 0))),(14,.v (.one (.full 4))),(16,.v (.one (.i .i64))),(17,.v (.one (.i .i64)))],[.cells [.i .i64,.i .i64,.i .i64,.i .i64,.full 1] 25,.row (Ty.prod yi (Ty.prod aO (Ty.prod aO gZ))) 0,.row aO 2,.cells [.i .i64,.i .i64,.i .i64] 27,.row aO 2],0,none,[],[0,1,3,4,5,6,7],[8,9,10,11,12,2],[(.l aO),.i,.i,.i,(.l aO),.i],[.i x.2.2.2,.i (au (4*x.1.2.1)),.i x.1.1,.i x.1.2.1,.i x.1.2.2.1,.i x.1.2.2.2.1,.l (Ty.prod yi (Ty.prod aO (Ty.prod aO gZ))) x.1.2.2.2.2]⟩,[⟨.ret,.ret,⟨dL 177 0 [(8,.v (.one (.b)))],[],0,none,[],[0],[],[],[.b false]⟩⟩,⟨(.exit 0),.normal,⟨dL 177 0 [],[],0,none,[],[],[],[],[]⟩⟩]⟩
def cx (x:((Int×Int×Int×Int×List (Int×I3×I3×I2))×I3×I3×Int)) (s:(List I3×Int×Int×Int×List I3×Int)):(List I3×Int×Int×Int×List I3×Int)⊕(Unit⊕Unit):=
 (if (s.2.2.2.2.2<(s.1.length:Int)) then
 (if (s.2.2.2.2.2<x.2.2.2) then
 (if ((!(((s.1.getD s.2.2.2.2.2.toNat (0,0,0)).1==(s.2.2.2.2.1.getD s.2.2.2.2.2.toNat (0,0,0)).1)&&(((s.1.getD s.2.2.2.2.2.toNat (0,0,0)).2.1==(s.2.2.2.2.1.getD s.2.2.2.2.2.toNat (0,0,0)).2.1)&&(((s.1.getD s.2.2.2.2.2.toNat (0,0,0)).2.2==(s.2.2.2.2.1.getD s.2.2.2.2.2.toNat (0,0,0)).2.2)&&true))))=true) then
 (Sum.inr (Sum.inl ())) else
 (if ((x.1.2.1==0)=true) then
 (if ((!(((s.1.getD s.2.2.2.2.2.toNat (0,0,0)).1==s.2.1)&&(((s.1.getD s.2.2.2.2.2.toNat (0,0,0)).2.1==s.2.2.1)&&(((s.1.getD s.2.2.2.2.2.toNat (0,0,0)).2.2==s.2.2.2.1)&&true))))=true) then
 (Sum.inr (Sum.inl ())) else
 (if ((aT (aT (au ((s.1.getD s.2.2.2.2.2.toNat (0,0,0)).1- s.2.1)) (au ((s.1.getD s.2.2.2.2.2.toNat (0,0,0)).2.1- s.2.2.1))) (au ((s.1.getD s.2.2.2.2.2.toNat (0,0,0)).2.2- s.2.2.2.1)))>(au (4*x.1.2.1))) then
 (Sum.inr (Sum.inl ())) else
 (if ((aY (aY (au ((s.1.getD s.2.2.2.2.2.toNat (0,0,0)).1- s.2.1)) (au ((s.1.getD s.2.2.2.2.2.toNat (0,0,0)).2.1- s.2.2.1))) (au ((s.1.getD s.2.2.2.2.2.toNat (0,0,0)).2.2- s.2.2.2.1)))<(au (0- (au (4*x.1.2.1))))) then
 (Sum.inr (Sum.inl ())) else
 (Sum.inl (s.1,s.2.1,s.2.2.1,s.2.2.2.1,s.2.2.2.2.1,(au (s.2.2.2.2.2+1))))))) else
 (if ((aT (aT (au ((s.1.getD s.2.2.2.2.2.toNat (0,0,0)).1- s.2.1)) (au ((s.1.getD s.2.2.2.2.2.toNat (0,0,0)).2.1- s.2.2.1))) (au ((s.1.getD s.2.2.2.2.2.toNat (0,0,0)).2.2- s.2.2.2.1)))>(au (4*x.1.2.1))) then
 (Sum.inr (Sum.inl ())) else
 (if ((aY (aY (au ((s.1.getD s.2.2.2.2.2.toNat (0,0,0)).1- s.2.1)) (au ((s.1.getD s.2.2.2.2.2.toNat (0,0,0)).2.1- s.2.2.1))) (au ((s.1.getD s.2.2.2.2.2.toNat (0,0,0)).2.2- s.2.2.2.1)))<(au (0- (au (4*x.1.2.1))))) then
 (Sum.inr (Sum.inl ())) else
 (Sum.inl (s.1,s.2.1,s.2.2.1,s.2.2.2.1,s.2.2.2.2.1,(au (s.2.2.2.2.2+1)))))))) else
 (if ((x.1.2.1==0)=true) then
 (if ((!(((s.1.getD s.2.2.2.2.2.toNat (0,0,0)).1==s.2.1)&&(((s.1.getD s.2.2.2.2.2.toNat (0,0,0)).2.1==s.2.2.1)&&(((s.1.getD s.2.2.2.2.2.toNat (0,0,0)).2.2==s.2.2.2.1)&&true))))=true) then
 (Sum.inr (Sum.inl ())) else
 (if ((aT (aT (au ((s.1.getD s.2.2.2.2.2.toNat (0,0,0)).1- s.2.1)) (au ((s.1.getD s.2.2.2.2.2.toNat (0,0,0)).2.1- s.2.2.1))) (au ((s.1.getD s.2.2.2.2.2.toNat (0,0,0)).2.2- s.2.2.2.1)))>(au (4*x.1.2.1))) then
 (Sum.inr (Sum.inl ())) else
 (if ((aY (aY (au ((s.1.getD s.2.2.2.2.2.toNat (0,0,0)).1- s.2.1)) (au ((s.1.getD s.2.2.2.2.2.toNat (0,0,0)).2.1- s.2.2.1))) (au ((s.1.getD s.2.2.2.2.2.toNat (0,0,0)).2.2- s.2.2.2.1)))<(au (0- (au (4*x.1.2.1))))) then
 (Sum.inr (Sum.inl ())) else
 (Sum.inl (s.1,s.2.1,s.2.2.1,s.2.2.2.1,s.2.2.2.2.1,(au (s.2.2.2.2.2+1))))))) else
 (if ((aT (aT (au ((s.1.getD s.2.2.2.2.2.toNat (0,0,0)).1- s.2.1)) (au ((s.1.getD s.2.2.2.2.2.toNat (0,0,0)).2.1- s.2.2.1))) (au ((s.1.getD s.2.2.2.2.2.toNat (0,0,0)).2.2- s.2.2.2.1)))>(au (4*x.1.2.1))) then
 (Sum.inr (Sum.inl ())) else
 (if ((aY (aY (au ((s.1.getD s.2.2.2.2.2.toNat (0,0,0)).1- s.2.1)) (au ((s.1.getD s.2.2.2.2.2.toNat (0,0,0)).2.1- s.2.2.1))) (au ((s.1.getD s.2.2.2.2.2.toNat (0,0,0)).2.2- s.2.2.2.1)))<(au (0- (au (4*x.1.2.1))))) then
 (Sum.inr (Sum.inl ())) else
 (Sum.inl (s.1,s.2.1,s.2.2.1,s.2.2.2.1,s.2.2.2.2.1,(au (s.2.2.2.2.2+1)))))))) else
 (Sum.inr (Sum.inr (()))))
def iH (x:((Int×Int×Int×Int×List (Int×I3×I3×I2))×I3×I3×Int)) (s:(List I3×Int×Int×Int×List I3×Int)):Prop:=
 ((s.2.2.2.2.2<(s.1.length:Int))->
 (((s.2.2.2.2.2<x.2.2.2)->
 (((0<=s.2.2.2.2.2)/\ (s.2.2.2.2.2<(s.1.length:Int)))/\
 ((s.2.2.2.2.2.toNat<s.1.length)/\
 ((s.2.2.2.2.2.toNat<s.1.length)/\
 (((0<=s.2.2.2.2.2)/\ (s.2.2.2.2.2<(s.2.2.2.2.1.length:Int)))/\
 ((s.2.2.2.2.2.toNat<s.2.2.2.2.1.length)/\
 ((s.2.2.2.2.2.toNat<s.2.2.2.2.1.length)/\
 (¬((!(((s.1.getD s.2.2.2.2.2.toNat (0,0,0)).1==(s.2.2.2.2.1.getD s.2.2.2.2.2.toNat (0,0,0)).1)&&(((s.1.getD s.2.2.2.2.2.toNat (0,0,0)).2.1==(s.2.2.2.2.1.getD s.2.2.2.2.2.toNat (0,0,0)).2.1)&&(((s.1.getD s.2.2.2.2.2.toNat (0,0,0)).2.2==(s.2.2.2.2.1.getD s.2.2.2.2.2.toNat (0,0,0)).2.2)&&true))))=true)->
 ((((x.1.2.1==0)=true)->
 (((0<=s.2.2.2.2.2)/\ (s.2.2.2.2.2<(s.1.length:Int)))/\
 ((s.2.2.2.2.2.toNat<s.1.length)/\
 ((s.2.2.2.2.2.toNat<s.1.length)/\
 (¬((!(((s.1.getD s.2.2.2.2.2.toNat (0,0,0)).1==s.2.1)&&(((s.1.getD s.2.2.2.2.2.toNat (0,0,0)).2.1==s.2.2.1)&&(((s.1.getD s.2.2.2.2.2.toNat (0,0,0)).2.2==s.2.2.2.1)&&true))))=true)->
 (((0<=s.2.2.2.2.2)/\ (s.2.2.2.2.2<(s.1.length:Int)))/\
 ((s.2.2.2.2.2.toNat<s.1.length)/\
 ((s.2.2.2.2.2.toNat<s.1.length)/\
 ((s.2.2.2.2.2.toNat<s.1.length)/\
 (((0<=s.2.2.2.2.2)/\ (s.2.2.2.2.2<(s.1.length:Int)))/\
 ((s.2.2.2.2.2.toNat<s.1.length)/\
 ((s.2.2.2.2.2.toNat<s.1.length)/\
 ((s.2.2.2.2.2.toNat<s.1.length)/\
 (((0<=s.2.2.2.2.2)/\ (s.2.2.2.2.2<(s.1.length:Int)))/\
 ((s.2.2.2.2.2.toNat<s.1.length)/\
 ((s.2.2.2.2.2.toNat<s.1.length)/\
 (s.2.2.2.2.2.toNat<s.1.length)))))))))))))))))/\
 (¬((x.1.2.1==0)=true)->
 (((0<=s.2.2.2.2.2)/\ (s.2.2.2.2.2<(s.1.length:Int)))/\
 ((s.2.2.2.2.2.toNat<s.1.length)/\
 ((s.2.2.2.2.2.toNat<s.1.length)/\
 ((s.2.2.2.2.2.toNat<s.1.length)/\
 (((0<=s.2.2.2.2.2)/\ (s.2.2.2.2.2<(s.1.length:Int)))/\
 ((s.2.2.2.2.2.toNat<s.1.length)/\
 ((s.2.2.2.2.2.toNat<s.1.length)/\
 ((s.2.2.2.2.2.toNat<s.1.length)/\
 (((0<=s.2.2.2.2.2)/\ (s.2.2.2.2.2<(s.1.length:Int)))/\
 ((s.2.2.2.2.2.toNat<s.1.length)/\
 ((s.2.2.2.2.2.toNat<s.1.length)/\
 (s.2.2.2.2.2.toNat<s.1.length))))))))))))))))))))))/\
 (¬(s.2.2.2.2.2<x.2.2.2)->
 ((((x.1.2.1==0)=true)->
 (((0<=s.2.2.2.2.2)/\ (s.2.2.2.2.2<(s.1.length:Int)))/\
 ((s.2.2.2.2.2.toNat<s.1.length)/\
 ((s.2.2.2.2.2.toNat<s.1.length)/\
 (¬((!(((s.1.getD s.2.2.2.2.2.toNat (0,0,0)).1==s.2.1)&&(((s.1.getD s.2.2.2.2.2.toNat (0,0,0)).2.1==s.2.2.1)&&(((s.1.getD s.2.2.2.2.2.toNat (0,0,0)).2.2==s.2.2.2.1)&&true))))=true)->
 (((0<=s.2.2.2.2.2)/\ (s.2.2.2.2.2<(s.1.length:Int)))/\
 ((s.2.2.2.2.2.toNat<s.1.length)/\
 ((s.2.2.2.2.2.toNat<s.1.length)/\
 ((s.2.2.2.2.2.toNat<s.1.length)/\
 (((0<=s.2.2.2.2.2)/\ (s.2.2.2.2.2<(s.1.length:Int)))/\
 ((s.2.2.2.2.2.toNat<s.1.length)/\
 ((s.2.2.2.2.2.toNat<s.1.length)/\
 ((s.2.2.2.2.2.toNat<s.1.length)/\
 (((0<=s.2.2.2.2.2)/\ (s.2.2.2.2.2<(s.1.length:Int)))/\
 ((s.2.2.2.2.2.toNat<s.1.length)/\
 ((s.2.2.2.2.2.toNat<s.1.length)/\
 (s.2.2.2.2.2.toNat<s.1.length)))))))))))))))))/\
 (¬((x.1.2.1==0)=true)->
 (((0<=s.2.2.2.2.2)/\ (s.2.2.2.2.2<(s.1.length:Int)))/\
 ((s.2.2.2.2.2.toNat<s.1.length)/\
 ((s.2.2.2.2.2.toNat<s.1.length)/\
 ((s.2.2.2.2.2.toNat<s.1.length)/\
 (((0<=s.2.2.2.2.2)/\ (s.2.2.2.2.2<(s.1.length:Int)))/\
 ((s.2.2.2.2.2.toNat<s.1.length)/\
 ((s.2.2.2.2.2.toNat<s.1.length)/\
 ((s.2.2.2.2.2.toNat<s.1.length)/\
 (((0<=s.2.2.2.2.2)/\ (s.2.2.2.2.2<(s.1.length:Int)))/\
 ((s.2.2.2.2.2.toNat<s.1.length)/\
 ((s.2.2.2.2.2.toNat<s.1.length)/\
 (s.2.2.2.2.2.toNat<s.1.length)))))))))))))))))
def rW (x:((Int×Int×Int×Int×List (Int×I3×I3×I2))×I3×I3×Int)) (s:(List I3×Int×Int×Int×List I3×Int)):Tr ((List I3×Int×Int×Int×List I3×Int)⊕(Unit⊕Unit)) true:=
 (.i10 (s.2.2.2.2.2<(nL s.1))
 (.i11 (s.2.2.2.2.2<x.2.2.2)
 (.nc s.2.2.2.2.2 s.1
 (.nc s.2.2.2.2.2 s.2.2.2.2.1
 (.kO (!(((gT s.1 s.2.2.2.2.2 bH).1==(gT s.2.2.2.2.1 s.2.2.2.2.2 bH).1)&&(((gT s.1 s.2.2.2.2.2 bH).2.1==(gT s.2.2.2.2.1 s.2.2.2.2.2 bH).2.1)&&(((gT s.1 s.2.2.2.2.2 bH).2.2==(gT s.2.2.2.2.1 s.2.2.2.2.2 bH).2.2)&&true))))
 (.ret (.inr (Sum.inl ())))
 (.Dq (x.1.2.1==z0)
 (.nc s.2.2.2.2.2 s.1
 (.kO (!(((gT s.1 s.2.2.2.2.2 bH).1==s.2.1)&&(((gT s.1 s.2.2.2.2.2 bH).2.1==s.2.2.1)&&(((gT s.1 s.2.2.2.2.2 bH).2.2==s.2.2.2.1)&&true))))
 (.ret (.inr (Sum.inl ())))
 (.Xm s.2.2.2.2.2 s.1
 (.Xm s.2.2.2.2.2 s.1
 (.Xm s.2.2.2.2.2 s.1
 (.oq ((aT (aT (au ((gT s.1 s.2.2.2.2.2 bH).1- s.2.1)) (au ((gT s.1 s.2.2.2.2.2 bH).2.1- s.2.2.1))) (au ((gT s.1 s.2.2.2.2.2 bH).2.2- s.2.2.2.1)))>(au (4*x.1.2.1)))
 (.ret (.inr (Sum.inl ())))
 (.oq ((aY (aY (au ((gT s.1 s.2.2.2.2.2 bH).1- s.2.1)) (au ((gT s.1 s.2.2.2.2.2 bH).2.1- s.2.2.1))) (au ((gT s.1 s.2.2.2.2.2 bH).2.2- s.2.2.2.1)))<(au (z0- (au (4*x.1.2.1)))))
 (.ret (.inr (Sum.inl ())))
 (.ret (.inl (s.1,s.2.1,s.2.2.1,s.2.2.2.1,s.2.2.2.2.1,(w1 s.2.2.2.2.2)))))))))))
 (.Xm s.2.2.2.2.2 s.1
 (.Xm s.2.2.2.2.2 s.1
 (.Xm s.2.2.2.2.2 s.1
 (.oq ((aT (aT (au ((gT s.1 s.2.2.2.2.2 bH).1- s.2.1)) (au ((gT s.1 s.2.2.2.2.2 bH).2.1- s.2.2.1))) (au ((gT s.1 s.2.2.2.2.2 bH).2.2- s.2.2.2.1)))>(au (4*x.1.2.1)))
 (.ret (.inr (Sum.inl ())))
 (.oq ((aY (aY (au ((gT s.1 s.2.2.2.2.2 bH).1- s.2.1)) (au ((gT s.1 s.2.2.2.2.2 bH).2.1- s.2.2.1))) (au ((gT s.1 s.2.2.2.2.2 bH).2.2- s.2.2.2.1)))<(au (z0- (au (4*x.1.2.1)))))
 (.ret (.inr (Sum.inl ())))
 (.ret (.inl (s.1,s.2.1,s.2.2.1,s.2.2.2.1,s.2.2.2.2.1,(w1 s.2.2.2.2.2)))))))))))))
 (.Dq (x.1.2.1==z0)
 (.nc s.2.2.2.2.2 s.1
 (.kO (!(((gT s.1 s.2.2.2.2.2 bH).1==s.2.1)&&(((gT s.1 s.2.2.2.2.2 bH).2.1==s.2.2.1)&&(((gT s.1 s.2.2.2.2.2 bH).2.2==s.2.2.2.1)&&true))))
 (.ret (.inr (Sum.inl ())))
 (.Xm s.2.2.2.2.2 s.1
 (.Xm s.2.2.2.2.2 s.1
 (.Xm s.2.2.2.2.2 s.1
 (.oq ((aT (aT (au ((gT s.1 s.2.2.2.2.2 bH).1- s.2.1)) (au ((gT s.1 s.2.2.2.2.2 bH).2.1- s.2.2.1))) (au ((gT s.1 s.2.2.2.2.2 bH).2.2- s.2.2.2.1)))>(au (4*x.1.2.1)))
 (.ret (.inr (Sum.inl ())))
 (.oq ((aY (aY (au ((gT s.1 s.2.2.2.2.2 bH).1- s.2.1)) (au ((gT s.1 s.2.2.2.2.2 bH).2.1- s.2.2.1))) (au ((gT s.1 s.2.2.2.2.2 bH).2.2- s.2.2.2.1)))<(au (z0- (au (4*x.1.2.1)))))
 (.ret (.inr (Sum.inl ())))
 (.ret (.inl (s.1,s.2.1,s.2.2.1,s.2.2.2.1,s.2.2.2.2.1,(w1 s.2.2.2.2.2)))))))))))
 (.Xm s.2.2.2.2.2 s.1
 (.Xm s.2.2.2.2.2 s.1
 (.Xm s.2.2.2.2.2 s.1
 (.oq ((aT (aT (au ((gT s.1 s.2.2.2.2.2 bH).1- s.2.1)) (au ((gT s.1 s.2.2.2.2.2 bH).2.1- s.2.2.1))) (au ((gT s.1 s.2.2.2.2.2 bH).2.2- s.2.2.2.1)))>(au (4*x.1.2.1)))
 (.ret (.inr (Sum.inl ())))
 (.oq ((aY (aY (au ((gT s.1 s.2.2.2.2.2 bH).1- s.2.1)) (au ((gT s.1 s.2.2.2.2.2 bH).2.1- s.2.2.1))) (au ((gT s.1 s.2.2.2.2.2 bH).2.2- s.2.2.2.1)))<(au (z0- (au (4*x.1.2.1)))))
 (.ret (.inr (Sum.inl ())))
 (.ret (.inl (s.1,s.2.1,s.2.2.1,s.2.2.2.1,s.2.2.2.2.1,(w1 s.2.2.2.2.2)))))))))))
 (.ret (.inr (Sum.inr (())))))
def LL (x:((Int×Int×Int×Int×List (Int×I3×I3×I2))×I3×I3×Int)):Bool:=
 (if (x.1.1>24) then
 (if (x.1.1<=64) then
 (aj (bp false) fun y=>
 y) else
 (if (x.2.2.2<0) then
 (aj (bp false) fun y=>
 y) else
 (if (x.2.2.2>x.1.1) then
 (aj (bp false) fun y=>
 y) else
 (aj (sP (x.1,x.2.1,x.2.2.1)) fun y=>
 (aj (eI (x.1,x.2.1,x.2.2.1)) fun aA=>
 (if ((y.2 !=0)=true) then
 (aj (bp false) fun y_2=>
 (if (y_2=true) then
 (if ((aA.2==y.2)=true) then
 ((y.1.length:Int)==0) else
 false) else
 false)) else
 (aj (sP ((x.2.2.2,x.1.2),x.2.1,x.2.2.1)) fun y_2=>
 (if ((aA.2 !=0)=true) then
 false else
 (if ((y_2.2 !=0)=true) then
 false else
 (if (((y.1.length:Int) !=x.1.1)=true) then
 false else
 (if (((y_2.1.length:Int) !=x.2.2.2)=true) then
 false else
 (aj (run (cx x) (y.1,aA.1.1,aA.1.2.1,aA.1.2.2,y_2.1,0)) fun r=>
 (Sum.elim (fun a=>
 false) (fun b=>
 (aj (bp false) fun bg=>
 bg)) r))))))))))))) else
 (if (x.2.2.2<0) then
 (aj (bp false) fun y=>
 y) else
 (if (x.2.2.2>x.1.1) then
 (aj (bp false) fun y=>
 y) else
 (aj (sP (x.1,x.2.1,x.2.2.1)) fun y=>
 (aj (eI (x.1,x.2.1,x.2.2.1)) fun aA=>
 (if ((y.2 !=0)=true) then
 (aj (bp false) fun y_2=>
 (if (y_2=true) then
 (if ((aA.2==y.2)=true) then
 ((y.1.length:Int)==0) else
 false) else
 false)) else
 (aj (sP ((x.2.2.2,x.1.2),x.2.1,x.2.2.1)) fun y_2=>
 (if ((aA.2 !=0)=true) then
 false else
 (if ((y_2.2 !=0)=true) then
 false else
 (if (((y.1.length:Int) !=x.1.1)=true) then
 false else
 (if (((y_2.1.length:Int) !=x.2.2.2)=true) then
 false else
 (aj (run (cx x) (y.1,aA.1.1,aA.1.2.1,aA.1.2.2,y_2.1,0)) fun r=>
 (Sum.elim (fun a=>
 false) (fun b=>
 (aj (bp false) fun bg=>
 bg)) r)))))))))))))
def uy (x:((Int×Int×Int×Int×List (Int×I3×I3×I2))×I3×I3×Int)):Prop:=
 (((x.1.1>24)->
 (((x.1.1<=64)->
 (aJ false))/\
 (¬(x.1.1<=64)->
 (((x.2.2.2<0)->
 (aJ false))/\
 (¬(x.2.2.2<0)->
 (((x.2.2.2>x.1.1)->
 (aJ false))/\
 (¬(x.2.2.2>x.1.1)->
 ((jJ (x.1,x.2.1,x.2.2.1))/\
 aB (sP (x.1,x.2.1,x.2.2.1)) fun y=>
 ((cQ (x.1,x.2.1,x.2.2.1))/\
 aB (eI (x.1,x.2.1,x.2.2.1)) fun aA=>
 ((((y.2 !=0)=true)->
 (aJ false))/\
 (¬((y.2 !=0)=true)->
 ((jJ ((x.2.2.2,x.1.2),x.2.1,x.2.2.1))/\
 aB (sP ((x.2.2.2,x.1.2),x.2.1,x.2.2.1)) fun y_2=>
 (¬((aA.2 !=0)=true)->
 (¬((y_2.2 !=0)=true)->
 (¬(((y.1.length:Int) !=x.1.1)=true)->
 (¬(((y_2.1.length:Int) !=x.2.2.2)=true)->
 (Term (cx x) (iH x) (y.1,aA.1.1,aA.1.2.1,aA.1.2.2,y_2.1,0)/\
 aB (run (cx x) (y.1,aA.1.1,aA.1.2.1,aA.1.2.2,y_2.1,0)) fun r=>
 (cS r (fun a=>
 True) (fun b=>
 (aJ false))))))))))))))))))))/\
 (¬(x.1.1>24)->
 (((x.2.2.2<0)->
 (aJ false))/\
 (¬(x.2.2.2<0)->
 (((x.2.2.2>x.1.1)->
 (aJ false))/\
 (¬(x.2.2.2>x.1.1)->
 ((jJ (x.1,x.2.1,x.2.2.1))/\
 aB (sP (x.1,x.2.1,x.2.2.1)) fun y=>
 ((cQ (x.1,x.2.1,x.2.2.1))/\
 aB (eI (x.1,x.2.1,x.2.2.1)) fun aA=>
 ((((y.2 !=0)=true)->
 (aJ false))/\
 (¬((y.2 !=0)=true)->
 ((jJ ((x.2.2.2,x.1.2),x.2.1,x.2.2.1))/\
 aB (sP ((x.2.2.2,x.1.2),x.2.1,x.2.2.1)) fun y_2=>
 (¬((aA.2 !=0)=true)->
 (¬((y_2.2 !=0)=true)->
 (¬(((y.1.length:Int) !=x.1.1)=true)->
 (¬(((y_2.1.length:Int) !=x.2.2.2)=true)->
 (Term (cx x) (iH x) (y.1,aA.1.1,aA.1.2.1,aA.1.2.2,y_2.1,0)/\
 aB (run (cx x) (y.1,aA.1.1,aA.1.2.1,aA.1.2.2,y_2.1,0)) fun r=>
 (cS r (fun a=>
 True) (fun b=>
 (aJ false)))))))))))))))))))
def VR (x:((Int×Int×Int×Int×List (Int×I3×I3×I2))×I3×I3×Int)):Tr Bool true:=
 (.i11 (x.1.1>24)
 (.i11 (x.1.1<=64)
 (.fn aQ false fun y=>
 (.ret y))
 (.i11 (x.2.2.2<z0)
 (.fn aQ false fun y=>
 (.ret y))
 (.i11 (x.2.2.2>x.1.1)
 (.fn aQ false fun y=>
 (.ret y))
 (.fn rJ (x.1,x.2.1,x.2.2.1) fun y=>
 (.fn e7 (x.1,x.2.1,x.2.2.1) fun aA=>
 (.Dq (y.2 !=z0)
 (.fn aQ false fun y_2=>
 (.iQ y_2
 (.iQ (aA.2==y.2)
 (.ret ((nL y.1)==z0))
 (.ret false))
 (.ret false)))
 (.fn rJ ((x.2.2.2,x.1.2),x.2.1,x.2.2.1) fun y_2=>
 (.kO (aA.2 !=z0)
 (.ret false)
 (.kO (y_2.2 !=z0)
 (.ret false)
 (.kO ((nL y.1) !=x.1.1)
 (.ret false)
 (.kO ((nL y_2.1) !=x.2.2.2)
 (.ret false)
 (aL.lp (xV x) (rW x) (y.1,aA.1.1,aA.1.2.1,aA.1.2.2,y_2.1,z0) fun r=>
 (.s01 r (fun a=>
 (.ret false)) (fun b=>
 (.fn aQ false fun bg=>
 (.ret bg))))))))))))))))
 (.i11 (x.2.2.2<z0)
 (.fn aQ false fun y=>
 (.ret y))
 (.i11 (x.2.2.2>x.1.1)
 (.fn aQ false fun y=>
 (.ret y))
 (.fn rJ (x.1,x.2.1,x.2.2.1) fun y=>
 (.fn e7 (x.1,x.2.1,x.2.2.1) fun aA=>
 (.Dq (y.2 !=z0)
 (.fn aQ false fun y_2=>
 (.iQ y_2
 (.iQ (aA.2==y.2)
 (.ret ((nL y.1)==z0))
 (.ret false))
 (.ret false)))
 (.fn rJ ((x.2.2.2,x.1.2),x.2.1,x.2.2.1) fun y_2=>
 (.kO (aA.2 !=z0)
 (.ret false)
 (.kO (y_2.2 !=z0)
 (.ret false)
 (.kO ((nL y.1) !=x.1.1)
 (.ret false)
 (.kO ((nL y_2.1) !=x.2.2.2)
 (.ret false)
 (aL.lp (xV x) (rW x) (y.1,aA.1.1,aA.1.2.1,aA.1.2.2,y_2.1,z0) fun r=>
 (.s01 r (fun a=>
 (.ret false)) (fun b=>
 (.fn aQ false fun bg=>
 (.ret bg))))))))))))))))
abbrev Bt:cf:=⟨(.pair (.agg (Ty.prod yi (Ty.prod yi (Ty.prod yi (Ty.prod yi (Ty.sl (Ty.prod yi (Ty.prod aO (Ty.prod aO gZ))))))))) (.pair (.agg aO) (.pair (.agg aO) (.one yi)))),(.one Ty.bool),uy,LL⟩
theorem Rl:ah Tryz.prog 5 (ak Bt):=ah.tr Bt VR (fn:=Tryz.f5) az ek mixed (by kernel_rfl) (av.nil _ _) (fun x=>(ax.tr az (af.eA ek (av.nil _ _)) mixed 0 (xV x) (rW x) ax.nil (by kernel_rfl) fun g s Q=>(by kernel_rfl))) (fun x=>(by kernel_rfl)) fun x Q=>(by kernel_rfl)
end Go.Proofs.YtngdehlpoomaiaaGreat
