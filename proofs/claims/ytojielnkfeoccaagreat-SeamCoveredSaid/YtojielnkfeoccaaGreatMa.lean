/- Models of functions of layer 14. -/
import Derived.Test.YtojielnkfeoccaaGreatGa
noncomputable section
set_option linter.unusedSectionVars false
set_option linter.unusedVariables false
set_option linter.unusedSimpArgs false
namespace Go.Proofs.YtojielnkfeoccaaGreat
open Go Go.Ev Go.Proofs
theorem HN:jL tt 117 aH:=fun x y=>by
 obtain ⟨a,b⟩:=x
 obtain ⟨c,d⟩:=y
 show some ((a==c)&&((b==d)&&true))=some ((a==c)&&(b==d))
 rw [Bool.and_true]
def VK (x:((Int×Int×List Int)×Int×Int×List Int)):Int:=
 (au (compare (x.1.1,x.2.1)) fun y=>
 (au (compare (x.1.2.1,x.2.2.1)) fun bq=>
 (au (cor [y,bq]) fun y_2=>
 y_2)))
def CI (x:((Int×Int×List Int)×Int×Int×List Int)):Prop:=
 (aM (compare (x.1.1,x.2.1)) fun y=>
 (aM (compare (x.1.2.1,x.2.2.1)) fun bq=>
 (Hr [y,bq])))
def X8 (x:((Int×Int×List Int)×Int×Int×List Int)):Tr Int true:=
 (.fn0 mL (x.1.1,x.2.1) trivial fun y=>
 (.fn0 mL (x.1.2.1,x.2.2.1) trivial fun bq=>
 (.fn NQ [y,bq] fun y_2=>
 (.ret y_2))))
abbrev Hw:fg:=⟨(.pair (.agg (Ty.prod yi (Ty.prod yi (Ty.sl yi)))) (.agg (Ty.prod yi (Ty.prod yi (Ty.sl yi))))),(.one yi),CI,VK⟩
theorem NT:ak Tryz.prog 50 (aq Hw):=ak.tr Hw X8 (fn:=Tryz.f50) aD uJ mixed (by kernel_rfl) (aA.nil _ _) (fun x=>ay.nil) (fun x=>(by kernel_rfl)) fun x Q=>(by kernel_rfl)
def OX:List (Nat×Ev.Spec):=(50,aq Hw)::D4
theorem vJ:af Tryz.prog OX:=af.add (fn:=Tryz.f50) (by kernel_rfl) NT uJ
def Fg (x:I9):aW:=⟨[],⟨dy 36 0 [(1,.v (.one (.ptr 0 0))),(3,.v (.one (.full 1))),(8,.v (.agg [.i .i64,.i .i64,.i .i64,.i .i64,.i .i64,.i .i64,.i .i64,.i .i64,.i .i64])),(9,.v (.one (.i .i64)))],[.cells [.i .i64,.i .i64,.i .i64,.i .i64,.i .i64,.i .i64,.i .i64,.i .i64,.i .i64] 107,.row aH 2],0,none,[],[0,1,2,3,4,5,6,7,8,10,11,12,13,14,15,16,17,18],[19,9],[(.l aH),.i],[.i x.1.1,.i x.1.2.1,.i x.1.2.2,.i x.2.1.1,.i x.2.1.2.1,.i x.2.1.2.2,.i x.2.2.1,.i x.2.2.2.1,.i x.2.2.2.2,.i x.1.1,.i x.1.2.1,.i x.1.2.2,.i x.2.1.1,.i x.2.1.2.1,.i x.2.1.2.2,.i x.2.2.1,.i x.2.2.2.1,.i x.2.2.2.2]⟩,[⟨(.exit 0),.normal,⟨dy 36 0 [(3,.v (.one (.full 0)))],[.row aH 2],0,none,[],[],[0],[(.l aH)],[]⟩⟩]⟩
def cE (x:I9) (s:(List I2×Int)):(List I2×Int)⊕(List I2):=
 (if (s.2<3) then
 (if (((List.getD [x.1.1,x.1.2.1,x.1.2.2,x.2.1.1,x.2.1.2.1,x.2.1.2.2,x.2.2.1,x.2.2.2.1,x.2.2.2.2] (s.2.toNat*3) 0) !=(List.getD [x.1.1,x.1.2.1,x.1.2.2,x.2.1.1,x.2.1.2.1,x.2.1.2.2,x.2.2.1,x.2.2.2.1,x.2.2.2.2] ((0+((Int.toNat (Int.tmod (aj (s.2+1)) 3))*3))+0) 0))=true) then
 (Sum.inl ((s.1++ [((aO (List.getD [x.1.1,x.1.2.1,x.1.2.2,x.2.1.1,x.2.1.2.1,x.2.1.2.2,x.2.2.1,x.2.2.2.1,x.2.2.2.2] (s.2.toNat*3) 0) (List.getD [x.1.1,x.1.2.1,x.1.2.2,x.2.1.1,x.2.1.2.1,x.2.1.2.2,x.2.2.1,x.2.2.2.1,x.2.2.2.2] ((0+((Int.toNat (Int.tmod (aj (s.2+1)) 3))*3))+0) 0)),(aS (List.getD [x.1.1,x.1.2.1,x.1.2.2,x.2.1.1,x.2.1.2.1,x.2.1.2.2,x.2.2.1,x.2.2.2.1,x.2.2.2.2] (s.2.toNat*3) 0) (List.getD [x.1.1,x.1.2.1,x.1.2.2,x.2.1.1,x.2.1.2.1,x.2.1.2.2,x.2.2.1,x.2.2.2.1,x.2.2.2.2] ((0+((Int.toNat (Int.tmod (aj (s.2+1)) 3))*3))+0) 0)))]),(aj (s.2+1)))) else
 (Sum.inl (s.1,(aj (s.2+1))))) else
 (Sum.inr (s.1)))
def kZ (x:I9) (s:(List I2×Int)):Prop:=
 ((s.2<3)->
 (((0<=s.2)/\ (s.2<3))/\
 (((0<=(Int.tmod (aj (s.2+1)) 3))/\ ((Int.tmod (aj (s.2+1)) 3)<3))/\
 (((((0+((Int.toNat (Int.tmod (aj (s.2+1)) 3))*3))+0)+1)<=9)/\
 ((((List.getD [x.1.1,x.1.2.1,x.1.2.2,x.2.1.1,x.2.1.2.1,x.2.1.2.2,x.2.2.1,x.2.2.2.1,x.2.2.2.2] (s.2.toNat*3) 0) !=(List.getD [x.1.1,x.1.2.1,x.1.2.2,x.2.1.1,x.2.1.2.1,x.2.1.2.2,x.2.2.1,x.2.2.2.1,x.2.2.2.2] ((0+((Int.toNat (Int.tmod (aj (s.2+1)) 3))*3))+0) 0))=true)->
 ((s.1.length+1)<1099511627776))))))
def Aj (x:I9) (s:(List I2×Int)):Tr ((List I2×Int)⊕(List I2)) true:=
 (.i10 (s.2<3)
 (.oR s.2 3
 (.oR (Int.tmod (w1 s.2) 3) 3
 (.od ((((0+((tN (Int.tmod (w1 s.2) 3))*3))+0)+1)<=9)
 (.Es ((List.getD [x.1.1,x.1.2.1,x.1.2.2,x.2.1.1,x.2.1.2.1,x.2.1.2.2,x.2.2.1,x.2.2.2.1,x.2.2.2.2] ((tN s.2)*3) z0) !=(List.getD [x.1.1,x.1.2.1,x.1.2.2,x.2.1.1,x.2.1.2.1,x.2.1.2.2,x.2.2.1,x.2.2.2.1,x.2.2.2.2] ((0+((tN (Int.tmod (w1 s.2) 3))*3))+0) z0))
 (.od ((s.1.length+1)<1099511627776)
 (.ret (.inl ((s.1++ [((aO (List.getD [x.1.1,x.1.2.1,x.1.2.2,x.2.1.1,x.2.1.2.1,x.2.1.2.2,x.2.2.1,x.2.2.2.1,x.2.2.2.2] ((tN s.2)*3) z0) (List.getD [x.1.1,x.1.2.1,x.1.2.2,x.2.1.1,x.2.1.2.1,x.2.1.2.2,x.2.2.1,x.2.2.2.1,x.2.2.2.2] ((0+((tN (Int.tmod (w1 s.2) 3))*3))+0) z0)),(aS (List.getD [x.1.1,x.1.2.1,x.1.2.2,x.2.1.1,x.2.1.2.1,x.2.1.2.2,x.2.2.1,x.2.2.2.1,x.2.2.2.2] ((tN s.2)*3) z0) (List.getD [x.1.1,x.1.2.1,x.1.2.2,x.2.1.1,x.2.1.2.1,x.2.1.2.2,x.2.2.1,x.2.2.2.1,x.2.2.2.2] ((0+((tN (Int.tmod (w1 s.2) 3))*3))+0) z0)))]),(w1 s.2)))))
 (.ret (.inl (s.1,(w1 s.2))))))))
 (.ret (.inr (s.1))))
def Hx (x:I9):(List I2):=
 (au (run (cE x) ([],0)) fun r=>
 r)
def u7 (x:I9):Prop:=
 (Term (cE x) (kZ x) ([],0))
def Sf (x:I9):Tr (List I2) true:=
 (aW.lp (Fg x) (Aj x) ([],z0) fun r=>
 (.ret r))
abbrev wG:fg:=⟨(.agg kB),(.one (Ty.sl aH)),u7,Hx⟩
theorem P4:ak Tryz.prog 74 (aq wG):=ak.tr wG Sf (fn:=Tryz.f74) aD vJ mixed (by kernel_rfl) (aA.nil _ _) (fun x=>(ay.tr aD (af.eO vJ (aA.nil _ _)) mixed 0 (Fg x) (Aj x) ay.nil (by kernel_rfl) fun g s Q=>(by kernel_rfl))) (fun x=>(by kernel_rfl)) fun x Q=>(by kernel_rfl)
def Gq:List (Nat×Ev.Spec):=(74,aq wG)::OX
theorem mF:af Tryz.prog Gq:=af.add (fn:=Tryz.f74) (by kernel_rfl) P4 vJ
def Fi (x:(List I3×List I2×List I3×List I9)):aW:=⟨[],⟨dy 50 0 [(3,.v (.one (.mp 0))),(4,.v (.one (.i .i64))),(11,.v (.one (.full 2))),(12,.v (.one (.i .i64))),(13,.v (.one (.i .i64))),(19,.v (.one (.full 3))),(20,.v (.one (.i .i64))),(21,.v (.one (.i .i64)))],[.jO Bool.true aH yi 1,.set 0,.row kB 0,.row aH 2],0,none,[],[1,6],[5,0,2,7,3,4],[(.l (.prod aH (.sl yi))),.i,.i,(.l aH),.i,.i],[.i (x.2.2.2.length:Int),.l kB x.2.2.2]⟩,[⟨(.exit 2),.normal,⟨dy 50 0 [(3,.v (.one (.mp 0))),(11,.v (.one (.full 2))),(12,.v (.one (.i .i64))),(13,.v (.one (.i .i64)))],[.jO Bool.true aH yi 1,.set 0,.row kB 0],0,none,[],[0,3],[2,1],[(.l (.prod aH (.sl yi))),.i],[.i (x.2.2.2.length:Int),.l kB x.2.2.2]⟩⟩]⟩
def iB (x:(List I3×List I2×List I3×List I9)) (s:(List (I2×List Int)×Int×Int×List I2×I2)):(List (I2×List Int)×Int×Int×List I2×I2)⊕(List (I2×List Int)×Int):=
 (if (s.2.2.2.2.2<s.2.2.2.2.1) then
 (au (aU (k:=aH) s.1 (s.2.2.2.1.getD s.2.2.2.2.2.toNat (0,0)) []) fun y=>
 (if (((y.length:Int)==0)=true) then
 (au (bU (k:=aH) s.1 (s.2.2.2.1.getD s.2.2.2.2.2.toNat (0,0)) (y++ [s.2.1])) fun bq=>
 (Sum.inl (bq,s.2.1,s.2.2.1,s.2.2.2.1,s.2.2.2.2.1,(aj (s.2.2.2.2.2+1))))) else
 (if (((y.getD (Int.toNat (aj ((y.length:Int)- 1))) 0) !=s.2.1)=true) then
 (au (bU (k:=aH) s.1 (s.2.2.2.1.getD s.2.2.2.2.2.toNat (0,0)) (y++ [s.2.1])) fun bq=>
 (Sum.inl (bq,s.2.1,s.2.2.1,s.2.2.2.1,s.2.2.2.2.1,(aj (s.2.2.2.2.2+1))))) else
 (Sum.inl (s.1,s.2.1,s.2.2.1,s.2.2.2.1,s.2.2.2.2.1,(aj (s.2.2.2.2.2+1))))))) else
 (Sum.inr ((s.1,s.2.2.1))))
def k6 (x:(List I3×List I2×List I3×List I9)) (s:(List (I2×List Int)×Int×Int×List I2×I2)):Prop:=
 ((s.2.2.2.2.2<s.2.2.2.2.1)->
 (((0<=s.2.2.2.2.2)/\ (s.2.2.2.2.2<(s.2.2.2.1.length:Int)))/\
 ((s.2.2.2.2.2.toNat<s.2.2.2.1.length)/\
 ((s.2.2.2.2.2.toNat<s.2.2.2.1.length)/\
 (aM (aU (k:=aH) s.1 (s.2.2.2.1.getD s.2.2.2.2.2.toNat (0,0)) []) fun y=>
 (((((y.length:Int)==0)=true)->
 ((y.length+1)<1099511627776))/\
 (¬(((y.length:Int)==0)=true)->
 (((0<=(aj ((y.length:Int)- 1)))/\ ((aj ((y.length:Int)- 1))<(y.length:Int)))/\
 (((Int.toNat (aj ((y.length:Int)- 1)))<y.length)/\
 (((Int.toNat (aj ((y.length:Int)- 1)))<y.length)/\
 ((((y.getD (Int.toNat (aj ((y.length:Int)- 1))) 0) !=s.2.1)=true)->
 ((y.length+1)<1099511627776))))))))))))
def Al (x:(List I3×List I2×List I3×List I9)) (s:(List (I2×List Int)×Int×Int×List I2×I2)):Tr ((List (I2×List Int)×Int×Int×List I2×I2)⊕(List (I2×List Int)×Int)) true:=
 (.i10 (s.2.2.2.2.2<s.2.2.2.2.1)
 (.lA s.2.2.2.2.2 s.2.2.2.1
 (.fact (jL tt 117 aH) HN
 (.lt (aU (k:=aH) s.1 (gT s.2.2.2.1 s.2.2.2.2.2 aY) []) fun y=>
 (.b11 ((nL y)==z0)
 (.og (true&&(decide ((y.length+1)<1099511627776))) ((y.length+1)<1099511627776) (fun h=>(jR rfl (decide_eq_true h)))
 (.fact (jL tt 117 aH) HN
 (.fact ((gT s.2.2.2.1 s.2.2.2.2.2 aY)=(gT s.2.2.2.1 s.2.2.2.2.2 aY)) rfl
 (.lt (bU (k:=aH) s.1 (gT s.2.2.2.1 s.2.2.2.2.2 aY) (y++ [s.2.1])) fun bq=>
 (.ret (.inl (bq,s.2.1,s.2.2.1,s.2.2.2.1,s.2.2.2.2.1,(w1 s.2.2.2.2.2))))))))
 (.lA (wm (nL y)) y
 (.Es ((gI y (wm (nL y))) !=s.2.1)
 (.og (true&&(decide ((y.length+1)<1099511627776))) ((y.length+1)<1099511627776) (fun h=>(jR rfl (decide_eq_true h)))
 (.fact (jL tt 117 aH) HN
 (.fact ((gT s.2.2.2.1 s.2.2.2.2.2 aY)=(gT s.2.2.2.1 s.2.2.2.2.2 aY)) rfl
 (.lt (bU (k:=aH) s.1 (gT s.2.2.2.1 s.2.2.2.2.2 aY) (y++ [s.2.1])) fun bq=>
 (.ret (.inl (bq,s.2.1,s.2.2.1,s.2.2.2.1,s.2.2.2.2.1,(w1 s.2.2.2.2.2))))))))
 (.ret (.inl (s.1,s.2.1,s.2.2.1,s.2.2.2.1,s.2.2.2.2.1,(w1 s.2.2.2.2.2))))))))))
 (.ret (.inr ((s.1,s.2.2.1)))))
def Fh (x:(List I3×List I2×List I3×List I9)):aW:=⟨[],⟨dy 50 0 [(3,.v (.one (.mp 0))),(11,.v (.one (.full 2))),(12,.v (.one (.i .i64))),(13,.v (.one (.i .i64)))],[.jO Bool.true aH yi 1,.set 0,.row kB 0],0,none,[],[0,3],[2,1],[(.l (.prod aH (.sl yi))),.i],[.i (x.2.2.2.length:Int),.l kB x.2.2.2]⟩,[⟨(.exit 0),.normal,⟨dy 50 0 [(3,.v (.one (.mp 0)))],[.jO Bool.true aH yi 1,.set 0],0,none,[],[],[0],[(.l (.prod aH (.sl yi)))],[]⟩⟩]⟩
def iA (x:(List I3×List I2×List I3×List I9)) (s:(List (I2×List Int)×Int)):(List (I2×List Int)×Int)⊕(List (I2×List Int)):=
 (if (s.2<(x.2.2.2.length:Int)) then
 (au (Hx (x.2.2.2.getD s.2.toNat ((0,0,0),(0,0,0),0,0,0))) fun y=>
 (au (run (iB x) (s.1,s.2,s.2,y,(y.length:Int),0)) fun r=>
 (Sum.inl (r.1,(aj (r.2+1)))))) else
 (Sum.inr (s.1)))
def k5 (x:(List I3×List I2×List I3×List I9)) (s:(List (I2×List Int)×Int)):Prop:=
 ((s.2<(x.2.2.2.length:Int))->
 (((0<=s.2)/\ (s.2<(x.2.2.2.length:Int)))/\
 ((s.2.toNat<x.2.2.2.length)/\
 ((s.2.toNat<x.2.2.2.length)/\
 ((u7 (x.2.2.2.getD s.2.toNat ((0,0,0),(0,0,0),0,0,0)))/\
 aM (Hx (x.2.2.2.getD s.2.toNat ((0,0,0),(0,0,0),0,0,0))) fun y=>
 (Term (iB x) (k6 x) (s.1,s.2,s.2,y,(y.length:Int),0)))))))
def Ak (x:(List I3×List I2×List I3×List I9)) (s:(List (I2×List Int)×Int)):Tr ((List (I2×List Int)×Int)⊕(List (I2×List Int))) true:=
 (.i10 (s.2<(nL x.2.2.2))
 (.lA s.2 x.2.2.2
 (.fn wG (gT x.2.2.2 s.2 vW) fun y=>
 (aW.lp (Fi x) (Al x) (s.1,s.2,s.2,y,(nL y),z0) fun r=>
 (.ret (.inl (r.1,(w1 r.2)))))))
 (.ret (.inr (s.1))))
def jq (x:(List I3×List I2×List I3×List I9)):(List (I2×List Int)):=
 (au (run (iA x) ([],0)) fun r=>
 r)
def ng (x:(List I3×List I2×List I3×List I9)):Prop:=
 (Term (iA x) (k5 x) ([],0))
def Sj (x:(List I3×List I2×List I3×List I9)):Tr (List (I2×List Int)) true:=
 (aW.lp (Fh x) (Ak x) ([],z0) fun r=>
 (.ret r))
abbrev CK:ZP:=⟨(.agg (Ty.prod (Ty.sl cj) (Ty.prod (Ty.sl aH) (Ty.prod (Ty.sl cj) (Ty.sl kB))))),(XT.mk true aH yi),ng,jq⟩
theorem P8:ak Tryz.prog 48 (wT CK):=ak.trG CK Sj (fn:=Tryz.f48) aD mF mixed (by kernel_rfl) (aA.nil _ _) (fun x=>(ay.tr aD (af.eO mF (aA.nil _ _)) mixed 0 (Fh x) (Ak x) (ay.tr aD (af.eO mF (aA.nil _ _)) mixed 2 (Fi x) (Al x) ay.nil (by kernel_rfl) fun g s Q=>(by kernel_rfl)) (by kernel_rfl) fun g s Q=>(by kernel_rfl))) (fun x=>(by kernel_rfl)) fun x Q=>(by kernel_rfl)
def Gr:List (Nat×Ev.Spec):=(48,wT CK)::Gq
theorem yf:af Tryz.prog Gr:=af.add (fn:=Tryz.f48) (by kernel_rfl) P8 mF
end Go.Proofs.YtojielnkfeoccaaGreat
namespace Go.Proofs.YtojielnkfeoccaaGreat
open Go Go.Ev Go.Proofs
def along (x:(I2×I2×Int)):(I2×Int):=
 (au (fI [x.1,x.2.1]) fun y=>
 (if ((!y)=true) then
 ((0,0),5) else
 (if (x.2.2<0) then
 ((0,0),5) else
 (if (x.2.2>8) then
 ((0,0),5) else
 (au (zY ((aj ((aj (x.2.1.1- x.1.1))*x.2.2)),8)) fun bq=>
 (au (zY ((aj ((aj (x.2.1.2- x.1.2))*x.2.2)),8)) fun y_2=>
 (((aj (x.1.1+bq.1)),(aj (x.1.2+y_2.1))),0)))))))
def bt (x:(I2×I2×Int)):Prop:=
 ((ep [x.1,x.2.1])/\
 aM (fI [x.1,x.2.1]) fun y=>
 (¬((!y)=true)->
 (¬(x.2.2<0)->
 (¬(x.2.2>8)->
 ((nS ((aj ((aj (x.2.1.1- x.1.1))*x.2.2)),8))/\
 aM (zY ((aj ((aj (x.2.1.1- x.1.1))*x.2.2)),8)) fun bq=>
 (nS ((aj ((aj (x.2.1.2- x.1.2))*x.2.2)),8)))))))
def Vw (x:(I2×I2×Int)):Tr (I2×Int) true:=
 (.fn nO [x.1,x.2.1] fun y=>
 (.n9 (!y)
 (.ret (aY,5))
 (.uu (x.2.2<z0)
 (.ret (aY,5))
 (.uu (x.2.2>8)
 (.ret (aY,5))
 (.fn s7 ((aj ((aj (x.2.1.1- x.1.1))*x.2.2)),8) fun bq=>
 (.fn s7 ((aj ((aj (x.2.1.2- x.1.2))*x.2.2)),8) fun y_2=>
 (.ret (((aj (x.1.1+bq.1)),(aj (x.1.2+y_2.1))),z0))))))))
abbrev dD:fg:=⟨(.pair (.agg aH) (.pair (.agg aH) (.one yi))),(.pair (.agg aH) (.one yi)),bt,along⟩
theorem RC:ak Tryz.prog 10 (aq dD):=ak.tr dD Vw (fn:=Tryz.f10) aD yf mixed (by kernel_rfl) (aA.nil _ _) (fun x=>ay.nil) (fun x=>(by kernel_rfl)) fun x Q=>(by kernel_rfl)
def KG:List (Nat×Ev.Spec):=(10,aq dD)::Gr
theorem AN:af Tryz.prog KG:=af.add (fn:=Tryz.f10) (by kernel_rfl) RC yf
def LJ (x:(I3×Int)):Bool:=
 (x.1.1==x.2)
def LK (_:(I3×Int)):Prop:=True
def RY (x:(I3×Int)):Tr Bool false:=
 (.ret (x.1.1==x.2))
abbrev wz:fg:=⟨(.pair (.agg cj) (.ptr (.int .i64))),(.one Ty.bool),LK,LJ⟩
theorem PL:ak Tryz.prog 53 (aq wz):=ak.tr wz RY (fn:=Tryz.f53) aD AN mixed (by kernel_rfl) (aA.nil _ _) (fun x=>ay.nil) (fun x=>(by kernel_rfl)) fun x Q=>(by kernel_rfl)
def Gm:List (Nat×Ev.Spec):=(53,aq wz)::KG
theorem qO:af Tryz.prog Gm:=af.add (fn:=Tryz.f53) (by kernel_rfl) PL AN
def Ft (x:(List I3×Int)):aW:=⟨[],⟨dy 19 0 [(0,.v (.one (.full 0))),(1,.v (.one (.eN 53 0 [.elem 1]))),(7,.v (.one (.i .i64))),(8,.v (.one (.i .i64)))],[.row cj 0,.row yi 0],0,none,[],[0,1,3,4],[2],[.i],[.n 0,.i (x.1.length:Int),.l cj x.1,.l yi [x.2]]⟩,[⟨.ret,.ret,⟨dy 19 0 [(4,.v (.one (.i .i64)))],[],0,none,[],[],[0],[.i],[]⟩⟩,⟨(.exit 0),.normal,⟨dy 19 0 [],[],0,none,[],[],[],[],[]⟩⟩]⟩
def iF (x:(List I3×Int)) (s:Int):Int⊕(Int⊕Unit):=
 (if (s<(x.1.length:Int)) then
 (au (LJ ((x.1.getD s.toNat (0,0,0)),x.2)) fun y=>
 (if (y=true) then
 (Sum.inr (Sum.inl s)) else
 (Sum.inl (aj (s+1))))) else
 (Sum.inr (Sum.inr (()))))
def o9 (x:(List I3×Int)) (s:Int):Prop:=
 ((s<(x.1.length:Int))->
 (((0<=s)/\ (s<(x.1.length:Int)))/\
 ((s.toNat<x.1.length)/\
 (s.toNat<x.1.length))))
def Au (x:(List I3×Int)) (s:Int):Tr (Int⊕(Int⊕Unit)) true:=
 (.i10 (s<(nL x.1))
 (.lA s x.1
 (.fn0 wz ((gT x.1 s EY),x.2) trivial fun y=>
 (.jM y
 (.ret (.inr (Sum.inl s)))
 (.ret (.inl (w1 s))))))
 (.ret (.inr (Sum.inr (())))))
def iE (x:(List I3×Int)):Int:=
 (au (run (iF x) 0) fun r=>
 (Sum.elim (fun a=>
 a) (fun b=>
 (-1)) r))
def eR (x:(List I3×Int)):Prop:=
 (Term (iF x) (o9 x) 0)
def S3 (x:(List I3×Int)):Tr Int true:=
 (aW.lp (Ft x) (Au x) z0 fun r=>
 (.Bq r (fun a=>
 (.ret a)) (fun b=>
 (.ret (-1)))))
abbrev nq:fg:=⟨(.pair (.one (Ty.sl cj)) (.eN 53 (.ptr (.int .i64)))),(.one yi),eR,iE⟩
theorem Qq:ak Tryz.prog 41 (aq nq):=ak.tr nq S3 (fn:=Tryz.f41) aD qO mixed (by kernel_rfl) (aA.nil _ _) (fun x=>(ay.tr aD (af.eO qO (aA.nil _ _)) mixed 0 (Ft x) (Au x) ay.nil (by kernel_rfl) fun g s Q=>(by kernel_rfl))) (fun x=>(by kernel_rfl)) fun x Q=>(by kernel_rfl)
def mQ:List (Nat×Ev.Spec):=(41,aq nq)::Gm
theorem mG:af Tryz.prog mQ:=af.add (fn:=Tryz.f41) (by kernel_rfl) Qq qO
end Go.Proofs.YtojielnkfeoccaaGreat
