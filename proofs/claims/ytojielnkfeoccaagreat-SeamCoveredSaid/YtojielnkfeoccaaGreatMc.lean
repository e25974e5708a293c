/- Models: the chapter's rows; SeamCovered. -/
import Derived.Test.YtojielnkfeoccaaGreatMb
noncomputable section
set_option linter.unusedSectionVars false
set_option linter.unusedVariables false
set_option linter.unusedSimpArgs false
namespace Go.Proofs.YtojielnkfeoccaaGreat
open Go Go.Ev Go.Proofs
def abm (x:Int):Bool:=
 (if (x<(-1)) then
 true else
 (decide (x>255)))
def Tv (_:Int):Prop:=True
def YU (x:Int):Tr Bool false:=
 (.tB (x<(-1))
 (.ret true)
 (.ret (decide (x>255))))
abbrev HS:fg:=⟨(.one yi),(.one Ty.bool),Tv,abm⟩
theorem Wi:ak Tryz.prog 15 (aq HS):=ak.tr HS YU (fn:=Tryz.f15) aD A1 mixed (by kernel_rfl) (aA.nil _ _) (fun x=>ay.nil) (fun x=>(by kernel_rfl)) fun x Q=>(by kernel_rfl)
def OZ:List (Nat×Ev.Spec):=(15,aq HS)::KZ
theorem vK:af Tryz.prog OZ:=af.add (fn:=Tryz.f15) (by kernel_rfl) Wi A1
def Fv (x:(List Int×Bool)):aW:=⟨[],⟨dy 19 0 [(0,.v (.one (.full 0))),(1,.v (.one (.eN 15 0 []))),(7,.v (.one (.i .i64))),(8,.v (.one (.i .i64)))],[.row yi 0],0,none,[],[0,2],[1],[.i],[.i (x.1.length:Int),.l yi x.1]⟩,[⟨.ret,.ret,⟨dy 19 0 [(4,.v (.one (.i .i64)))],[],0,none,[],[],[0],[.i],[]⟩⟩,⟨(.exit 0),.normal,⟨dy 19 0 [],[],0,none,[],[],[],[],[]⟩⟩]⟩
def nr (x:(List Int×Bool)) (s:Int):Int⊕(Int⊕Unit):=
 (if (s<(x.1.length:Int)) then
 (au (abm (x.1.getD s.toNat 0)) fun y=>
 (if (y=true) then
 (Sum.inr (Sum.inl s)) else
 (Sum.inl (aj (s+1))))) else
 (Sum.inr (Sum.inr (()))))
def dO (x:(List Int×Bool)) (s:Int):Prop:=
 ((s<(x.1.length:Int))->
 (((0<=s)/\ (s<(x.1.length:Int)))/\
 ((s.toNat<x.1.length)/\
 (s.toNat<x.1.length))))
def Aw (x:(List Int×Bool)) (s:Int):Tr (Int⊕(Int⊕Unit)) true:=
 (.i10 (s<(nL x.1))
 (.lA s x.1
 (.fn0 HS (gI x.1 s) trivial fun y=>
 (.jM y
 (.ret (.inr (Sum.inl s)))
 (.ret (.inl (w1 s))))))
 (.ret (.inr (Sum.inr (())))))
def Mr (x:(List Int×Bool)):Int:=
 (au (run (nr x) 0) fun r=>
 (Sum.elim (fun a=>
 a) (fun b=>
 (-1)) r))
def C1 (x:(List Int×Bool)):Prop:=
 (Term (nr x) (dO x) 0)
def S5 (x:(List Int×Bool)):Tr Int true:=
 (aW.lp (Fv x) (Aw x) z0 fun r=>
 (.Bq r (fun a=>
 (.ret a)) (fun b=>
 (.ret (-1)))))
abbrev w5:fg:=⟨(.pair (.one (Ty.sl yi)) (.eN 15 .none)),(.one yi),C1,Mr⟩
theorem Qs:ak Tryz.prog 38 (aq w5):=ak.tr w5 S5 (fn:=Tryz.f38) aD vK mixed (by kernel_rfl) (aA.nil _ _) (fun x=>(ay.tr aD (af.eO vK (aA.nil _ _)) mixed 0 (Fv x) (Aw x) ay.nil (by kernel_rfl) fun g s Q=>(by kernel_rfl))) (fun x=>(by kernel_rfl)) fun x Q=>(by kernel_rfl)
def Gw:List (Nat×Ev.Spec):=(38,aq w5)::OZ
theorem yj:af Tryz.prog Gw:=af.add (fn:=Tryz.f38) (by kernel_rfl) Qs vK
def mM (x:(List Int×Bool)):Bool:=
 (au (Mr (x.1,false)) fun y=>
 (decide (y>=0)))
def ug (x:(List Int×Bool)):Prop:=
 (C1 (x.1,false))
def Jj (x:(List Int×Bool)):Tr Bool true:=
 (.fn w5 (x.1,false) fun y=>
 (.ret (decide (y>=z0))))
abbrev oo:fg:=⟨(.pair (.one (Ty.sl yi)) (.eN 15 .none)),(.one Ty.bool),ug,mM⟩
theorem Hj:ak Tryz.prog 16 (aq oo):=ak.tr oo Jj (fn:=Tryz.f16) aD yj mixed (by kernel_rfl) (aA.nil _ _) (fun x=>ay.nil) (fun x=>(by kernel_rfl)) fun x Q=>(by kernel_rfl)
def yb:List (Nat×Ev.Spec):=(16,aq oo)::Gw
theorem q7:af Tryz.prog yb:=af.add (fn:=Tryz.f16) (by kernel_rfl) Hj yj
def uU (x:(List Int)):(List Int):=
 ((List.replicate 0 (0:Int))++x)
def uV (x:(List Int)):Prop:=
 (∀b:Bool,((0<x.length)->(b=false))->(((if (b=true) then
 [] else
 ((List.replicate 0 (0:Int))++x))=((List.replicate 0 (0:Int))++x))/\ (¬(b=true)->
 ((0+x.length)<1099511627776))))
def RQ (x:(List Int)):Tr (List Int) true:=
 (.nil (fun b=>((0<x.length)->(b=false))) fun b=>
 (.n9 b
 (.ret [])
 (.od ((0+x.length)<1099511627776)
 (.ret ((List.replicate 0 z0)++x)))))
abbrev wu:fg:=⟨(.one (Ty.sl yi)),(.one (Ty.sl yi)),uV,uU⟩
theorem PB:ak Tryz.prog 19 (aq wu):=ak.tr wu RQ (fn:=Tryz.f19) aD q7 mixed (by kernel_rfl) (aA.dead 19 (fn:=Tryz.f19) (by kernel_rfl)) (fun x=>ay.nil) (fun x=>(by kernel_rfl)) fun x Q=>(by kernel_rfl)
def Gj:List (Nat×Ev.Spec):=(19,aq wu)::yb
theorem xZ:af Tryz.prog Gj:=af.add (fn:=Tryz.f19) (by kernel_rfl) PB q7
def lin (x:(I2×Int×List Int)):Bool:=
 (if ((aO x.1.1 x.1.2)>=0) then
 (if (x.1.1<x.2.1) then
 (decide (x.1.2<(aj (Int.tdiv (x.2.2.length:Int) x.2.1)))) else
 false) else
 false)
def xm (x:(I2×Int×List Int)):Prop:=
 (((aO x.1.1 x.1.2)>=0)->
 ((x.1.1<x.2.1)->
 (x.2.1≠0)))
def abk (x:(I2×Int×List Int)):Tr Bool true:=
 (.i10 ((aO x.1.1 x.1.2)>=z0)
 (.i10 (x.1.1<x.2.1)
 (.od (x.2.1≠z0)
 (.ret (decide (x.1.2<(aj (Int.tdiv (nL x.2.2) x.2.1))))))
 (.ret false))
 (.ret false))
abbrev J3:fg:=⟨(.pair (.agg aH) (.pair (.ptr (.int .i64)) (.ptr (.sl (.int .i64))))),(.one Ty.bool),xm,lin⟩
theorem YT:ak Tryz.prog 17 (aq J3):=ak.tr J3 abk (fn:=Tryz.f17) aD xZ mixed (by kernel_rfl) (aA.nil _ _) (fun x=>ay.nil) (fun x=>(by kernel_rfl)) fun x Q=>(by kernel_rfl)
def UI:List (Nat×Ev.Spec):=(17,aq J3)::Gj
theorem mR:af Tryz.prog UI:=af.add (fn:=Tryz.f17) (by kernel_rfl) YT xZ
def xj:Lq Tryz.prog:=⟨_,(aA.walk aD mR mixed 18 (fn:=Tryz.f18) (by kernel_rfl) (aA.nil _ _) fun ys hy=>ay.nil)⟩
def JZ (x:(Int×List Int×List (I2×I2))):aW:=⟨[],⟨dy 141 0 [(2,.v (.one (.full 0))),(3,.v (.one (.ptr 1 0))),(4,.v (.one (.ptr 2 0))),(9,.v (.one (.eN 17 0 [.loc 1 0,.loc 2 0]))),(10,.v (.one (.ptr 4 0))),(11,.v (.one (.eN 18 0 [.loc 4 0]))),(51,.v (.one (.full 3))),(52,.v (.one (.i .i64))),(53,.v (.one (.i .i64)))],[.row (Ty.prod aH aH) 0,.cells [.i .i64] 3,.cells [.full 3] 22,.row yi 0,.cells [.full 5] 56,.row aH 2],0,none,[],[0,2,3,4],[5,1],[(.l aH),.i],[.i (x.2.1.length:Int),.l (Ty.prod aH aH) x.2.2,.i x.1,.l yi x.2.1]⟩,[⟨(.exit 0),.normal,⟨dy 141 0 [(2,.v (.one (.full 0))),(3,.v (.one (.ptr 1 0))),(4,.v (.one (.ptr 2 0))),(9,.v (.one (.eN 17 0 [.loc 1 0,.loc 2 0]))),(10,.v (.one (.ptr 4 0))),(11,.v (.one (.eN 18 0 [.loc 4 0])))],[.row (Ty.prod aH aH) 0,.cells [.i .i64] 3,.cells [.full 3] 22,.row yi 0,.cells [.full 5] 56,.row aH 2],0,none,[],[0,1,2],[3],[(.l aH)],[.l (Ty.prod aH aH) x.2.2,.i x.1,.l yi x.2.1]⟩⟩]⟩
def k9 (x:(Int×List Int×List (I2×I2))) (s:(List I2×Int)):(List I2×Int)⊕(List I2):=
 (if (s.2<(x.2.1.length:Int)) then
 (if (((x.2.1.getD s.2.toNat 0) !=(-1))=true) then
 (au (List.set s.1 s.2.toNat ((aj ((s.1.getD s.2.toNat (0,0)).1+(x.2.1.getD s.2.toNat 0))),(s.1.getD s.2.toNat (0,0)).2)) fun y=>
 (au (List.set y s.2.toNat ((y.getD s.2.toNat (0,0)).1,(aj ((y.getD s.2.toNat (0,0)).2+1)))) fun bq=>
 (Sum.inl (bq,(aj (s.2+1)))))) else
 (Sum.inl (s.1,(aj (s.2+1))))) else
 (Sum.inr (s.1)))
def eA (x:(Int×List Int×List (I2×I2))) (s:(List I2×Int)):Prop:=
 ((s.2<(x.2.1.length:Int))->
 (((0<=s.2)/\ (s.2<(x.2.1.length:Int)))/\
 ((s.2.toNat<x.2.1.length)/\
 ((s.2.toNat<x.2.1.length)/\
 ((((x.2.1.getD s.2.toNat 0) !=(-1))=true)->
 (((0<=s.2)/\ (s.2<(s.1.length:Int)))/\
 ((s.2.toNat<s.1.length)/\
 ((s.2.toNat<s.1.length)/\
 ((s.2.toNat<s.1.length)/\
 (((0<=s.2)/\ (s.2<(s.1.length:Int)))/\
 ((s.2.toNat<s.1.length)/\
 ((s.2.toNat<s.1.length)/\
 ((s.2.toNat<s.1.length)/\
 (aM (List.set s.1 s.2.toNat ((aj ((s.1.getD s.2.toNat (0,0)).1+(x.2.1.getD s.2.toNat 0))),(s.1.getD s.2.toNat (0,0)).2)) fun y=>
 (((0<=s.2)/\ (s.2<(y.length:Int)))/\
 ((s.2.toNat<y.length)/\
 ((s.2.toNat<y.length)/\
 ((s.2.toNat<y.length)/\
 (((0<=s.2)/\ (s.2<(y.length:Int)))/\
 ((s.2.toNat<y.length)/\
 ((s.2.toNat<y.length)/\
 (s.2.toNat<y.length))))))))))))))))))))))
def De (x:(Int×List Int×List (I2×I2))) (s:(List I2×Int)):Tr ((List I2×Int)⊕(List I2)) true:=
 (.i10 (s.2<(nL x.2.1))
 (.lA s.2 x.2.1
 (.we
 (.Es ((gI x.2.1 s.2) !=(-1))
 (.zx s.2 s.1
 (.zx s.2 s.1
 (.lt (List.set s.1 (tN s.2) ((aj ((gT s.1 s.2 aY).1+(gI x.2.1 s.2))),(gT s.1 s.2 aY).2)) fun y=>
 (.zx s.2 y
 (.zx s.2 y
 (.lt (List.set y (tN s.2) ((gT y s.2 aY).1,(w1 (gT y s.2 aY).2))) fun bq=>
 (.pn 0 6
 (.ret (.inl (bq,(w1 s.2)))))))))))
 (.pn 0 6
 (.ret (.inl (s.1,(w1 s.2))))))))
 (.ret (.inr (s.1))))
def J0 (x:(Int×List Int×List (I2×I2))):aW:=⟨[],⟨dy 141 0 [(3,.v (.one (.ptr 0 0))),(4,.v (.one (.ptr 1 0))),(9,.v (.one (.eN 17 0 [.loc 0 0,.loc 1 0]))),(10,.v (.one (.ptr 3 0))),(11,.v (.one (.eN 18 0 [.loc 3 0]))),(63,.v (.one (.full 5))),(64,.v (.one (.i .i64))),(65,.v (.one (.i .i64)))],[.cells [.i .i64] 3,.cells [.full 2] 22,.row yi 0,.cells [.full 4] 56,.row aH 2,.row (Ty.prod aH aH) 0],0,none,[],[0,2,3,5],[4,1],[(.l aH),.i],[.i (x.2.2.length:Int),.i x.1,.l yi x.2.1,.l (Ty.prod aH aH) x.2.2]⟩,[⟨.ret,.ret,⟨dy 141 0 [(6,.v (.one (.raw))),(7,.v (.one (.i .i64)))],[],0,none,[],[0,1],[],[],[.v (.slice none 0 0),.i 1]⟩⟩,⟨(.exit 2),.normal,⟨dy 141 0 [(4,.v (.one (.ptr 0 0))),(10,.v (.one (.ptr 2 0)))],[.cells [.full 1] 22,.row yi 0,.cells [.full 3] 56,.row aH 2],0,none,[],[0],[1],[(.l aH)],[.l yi x.2.1]⟩⟩]⟩
def lq (x:(Int×List Int×List (I2×I2))) (s:(List I2×Int)):(List I2×Int)⊕(Unit⊕(List I2)):=
 (if (s.2<(x.2.2.length:Int)) then
 (au (lin ((x.2.2.getD s.2.toNat ((0,0),0,0)).1,x.1,x.2.1)) fun y=>
 (if ((!y)=true) then
 (Sum.inr (Sum.inl ())) else
 (au (lin ((x.2.2.getD s.2.toNat ((0,0),0,0)).2,x.1,x.2.1)) fun bq=>
 (if ((!bq)=true) then
 (Sum.inr (Sum.inl ())) else
 (if (((x.2.1.getD (Int.toNat (aj ((aj ((x.2.2.getD s.2.toNat ((0,0),0,0)).2.2*x.1))+(x.2.2.getD s.2.toNat ((0,0),0,0)).2.1))) 0) !=(-1))=true) then
 (au (List.set s.1 (Int.toNat (aj ((aj ((x.2.2.getD s.2.toNat ((0,0),0,0)).1.2*x.1))+(x.2.2.getD s.2.toNat ((0,0),0,0)).1.1))) ((aj ((s.1.getD (Int.toNat (aj ((aj ((x.2.2.getD s.2.toNat ((0,0),0,0)).1.2*x.1))+(x.2.2.getD s.2.toNat ((0,0),0,0)).1.1))) (0,0)).1+(x.2.1.getD (Int.toNat (aj ((aj ((x.2.2.getD s.2.toNat ((0,0),0,0)).2.2*x.1))+(x.2.2.getD s.2.toNat ((0,0),0,0)).2.1))) 0))),(s.1.getD (Int.toNat (aj ((aj ((x.2.2.getD s.2.toNat ((0,0),0,0)).1.2*x.1))+(x.2.2.getD s.2.toNat ((0,0),0,0)).1.1))) (0,0)).2)) fun y_2=>
 (au (List.set y_2 (Int.toNat (aj ((aj ((x.2.2.getD s.2.toNat ((0,0),0,0)).1.2*x.1))+(x.2.2.getD s.2.toNat ((0,0),0,0)).1.1))) ((y_2.getD (Int.toNat (aj ((aj ((x.2.2.getD s.2.toNat ((0,0),0,0)).1.2*x.1))+(x.2.2.getD s.2.toNat ((0,0),0,0)).1.1))) (0,0)).1,(aj ((y_2.getD (Int.toNat (aj ((aj ((x.2.2.getD s.2.toNat ((0,0),0,0)).1.2*x.1))+(x.2.2.getD s.2.toNat ((0,0),0,0)).1.1))) (0,0)).2+1)))) fun bJ=>
 (if (((x.2.1.getD (Int.toNat (aj ((aj ((x.2.2.getD s.2.toNat ((0,0),0,0)).1.2*x.1))+(x.2.2.getD s.2.toNat ((0,0),0,0)).1.1))) 0) !=(-1))=true) then
 (au (List.set bJ (Int.toNat (aj ((aj ((x.2.2.getD s.2.toNat ((0,0),0,0)).2.2*x.1))+(x.2.2.getD s.2.toNat ((0,0),0,0)).2.1))) ((aj ((bJ.getD (Int.toNat (aj ((aj ((x.2.2.getD s.2.toNat ((0,0),0,0)).2.2*x.1))+(x.2.2.getD s.2.toNat ((0,0),0,0)).2.1))) (0,0)).1+(x.2.1.getD (Int.toNat (aj ((aj ((x.2.2.getD s.2.toNat ((0,0),0,0)).1.2*x.1))+(x.2.2.getD s.2.toNat ((0,0),0,0)).1.1))) 0))),(bJ.getD (Int.toNat (aj ((aj ((x.2.2.getD s.2.toNat ((0,0),0,0)).2.2*x.1))+(x.2.2.getD s.2.toNat ((0,0),0,0)).2.1))) (0,0)).2)) fun bn=>
 (au (List.set bn (Int.toNat (aj ((aj ((x.2.2.getD s.2.toNat ((0,0),0,0)).2.2*x.1))+(x.2.2.getD s.2.toNat ((0,0),0,0)).2.1))) ((bn.getD (Int.toNat (aj ((aj ((x.2.2.getD s.2.toNat ((0,0),0,0)).2.2*x.1))+(x.2.2.getD s.2.toNat ((0,0),0,0)).2.1))) (0,0)).1,(aj ((bn.getD (Int.toNat (aj ((aj ((x.2.2.getD s.2.toNat ((0,0),0,0)).2.2*x.1))+(x.2.2.getD s.2.toNat ((0,0),0,0)).2.1))) (0,0)).2+1)))) fun bz=>
 (Sum.inl (bz,(aj (s.2+1)))))) else
 (Sum.inl (bJ,(aj (s.2+1))))))) else
 (if (((x.2.1.getD (Int.toNat (aj ((aj ((x.2.2.getD s.2.toNat ((0,0),0,0)).1.2*x.1))+(x.2.2.getD s.2.toNat ((0,0),0,0)).1.1))) 0) !=(-1))=true) then
 (au (List.set s.1 (Int.toNat (aj ((aj ((x.2.2.getD s.2.toNat ((0,0),0,0)).2.2*x.1))+(x.2.2.getD s.2.toNat ((0,0),0,0)).2.1))) ((aj ((s.1.getD (Int.toNat (aj ((aj ((x.2.2.getD s.2.toNat ((0,0),0,0)).2.2*x.1))+(x.2.2.getD s.2.toNat ((0,0),0,0)).2.1))) (0,0)).1+(x.2.1.getD (Int.toNat (aj ((aj ((x.2.2.getD s.2.toNat ((0,0),0,0)).1.2*x.1))+(x.2.2.getD s.2.toNat ((0,0),0,0)).1.1))) 0))),(s.1.getD (Int.toNat (aj ((aj ((x.2.2.getD s.2.toNat ((0,0),0,0)).2.2*x.1))+(x.2.2.getD s.2.toNat ((0,0),0,0)).2.1))) (0,0)).2)) fun y_2=>
 (au (List.set y_2 (Int.toNat (aj ((aj ((x.2.2.getD s.2.toNat ((0,0),0,0)).2.2*x.1))+(x.2.2.getD s.2.toNat ((0,0),0,0)).2.1))) ((y_2.getD (Int.toNat (aj ((aj ((x.2.2.getD s.2.toNat ((0,0),0,0)).2.2*x.1))+(x.2.2.getD s.2.toNat ((0,0),0,0)).2.1))) (0,0)).1,(aj ((y_2.getD (Int.toNat (aj ((aj ((x.2.2.getD s.2.toNat ((0,0),0,0)).2.2*x.1))+(x.2.2.getD s.2.toNat ((0,0),0,0)).2.1))) (0,0)).2+1)))) fun bJ=>
 (Sum.inl (bJ,(aj (s.2+1)))))) else
 (Sum.inl (s.1,(aj (s.2+1)))))))))) else
 (Sum.inr (Sum.inr (s.1))))
def my (x:(Int×List Int×List (I2×I2))) (s:(List I2×Int)):Prop:=
 ((s.2<(x.2.2.length:Int))->
 (((0<=s.2)/\ (s.2<(x.2.2.length:Int)))/\
 ((s.2.toNat<x.2.2.length)/\
 ((s.2.toNat<x.2.2.length)/\
 ((xm ((x.2.2.getD s.2.toNat ((0,0),0,0)).1,x.1,x.2.1))/\
 aM (lin ((x.2.2.getD s.2.toNat ((0,0),0,0)).1,x.1,x.2.1)) fun y=>
 (¬((!y)=true)->
 ((xm ((x.2.2.getD s.2.toNat ((0,0),0,0)).2,x.1,x.2.1))/\
 aM (lin ((x.2.2.getD s.2.toNat ((0,0),0,0)).2,x.1,x.2.1)) fun bq=>
 (¬((!bq)=true)->
 (((0<=(aj ((aj ((x.2.2.getD s.2.toNat ((0,0),0,0)).2.2*x.1))+(x.2.2.getD s.2.toNat ((0,0),0,0)).2.1)))/\ ((aj ((aj ((x.2.2.getD s.2.toNat ((0,0),0,0)).2.2*x.1))+(x.2.2.getD s.2.toNat ((0,0),0,0)).2.1))<(x.2.1.length:Int)))/\
 (((Int.toNat (aj ((aj ((x.2.2.getD s.2.toNat ((0,0),0,0)).2.2*x.1))+(x.2.2.getD s.2.toNat ((0,0),0,0)).2.1)))<x.2.1.length)/\
 (((Int.toNat (aj ((aj ((x.2.2.getD s.2.toNat ((0,0),0,0)).2.2*x.1))+(x.2.2.getD s.2.toNat ((0,0),0,0)).2.1)))<x.2.1.length)/\
 (((((x.2.1.getD (Int.toNat (aj ((aj ((x.2.2.getD s.2.toNat ((0,0),0,0)).2.2*x.1))+(x.2.2.getD s.2.toNat ((0,0),0,0)).2.1))) 0) !=(-1))=true)->
 (((0<=(aj ((aj ((x.2.2.getD s.2.toNat ((0,0),0,0)).1.2*x.1))+(x.2.2.getD s.2.toNat ((0,0),0,0)).1.1)))/\ ((aj ((aj ((x.2.2.getD s.2.toNat ((0,0),0,0)).1.2*x.1))+(x.2.2.getD s.2.toNat ((0,0),0,0)).1.1))<(s.1.length:Int)))/\
 (((Int.toNat (aj ((aj ((x.2.2.getD s.2.toNat ((0,0),0,0)).1.2*x.1))+(x.2.2.getD s.2.toNat ((0,0),0,0)).1.1)))<s.1.length)/\
 (((Int.toNat (aj ((aj ((x.2.2.getD s.2.toNat ((0,0),0,0)).1.2*x.1))+(x.2.2.getD s.2.toNat ((0,0),0,0)).1.1)))<s.1.length)/\
 (((Int.toNat (aj ((aj ((x.2.2.getD s.2.toNat ((0,0),0,0)).1.2*x.1))+(x.2.2.getD s.2.toNat ((0,0),0,0)).1.1)))<s.1.length)/\
 (((0<=(aj ((aj ((x.2.2.getD s.2.toNat ((0,0),0,0)).1.2*x.1))+(x.2.2.getD s.2.toNat ((0,0),0,0)).1.1)))/\ ((aj ((aj ((x.2.2.getD s.2.toNat ((0,0),0,0)).1.2*x.1))+(x.2.2.getD s.2.toNat ((0,0),0,0)).1.1))<(s.1.length:Int)))/\
 (((Int.toNat (aj ((aj ((x.2.2.getD s.2.toNat ((0,0),0,0)).1.2*x.1))+(x.2.2.getD s.2.toNat ((0,0),0,0)).1.1)))<s.1.length)/\
 (((Int.toNat (aj ((aj ((x.2.2.getD s.2.toNat ((0,0),0,0)).1.2*x.1))+(x.2.2.getD s.2.toNat ((0,0),0,0)).1.1)))<s.1.length)/\
 (((Int.toNat (aj ((aj ((x.2.2.getD s.2.toNat ((0,0),0,0)).1.2*x.1))+(x.2.2.getD s.2.toNat ((0,0),0,0)).1.1)))<s.1.length)/\
 (aM (List.set s.1 (Int.toNat (aj ((aj ((x.2.2.getD s.2.toNat ((0,0),0,0)).1.2*x.1))+(x.2.2.getD s.2.toNat ((0,0),0,0)).1.1))) ((aj ((s.1.getD (Int.toNat (aj ((aj ((x.2.2.getD s.2.toNat ((0,0),0,0)).1.2*x.1))+(x.2.2.getD s.2.toNat ((0,0),0,0)).1.1))) (0,0)).1+(x.2.1.getD (Int.toNat (aj ((aj ((x.2.2.getD s.2.toNat ((0,0),0,0)).2.2*x.1))+(x.2.2.getD s.2.toNat ((0,0),0,0)).2.1))) 0))),(s.1.getD (Int.toNat (aj ((aj ((x.2.2.getD s.2.toNat ((0,0),0,0)).1.2*x.1))+(x.2.2.getD s.2.toNat ((0,0),0,0)).1.1))) (0,0)).2)) fun y_2=>
 (((0<=(aj ((aj ((x.2.2.getD s.2.toNat ((0,0),0,0)).1.2*x.1))+(x.2.2.getD s.2.toNat ((0,0),0,0)).1.1)))/\ ((aj ((aj ((x.2.2.getD s.2.toNat ((0,0),0,0)).1.2*x.1))+(x.2.2.getD s.2.toNat ((0,0),0,0)).1.1))<(y_2.length:Int)))/\
 (((Int.toNat (aj ((aj ((x.2.2.getD s.2.toNat ((0,0),0,0)).1.2*x.1))+(x.2.2.getD s.2.toNat ((0,0),0,0)).1.1)))<y_2.length)/\
 (((Int.toNat (aj ((aj ((x.2.2.getD s.2.toNat ((0,0),0,0)).1.2*x.1))+(x.2.2.getD s.2.toNat ((0,0),0,0)).1.1)))<y_2.length)/\
 (((Int.toNat (aj ((aj ((x.2.2.getD s.2.toNat ((0,0),0,0)).1.2*x.1))+(x.2.2.getD s.2.toNat ((0,0),0,0)).1.1)))<y_2.length)/\
 (((0<=(aj ((aj ((x.2.2.getD s.2.toNat ((0,0),0,0)).1.2*x.1))+(x.2.2.getD s.2.toNat ((0,0),0,0)).1.1)))/\ ((aj ((aj ((x.2.2.getD s.2.toNat ((0,0),0,0)).1.2*x.1))+(x.2.2.getD s.2.toNat ((0,0),0,0)).1.1))<(y_2.length:Int)))/\
 (((Int.toNat (aj ((aj ((x.2.2.getD s.2.toNat ((0,0),0,0)).1.2*x.1))+(x.2.2.getD s.2.toNat ((0,0),0,0)).1.1)))<y_2.length)/\
 (((Int.toNat (aj ((aj ((x.2.2.getD s.2.toNat ((0,0),0,0)).1.2*x.1))+(x.2.2.getD s.2.toNat ((0,0),0,0)).1.1)))<y_2.length)/\
 (((Int.toNat (aj ((aj ((x.2.2.getD s.2.toNat ((0,0),0,0)).1.2*x.1))+(x.2.2.getD s.2.toNat ((0,0),0,0)).1.1)))<y_2.length)/\
 (aM (List.set y_2 (Int.toNat (aj ((aj ((x.2.2.getD s.2.toNat ((0,0),0,0)).1.2*x.1))+(x.2.2.getD s.2.toNat ((0,0),0,0)).1.1))) ((y_2.getD (Int.toNat (aj ((aj ((x.2.2.getD s.2.toNat ((0,0),0,0)).1.2*x.1))+(x.2.2.getD s.2.toNat ((0,0),0,0)).1.1))) (0,0)).1,(aj ((y_2.getD (Int.toNat (aj ((aj ((x.2.2.getD s.2.toNat ((0,0),0,0)).1.2*x.1))+(x.2.2.getD s.2.toNat ((0,0),0,0)).1.1))) (0,0)).2+1)))) fun bJ=>
 (((0<=(aj ((aj ((x.2.2.getD s.2.toNat ((0,0),0,0)).1.2*x.1))+(x.2.2.getD s.2.toNat ((0,0),0,0)).1.1)))/\ ((aj ((aj ((x.2.2.getD s.2.toNat ((0,0),0,0)).1.2*x.1))+(x.2.2.getD s.2.toNat ((0,0),0,0)).1.1))<(x.2.1.length:Int)))/\
 (((Int.toNat (aj ((aj ((x.2.2.getD s.2.toNat ((0,0),0,0)).1.2*x.1))+(x.2.2.getD s.2.toNat ((0,0),0,0)).1.1)))<x.2.1.length)/\
 (((Int.toNat (aj ((aj ((x.2.2.getD s.2.toNat ((0,0),0,0)).1.2*x.1))+(x.2.2.getD s.2.toNat ((0,0),0,0)).1.1)))<x.2.1.length)/\
 ((((x.2.1.getD (Int.toNat (aj ((aj ((x.2.2.getD s.2.toNat ((0,0),0,0)).1.2*x.1))+(x.2.2.getD s.2.toNat ((0,0),0,0)).1.1))) 0) !=(-1))=true)->
 (((0<=(aj ((aj ((x.2.2.getD s.2.toNat ((0,0),0,0)).2.2*x.1))+(x.2.2.getD s.2.toNat ((0,0),0,0)).2.1)))/\ ((aj ((aj ((x.2.2.getD s.2.toNat ((0,0),0,0)).2.2*x.1))+(x.2.2.getD s.2.toNat ((0,0),0,0)).2.1))<(bJ.length:Int)))/\
 (((Int.toNat (aj ((aj ((x.2.2.getD s.2.toNat ((0,0),0,0)).2.2*x.1))+(x.2.2.getD s.2.toNat ((0,0),0,0)).2.1)))<bJ.length)/\
 (((Int.toNat (aj ((aj ((x.2.2.getD s.2.toNat ((0,0),0,0)).2.2*x.1))+(x.2.2.getD s.2.toNat ((0,0),0,0)).2.1)))<bJ.length)/\
 (((Int.toNat (aj ((aj ((x.2.2.getD s.2.toNat ((0,0),0,0)).2.2*x.1))+(x.2.2.getD s.2.toNat ((0,0),0,0)).2.1)))<bJ.length)/\
 (((0<=(aj ((aj ((x.2.2.getD s.2.toNat ((0,0),0,0)).2.2*x.1))+(x.2.2.getD s.2.toNat ((0,0),0,0)).2.1)))/\ ((aj ((aj ((x.2.2.getD s.2.toNat ((0,0),0,0)).2.2*x.1))+(x.2.2.getD s.2.toNat ((0,0),0,0)).2.1))<(bJ.length:Int)))/\
 (((Int.toNat (aj ((aj ((x.2.2.getD s.2.toNat ((0,0),0,0)).2.2*x.1))+(x.2.2.getD s.2.toNat ((0,0),0,0)).2.1)))<bJ.length)/\
 (((Int.toNat (aj ((aj ((x.2.2.getD s.2.toNat ((0,0),0,0)).2.2*x.1))+(x.2.2.getD s.2.toNat ((0,0),0,0)).2.1)))<bJ.length)/\
 (((Int.toNat (aj ((aj ((x.2.2.getD s.2.toNat ((0,0),0,0)).2.2*x.1))+(x.2.2.getD s.2.toNat ((0,0),0,0)).2.1)))<bJ.length)/\
 (aM (List.set bJ (Int.toNat (aj ((aj ((x.2.2.getD s.2.toNat ((0,0),0,0)).2.2*x.1))+(x.2.2.getD s.2.toNat ((0,0),0,0)).2.1))) ((aj ((bJ.getD (Int.toNat (aj ((aj ((x.2.2.getD s.2.toNat ((0,0),0,0)).2.2*x.1))+(x.2.2.getD s.2.toNat ((0,0),0,0)).2.1))) (0,0)).1+(x.2.1.getD (Int.toNat (aj ((aj ((x.2.2.getD s.2.toNat ((0,0),0,0)).1.2*x.1))+(x.2.2.getD s.2.toNat ((0,0),0,0)).1.1))) 0))),(bJ.getD (Int.toNat (aj ((aj ((x.2.2.getD s.2.toNat ((0,0),0,0)).2.2*x.1))+(x.2.2.getD s.2.toNat ((0,0),0,0)).2.1))) (0,0)).2)) fun bn=>
 (((0<=(aj ((aj ((x.2.2.getD s.2.toNat ((0,0),0,0)).2.2*x.1))+(x.2.2.getD s.2.toNat ((0,0),0,0)).2.1)))/\ ((aj ((aj ((x.2.2.getD s.2.toNat ((0,0),0,0)).2.2*x.1))+(x.2.2.getD s.2.toNat ((0,0),0,0)).2.1))<(bn.length:Int)))/\
 (((Int.toNat (aj ((aj ((x.2.2.getD s.2.toNat ((0,0),0,0)).2.2*x.1))+(x.2.2.getD s.2.toNat ((0,0),0,0)).2.1)))<bn.length)/\
 (((Int.toNat (aj ((aj ((x.2.2.getD s.2.toNat ((0,0),0,0)).2.2*x.1))+(x.2.2.getD s.2.toNat ((0,0),0,0)).2.1)))<bn.length)/\
 (((Int.toNat (aj ((aj ((x.2.2.getD s.2.toNat ((0,0),0,0)).2.2*x.1))+(x.2.2.getD s.2.toNat ((0,0),0,0)).2.1)))<bn.length)/\
 (((0<=(aj ((aj ((x.2.2.getD s.2.toNat ((0,0),0,0)).2.2*x.1))+(x.2.2.getD s.2.toNat ((0,0),0,0)).2.1)))/\ ((aj ((aj ((x.2.2.getD s.2.toNat ((0,0),0,0)).2.2*x.1))+(x.2.2.getD s.2.toNat ((0,0),0,0)).2.1))<(bn.length:Int)))/\
 (((Int.toNat (aj ((aj ((x.2.2.getD s.2.toNat ((0,0),0,0)).2.2*x.1))+(x.2.2.getD s.2.toNat ((0,0),0,0)).2.1)))<bn.length)/\
 (((Int.toNat (aj ((aj ((x.2.2.getD s.2.toNat ((0,0),0,0)).2.2*x.1))+(x.2.2.getD s.2.toNat ((0,0),0,0)).2.1)))<bn.length)/\
 ((Int.toNat (aj ((aj ((x.2.2.getD s.2.toNat ((0,0),0,0)).2.2*x.1))+(x.2.2.getD s.2.toNat ((0,0),0,0)).2.1)))<bn.length))))))))))))))))))))))))))))))))))))))))/\
 (¬(((x.2.1.getD (Int.toNat (aj ((aj ((x.2.2.getD s.2.toNat ((0,0),0,0)).2.2*x.1))+(x.2.2.getD s.2.toNat ((0,0),0,0)).2.1))) 0) !=(-1))=true)->
 (((0<=(aj ((aj ((x.2.2.getD s.2.toNat ((0,0),0,0)).1.2*x.1))+(x.2.2.getD s.2.toNat ((0,0),0,0)).1.1)))/\ ((aj ((aj ((x.2.2.getD s.2.toNat ((0,0),0,0)).1.2*x.1))+(x.2.2.getD s.2.toNat ((0,0),0,0)).1.1))<(x.2.1.length:Int)))/\
 (((Int.toNat (aj ((aj ((x.2.2.getD s.2.toNat ((0,0),0,0)).1.2*x.1))+(x.2.2.getD s.2.toNat ((0,0),0,0)).1.1)))<x.2.1.length)/\
 (((Int.toNat (aj ((aj ((x.2.2.getD s.2.toNat ((0,0),0,0)).1.2*x.1))+(x.2.2.getD s.2.toNat ((0,0),0,0)).1.1)))<x.2.1.length)/\
 ((((x.2.1.getD (Int.toNat (aj ((aj ((x.2.2.getD s.2.toNat ((0,0),0,0)).1.2*x.1))+(x.2.2.getD s.2.toNat ((0,0),0,0)).1.1))) 0) !=(-1))=true)->
 (((0<=(aj ((aj ((x.2.2.getD s.2.toNat ((0,0),0,0)).2.2*x.1))+(x.2.2.getD s.2.toNat ((0,0),0,0)).2.1)))/\ ((aj ((aj ((x.2.2.getD s.2.toNat ((0,0),0,0)).2.2*x.1))+(x.2.2.getD s.2.toNat ((0,0),0,0)).2.1))<(s.1.length:Int)))/\
 (((Int.toNat (aj ((aj ((x.2.2.getD s.2.toNat ((0,0),0,0)).2.2*x.1))+(x.2.2.getD s.2.toNat ((0,0),0,0)).2.1)))<s.1.length)/\
 (((Int.toNat (aj ((aj ((x.2.2.getD s.2.toNat ((0,0),0,0)).2.2*x.1))+(x.2.2.getD s.2.toNat ((0,0),0,0)).2.1)))<s.1.length)/\
 (((Int.toNat (aj ((aj ((x.2.2.getD s.2.toNat ((0,0),0,0)).2.2*x.1))+(x.2.2.getD s.2.toNat ((0,0),0,0)).2.1)))<s.1.length)/\
 (((0<=(aj ((aj ((x.2.2.getD s.2.toNat ((0,0),0,0)).2.2*x.1))+(x.2.2.getD s.2.toNat ((0,0),0,0)).2.1)))/\ ((aj ((aj ((x.2.2.getD s.2.toNat ((0,0),0,0)).2.2*x.1))+(x.2.2.getD s.2.toNat ((0,0),0,0)).2.1))<(s.1.length:Int)))/\
 (((Int.toNat (aj ((aj ((x.2.2.getD s.2.toNat ((0,0),0,0)).2.2*x.1))+(x.2.2.getD s.2.toNat ((0,0),0,0)).2.1)))<s.1.length)/\
 (((Int.toNat (aj ((aj ((x.2.2.getD s.2.toNat ((0,0),0,0)).2.2*x.1))+(x.2.2.getD s.2.toNat ((0,0),0,0)).2.1)))<s.1.length)/\
 (((Int.toNat (aj ((aj ((x.2.2.getD s.2.toNat ((0,0),0,0)).2.2*x.1))+(x.2.2.getD s.2.toNat ((0,0),0,0)).2.1)))<s.1.length)/\
 (aM (List.set s.1 (Int.toNat (aj ((aj ((x.2.2.getD s.2.toNat ((0,0),0,0)).2.2*x.1))+(x.2.2.getD s.2.toNat ((0,0),0,0)).2.1))) ((aj ((s.1.getD (Int.toNat (aj ((aj ((x.2.2.getD s.2.toNat ((0,0),0,0)).2.2*x.1))+(x.2.2.getD s.2.toNat ((0,0),0,0)).2.1))) (0,0)).1+(x.2.1.getD (Int.toNat (aj ((aj ((x.2.2.getD s.2.toNat ((0,0),0,0)).1.2*x.1))+(x.2.2.getD s.2.toNat ((0,0),0,0)).1.1))) 0))),(s.1.getD (Int.toNat (aj ((aj ((x.2.2.getD s.2.toNat ((0,0),0,0)).2.2*x.1))+(x.2.2.getD s.2.toNat ((0,0),0,0)).2.1))) (0,0)).2)) fun y_2=>
 (((0<=(aj ((aj ((x.2.2.getD s.2.toNat ((0,0),0,0)).2.2*x.1))+(x.2.2.getD s.2.toNat ((0,0),0,0)).2.1)))/\ ((aj ((aj ((x.2.2.getD s.2.toNat ((0,0),0,0)).2.2*x.1))+(x.2.2.getD s.2.toNat ((0,0),0,0)).2.1))<(y_2.length:Int)))/\
 (((Int.toNat (aj ((aj ((x.2.2.getD s.2.toNat ((0,0),0,0)).2.2*x.1))+(x.2.2.getD s.2.toNat ((0,0),0,0)).2.1)))<y_2.length)/\
 (((Int.toNat (aj ((aj ((x.2.2.getD s.2.toNat ((0,0),0,0)).2.2*x.1))+(x.2.2.getD s.2.toNat ((0,0),0,0)).2.1)))<y_2.length)/\
 (((Int.toNat (aj ((aj ((x.2.2.getD s.2.toNat ((0,0),0,0)).2.2*x.1))+(x.2.2.getD s.2.toNat ((0,0),0,0)).2.1)))<y_2.length)/\
 (((0<=(aj ((aj ((x.2.2.getD s.2.toNat ((0,0),0,0)).2.2*x.1))+(x.2.2.getD s.2.toNat ((0,0),0,0)).2.1)))/\ ((aj ((aj ((x.2.2.getD s.2.toNat ((0,0),0,0)).2.2*x.1))+(x.2.2.getD s.2.toNat ((0,0),0,0)).2.1))<(y_2.length:Int)))/\
 (((Int.toNat (aj ((aj ((x.2.2.getD s.2.toNat ((0,0),0,0)).2.2*x.1))+(x.2.2.getD s.2.toNat ((0,0),0,0)).2.1)))<y_2.length)/\
 (((Int.toNat (aj ((aj ((x.2.2.getD s.2.toNat ((0,0),0,0)).2.2*x.1))+(x.2.2.getD s.2.toNat ((0,0),0,0)).2.1)))<y_2.length)/\
 ((Int.toNat (aj ((aj ((x.2.2.getD s.2.toNat ((0,0),0,0)).2.2*x.1))+(x.2.2.getD s.2.toNat ((0,0),0,0)).2.1)))<y_2.length))))))))))))))))))))))))))))))))))
def Df (x:(Int×List Int×List (I2×I2))) (s:(List I2×Int)):Tr ((List I2×Int)⊕(Unit⊕(List I2))) true:=
 (.i10 (s.2<(nL x.2.2))
 (.lA s.2 x.2.2
 (.fn J3 ((gT x.2.2 s.2 (aY,aY)).1,x.1,x.2.1) fun y=>
 (.n9 (!y)
 (.ret (.inr (Sum.inl ())))
 (.fn J3 ((gT x.2.2 s.2 (aY,aY)).2,x.1,x.2.1) fun bq=>
 (.n9 (!bq)
 (.ret (.inr (Sum.inl ())))
 (.lA (aj ((aj ((gT x.2.2 s.2 (aY,aY)).2.2*x.1))+(gT x.2.2 s.2 (aY,aY)).2.1)) x.2.1
 (.we
 (.b11 ((gI x.2.1 (aj ((aj ((gT x.2.2 s.2 (aY,aY)).2.2*x.1))+(gT x.2.2 s.2 (aY,aY)).2.1))) !=(-1))
 (.zx (aj ((aj ((gT x.2.2 s.2 (aY,aY)).1.2*x.1))+(gT x.2.2 s.2 (aY,aY)).1.1)) s.1
 (.zx (aj ((aj ((gT x.2.2 s.2 (aY,aY)).1.2*x.1))+(gT x.2.2 s.2 (aY,aY)).1.1)) s.1
 (.lt (List.set s.1 (tN (aj ((aj ((gT x.2.2 s.2 (aY,aY)).1.2*x.1))+(gT x.2.2 s.2 (aY,aY)).1.1))) ((aj ((gT s.1 (aj ((aj ((gT x.2.2 s.2 (aY,aY)).1.2*x.1))+(gT x.2.2 s.2 (aY,aY)).1.1)) aY).1+(gI x.2.1 (aj ((aj ((gT x.2.2 s.2 (aY,aY)).2.2*x.1))+(gT x.2.2 s.2 (aY,aY)).2.1))))),(gT s.1 (aj ((aj ((gT x.2.2 s.2 (aY,aY)).1.2*x.1))+(gT x.2.2 s.2 (aY,aY)).1.1)) aY).2)) fun y_2=>
 (.zx (aj ((aj ((gT x.2.2 s.2 (aY,aY)).1.2*x.1))+(gT x.2.2 s.2 (aY,aY)).1.1)) y_2
 (.zx (aj ((aj ((gT x.2.2 s.2 (aY,aY)).1.2*x.1))+(gT x.2.2 s.2 (aY,aY)).1.1)) y_2
 (.lt (List.set y_2 (tN (aj ((aj ((gT x.2.2 s.2 (aY,aY)).1.2*x.1))+(gT x.2.2 s.2 (aY,aY)).1.1))) ((gT y_2 (aj ((aj ((gT x.2.2 s.2 (aY,aY)).1.2*x.1))+(gT x.2.2 s.2 (aY,aY)).1.1)) aY).1,(w1 (gT y_2 (aj ((aj ((gT x.2.2 s.2 (aY,aY)).1.2*x.1))+(gT x.2.2 s.2 (aY,aY)).1.1)) aY).2))) fun bJ=>
 (.pn 0 7
 (.lA (aj ((aj ((gT x.2.2 s.2 (aY,aY)).1.2*x.1))+(gT x.2.2 s.2 (aY,aY)).1.1)) x.2.1
 (.we
 (.Es ((gI x.2.1 (aj ((aj ((gT x.2.2 s.2 (aY,aY)).1.2*x.1))+(gT x.2.2 s.2 (aY,aY)).1.1))) !=(-1))
 (.zx (aj ((aj ((gT x.2.2 s.2 (aY,aY)).2.2*x.1))+(gT x.2.2 s.2 (aY,aY)).2.1)) bJ
 (.zx (aj ((aj ((gT x.2.2 s.2 (aY,aY)).2.2*x.1))+(gT x.2.2 s.2 (aY,aY)).2.1)) bJ
 (.lt (List.set bJ (tN (aj ((aj ((gT x.2.2 s.2 (aY,aY)).2.2*x.1))+(gT x.2.2 s.2 (aY,aY)).2.1))) ((aj ((gT bJ (aj ((aj ((gT x.2.2 s.2 (aY,aY)).2.2*x.1))+(gT x.2.2 s.2 (aY,aY)).2.1)) aY).1+(gI x.2.1 (aj ((aj ((gT x.2.2 s.2 (aY,aY)).1.2*x.1))+(gT x.2.2 s.2 (aY,aY)).1.1))))),(gT bJ (aj ((aj ((gT x.2.2 s.2 (aY,aY)).2.2*x.1))+(gT x.2.2 s.2 (aY,aY)).2.1)) aY).2)) fun bn=>
 (.zx (aj ((aj ((gT x.2.2 s.2 (aY,aY)).2.2*x.1))+(gT x.2.2 s.2 (aY,aY)).2.1)) bn
 (.zx (aj ((aj ((gT x.2.2 s.2 (aY,aY)).2.2*x.1))+(gT x.2.2 s.2 (aY,aY)).2.1)) bn
 (.lt (List.set bn (tN (aj ((aj ((gT x.2.2 s.2 (aY,aY)).2.2*x.1))+(gT x.2.2 s.2 (aY,aY)).2.1))) ((gT bn (aj ((aj ((gT x.2.2 s.2 (aY,aY)).2.2*x.1))+(gT x.2.2 s.2 (aY,aY)).2.1)) aY).1,(w1 (gT bn (aj ((aj ((gT x.2.2 s.2 (aY,aY)).2.2*x.1))+(gT x.2.2 s.2 (aY,aY)).2.1)) aY).2))) fun bz=>
 (.pn 1 8
 (.ret (.inl (bz,(w1 s.2)))))))))))
 (.pn 1 8
 (.ret (.inl (bJ,(w1 s.2)))))))))))))))
 (.pn 0 7
 (.lA (aj ((aj ((gT x.2.2 s.2 (aY,aY)).1.2*x.1))+(gT x.2.2 s.2 (aY,aY)).1.1)) x.2.1
 (.we
 (.Es ((gI x.2.1 (aj ((aj ((gT x.2.2 s.2 (aY,aY)).1.2*x.1))+(gT x.2.2 s.2 (aY,aY)).1.1))) !=(-1))
 (.zx (aj ((aj ((gT x.2.2 s.2 (aY,aY)).2.2*x.1))+(gT x.2.2 s.2 (aY,aY)).2.1)) s.1
 (.zx (aj ((aj ((gT x.2.2 s.2 (aY,aY)).2.2*x.1))+(gT x.2.2 s.2 (aY,aY)).2.1)) s.1
 (.lt (List.set s.1 (tN (aj ((aj ((gT x.2.2 s.2 (aY,aY)).2.2*x.1))+(gT x.2.2 s.2 (aY,aY)).2.1))) ((aj ((gT s.1 (aj ((aj ((gT x.2.2 s.2 (aY,aY)).2.2*x.1))+(gT x.2.2 s.2 (aY,aY)).2.1)) aY).1+(gI x.2.1 (aj ((aj ((gT x.2.2 s.2 (aY,aY)).1.2*x.1))+(gT x.2.2 s.2 (aY,aY)).1.1))))),(gT s.1 (aj ((aj ((gT x.2.2 s.2 (aY,aY)).2.2*x.1))+(gT x.2.2 s.2 (aY,aY)).2.1)) aY).2)) fun y_2=>
 (.zx (aj ((aj ((gT x.2.2 s.2 (aY,aY)).2.2*x.1))+(gT x.2.2 s.2 (aY,aY)).2.1)) y_2
 (.zx (aj ((aj ((gT x.2.2 s.2 (aY,aY)).2.2*x.1))+(gT x.2.2 s.2 (aY,aY)).2.1)) y_2
 (.lt (List.set y_2 (tN (aj ((aj ((gT x.2.2 s.2 (aY,aY)).2.2*x.1))+(gT x.2.2 s.2 (aY,aY)).2.1))) ((gT y_2 (aj ((aj ((gT x.2.2 s.2 (aY,aY)).2.2*x.1))+(gT x.2.2 s.2 (aY,aY)).2.1)) aY).1,(w1 (gT y_2 (aj ((aj ((gT x.2.2 s.2 (aY,aY)).2.2*x.1))+(gT x.2.2 s.2 (aY,aY)).2.1)) aY).2))) fun bJ=>
 (.pn 1 8
 (.ret (.inl (bJ,(w1 s.2)))))))))))
 (.pn 1 8
 (.ret (.inl (s.1,(w1 s.2)))))))))))))))))
 (.ret (.inr (Sum.inr (s.1)))))
def J1 (x:(Int×List Int×List (I2×I2))):aW:=⟨[],⟨dy 141 0 [(10,.v (.one (.ptr 0 0))),(18,.v (.one (.full 2))),(116,.v (.one (.full 3))),(117,.v (.one (.i .i64))),(118,.v (.one (.i .i64)))],[.cells [.full 1] 56,.row aH 2,.row yi 2,.row yi 0],0,none,[],[0,4],[2,3,1],[(.l aH),(.l yi),.i],[.i (x.2.1.length:Int),.l yi x.2.1]⟩,[⟨(.exit 4),.normal,⟨dy 141 0 [(18,.v (.one (.full 0)))],[.row yi 2],0,none,[],[],[0],[(.l yi)],[]⟩⟩]⟩
def lu (x:(Int×List Int×List (I2×I2))) (s:(List I2×List Int×Int)):(List I2×List Int×Int)⊕(List Int):=
 (if (s.2.2<(x.2.1.length:Int)) then
 (if (((x.2.1.getD s.2.2.toNat 0) !=(-1))=true) then
 (au (List.set s.2.1 s.2.2.toNat (aj (Int.tdiv (s.1.getD s.2.2.toNat (0,0)).1 (s.1.getD s.2.2.toNat (0,0)).2))) fun y=>
 (Sum.inl (s.1,y,(aj (s.2.2+1))))) else
 (Sum.inl (s.1,s.2.1,(aj (s.2.2+1))))) else
 (Sum.inr (s.2.1)))
def eB (x:(Int×List Int×List (I2×I2))) (s:(List I2×List Int×Int)):Prop:=
 ((s.2.2<(x.2.1.length:Int))->
 (((0<=s.2.2)/\ (s.2.2<(x.2.1.length:Int)))/\
 ((s.2.2.toNat<x.2.1.length)/\
 ((s.2.2.toNat<x.2.1.length)/\
 ((((x.2.1.getD s.2.2.toNat 0) !=(-1))=true)->
 (((0<=s.2.2)/\ (s.2.2<(s.1.length:Int)))/\
 ((s.2.2.toNat<s.1.length)/\
 ((s.2.2.toNat<s.1.length)/\
 ((s.2.2.toNat<s.1.length)/\
 (((0<=s.2.2)/\ (s.2.2<(s.1.length:Int)))/\
 ((s.2.2.toNat<s.1.length)/\
 ((s.2.2.toNat<s.1.length)/\
 ((s.2.2.toNat<s.1.length)/\
 (((s.1.getD s.2.2.toNat (0,0)).2≠0)/\
 (((0<=s.2.2)/\ (s.2.2<(s.2.1.length:Int)))/\
 ((s.2.2.toNat<s.2.1.length)/\
 (s.2.2.toNat<s.2.1.length)))))))))))))))))
def Dg (x:(Int×List Int×List (I2×I2))) (s:(List I2×List Int×Int)):Tr ((List I2×List Int×Int)⊕(List Int)) true:=
 (.i10 (s.2.2<(nL x.2.1))
 (.lA s.2.2 x.2.1
 (.Es ((gI x.2.1 s.2.2) !=(-1))
 (.zx s.2.2 s.1
 (.zx s.2.2 s.1
 (.od ((gT s.1 s.2.2 aY).2≠z0)
 (.lA s.2.2 s.2.1
 (.lt (List.set s.2.1 (tN s.2.2) (aj (Int.tdiv (gT s.1 s.2.2 aY).1 (gT s.1 s.2.2 aY).2))) fun y=>
 (.ret (.inl (s.1,y,(w1 s.2.2)))))))))
 (.ret (.inl (s.1,s.2.1,(w1 s.2.2))))))
 (.ret (.inr (s.2.1))))
def level (x:(Int×List Int×List (I2×I2))):(List Int×Int):=
 (if (x.1<1) then
 ([],1) else
 (if (x.1>256) then
 ([],1) else
 (if (((Int.tmod (x.2.1.length:Int) x.1) !=0)=true) then
 ([],1) else
 (if ((x.2.1.length:Int)>(aj (x.1*256))) then
 ([],1) else
 (au (mM (x.2.1,false)) fun y=>
 (if (y=true) then
 ([],1) else
 (au (run (k9 x) ((List.replicate x.2.1.length ((0:Int),(0:Int))),(0:Int))) fun r=>
 (au (run (lq x) (r,0)) fun r_1=>
 (Sum.elim (fun a=>
 ([],1)) (fun b=>
 (au (uU x.2.1) fun bq=>
 (au (run (lu x) (b,bq,0)) fun r_2=>
 (r_2,0)))) r_1)))))))))
def kI (x:(Int×List Int×List (I2×I2))):Prop:=
 (¬(x.1<1)->
 (¬(x.1>256)->
 ((x.1≠0)/\
 (¬(((Int.tmod (x.2.1.length:Int) x.1) !=0)=true)->
 (¬((x.2.1.length:Int)>(aj (x.1*256)))->
 ((ug (x.2.1,false))/\
 aM (mM (x.2.1,false)) fun y=>
 (¬(y=true)->
 ((((x.2.1.length:Int)<=(x.2.1.length:Int))/\ (x.2.1.length<1099511627776))/\
 (Term (k9 x) (eA x) ((List.replicate x.2.1.length ((0:Int),(0:Int))),(0:Int))/\
 aM (run (k9 x) ((List.replicate x.2.1.length ((0:Int),(0:Int))),(0:Int))) fun r=>
 (Term (lq x) (my x) (r,0)/\
 aM (run (lq x) (r,0)) fun r_1=>
 (cS r_1 (fun a=>
 True) (fun b=>
 ((uV x.2.1)/\
 aM (uU x.2.1) fun bq=>
 (Term (lu x) (eB x) (b,bq,0)))))))))))))))
def Wg (x:(Int×List Int×List (I2×I2))):Tr (List Int×Int) true:=
 (.uu (x.1<z1)
 (.ret ([],z1))
 (.uu (x.1>256)
 (.ret ([],z1))
 (.od (x.1≠z0)
 (.n9 ((Int.tmod (nL x.2.1) x.1) !=z0)
 (.ret ([],z1))
 (.uu ((nL x.2.1)>(aj (x.1*256)))
 (.ret ([],z1))
 (.fn oo (x.2.1,false) fun y=>
 (.n9 y
 (.ret ([],z1))
 (.og (((decide (z0<=(nL x.2.1)))&&(decide ((nL x.2.1)<=(nL x.2.1))))&&(decide (x.2.1.length<1099511627776))) (((nL x.2.1)<=(nL x.2.1))/\ (x.2.1.length<1099511627776)) (fun h=>(jR (jR rfl (decide_eq_true h.1)) (decide_eq_true h.2)))
 (aW.lp (JZ x) (De x) ((List.replicate x.2.1.length aY),z0) fun r=>
 (aW.lp (J0 x) (Df x) (r,z0) fun r_1=>
 (.s01 r_1 (fun a=>
 (.ret ([],z1))) (fun b=>
 (.fn wu x.2.1 fun bq=>
 (aW.lp (J1 x) (Dg x) (b,bq,z0) fun r_2=>
 (.ret (r_2,z0))))))))))))))))
abbrev xh:fg:=⟨(.pair (.one yi) (.pair (.one (Ty.sl yi)) (.one (Ty.sl (Ty.prod aH aH))))),(.pair (.one (Ty.sl yi)) (.one yi)),kI,level⟩
theorem Ts:ak Tryz.prog 7 (aq xh):=ak.tr xh Wg (fn:=Tryz.f7) aD mR mixed (by kernel_rfl) xj.ok (fun x=>(ay.tr aD (af.eO mR xj.ok) mixed 0 (JZ x) (De x) (ay.tr aD (af.eO mR xj.ok) mixed 2 (J0 x) (Df x) (ay.tr aD (af.eO mR xj.ok) mixed 4 (J1 x) (Dg x) ay.nil (by kernel_rfl) fun g s Q=>(by kernel_rfl)) (by kernel_rfl) fun g s Q=>(by kernel_rfl)) (by kernel_rfl) fun g s Q=>(by kernel_rfl))) (fun x=>(by kernel_rfl)) fun x Q=>(by kernel_rfl)
def KT:List (Nat×Ev.Spec):=(7,aq xh)::UI
theorem sW:af Tryz.prog KT:=af.add (fn:=Tryz.f7) (by kernel_rfl) Ts mR
def F6 (x:(List Int×List Int)):aW:=⟨[],⟨dy 26 0 [(0,.v (.one (.full 0))),(1,.v (.one (.full 1))),(5,.v (.one (.i .i64)))],[.row yi 0,.row yi 0],0,none,[],[1,2],[0],[.i],[.l yi x.1,.l yi x.2]⟩,[⟨.ret,.ret,⟨dy 26 0 [(4,.v (.one (.b)))],[],0,none,[],[0],[],[],[.b false]⟩⟩,⟨(.exit 0),.normal,⟨dy 26 0 [],[],0,none,[],[],[],[],[]⟩⟩]⟩
def nG (x:(List Int×List Int)) (s:Int):Int⊕(Unit⊕Unit):=
 (if (s<(x.1.length:Int)) then
 (if (((x.1.getD s.toNat 0) !=(x.2.getD s.toNat 0))=true) then
 (Sum.inr (Sum.inl ())) else
 (Sum.inl (aj (s+1)))) else
 (Sum.inr (Sum.inr (()))))
def dQ (x:(List Int×List Int)) (s:Int):Prop:=
 ((s<(x.1.length:Int))->
 (((0<=s)/\ (s<(x.1.length:Int)))/\
 ((s.toNat<x.1.length)/\
 ((s.toNat<x.1.length)/\
 (((0<=s)/\ (s<(x.2.length:Int)))/\
 ((s.toNat<x.2.length)/\
 (s.toNat<x.2.length)))))))
def AG (x:(List Int×List Int)) (s:Int):Tr (Int⊕(Unit⊕Unit)) true:=
 (.i10 (s<(nL x.1))
 (.lA s x.1
 (.lA s x.2
 (.jM ((gI x.1 s) !=(gI x.2 s))
 (.ret (.inr (Sum.inl ())))
 (.ret (.inl (w1 s))))))
 (.ret (.inr (Sum.inr (())))))
def Dz (x:(List Int×List Int)):Bool:=
 (if (((x.1.length:Int) !=(x.2.length:Int))=true) then
 false else
 (au (run (nG x) 0) fun r=>
 (Sum.elim (fun a=>
 false) (fun b=>
 true) r)))
def nH (x:(List Int×List Int)):Prop:=
 (¬(((x.1.length:Int) !=(x.2.length:Int))=true)->
 (Term (nG x) (dQ x) 0))
def Ug (x:(List Int×List Int)):Tr Bool true:=
 (.n9 ((nL x.1) !=(nL x.2))
 (.ret false)
 (aW.lp (F6 x) (AG x) z0 fun r=>
 (.Bq r (fun a=>
 (.ret false)) (fun b=>
 (.ret true)))))
abbrev sL:fg:=⟨(.pair (.one (Ty.sl yi)) (.one (Ty.sl yi))),(.one Ty.bool),nH,Dz⟩
theorem QV:ak Tryz.prog 9 (aq sL):=ak.tr sL Ug (fn:=Tryz.f9) aD sW mixed (by kernel_rfl) (aA.nil _ _) (fun x=>(ay.tr aD (af.eO sW (aA.nil _ _)) mixed 0 (F6 x) (AG x) ay.nil (by kernel_rfl) fun g s Q=>(by kernel_rfl))) (fun x=>(by kernel_rfl)) fun x Q=>(by kernel_rfl)
def GH:List (Nat×Ev.Spec):=(9,aq sL)::KT
theorem yw:af Tryz.prog GH:=af.add (fn:=Tryz.f9) (by kernel_rfl) QV sW
def Xl (x:(List I3×List I2×List I3×List I9)):Bool:=
 (if ((x.1.length:Int)<=20) then
 (if ((x.2.1.length:Int)<=60) then
 (if ((x.2.2.1.length:Int)<=60) then
 (decide ((x.2.2.2.length:Int)<=20)) else
 false) else
 false) else
 false)
def Qb (_:(List I3×List I2×List I3×List I9)):Prop:=True
def VU (x:(List I3×List I2×List I3×List I9)):Tr Bool false:=
 (.tB ((nL x.1)<=20)
 (.tB ((nL x.2.1)<=60)
 (.tB ((nL x.2.2.1)<=60)
 (.ret (decide ((nL x.2.2.2)<=20)))
 (.ret false))
 (.ret false))
 (.ret false))
abbrev BM:fg:=⟨(.agg (Ty.prod (Ty.sl cj) (Ty.prod (Ty.sl aH) (Ty.prod (Ty.sl cj) (Ty.sl kB))))),(.one Ty.bool),Qb,Xl⟩
theorem Sn:ak Tryz.prog 45 (aq BM):=ak.tr BM VU (fn:=Tryz.f45) aD yw mixed (by kernel_rfl) (aA.nil _ _) (fun x=>ay.nil) (fun x=>(by kernel_rfl)) fun x Q=>(by kernel_rfl)
def KL:List (Nat×Ev.Spec):=(45,aq BM)::GH
theorem sU:af Tryz.prog KL:=af.add (fn:=Tryz.f45) (by kernel_rfl) Sn yw
def Jz (x:((List I3×List I2×List I3×List I9)×List (Int×Int×List Int))):aW:=⟨[],⟨dy 37 0 [(1,.v (.one (.full 0))),(2,.v (.one (.ptr 1 0))),(5,.v (.one (.i .i64)))],[.row (Ty.prod yi (Ty.prod yi (Ty.sl yi))) 0,.cells [.full 2,.full 3,.full 4,.full 5] 41,.row cj 0,.row aH 0,.row cj 0,.row kB 0],0,none,[],[1,2,3,4,5],[0],[.i],[.l (Ty.prod yi (Ty.prod yi (Ty.sl yi))) x.2,.l cj x.1.1,.l aH x.1.2.1,.l cj x.1.2.2.1,.l kB x.1.2.2.2]⟩,[⟨.ret,.ret,⟨dy 37 0 [(4,.v (.one (.b)))],[],0,none,[],[0],[],[],[.b false]⟩⟩,⟨(.exit 0),.normal,⟨dy 37 0 [(1,.v (.one (.full 0))),(2,.v (.one (.ptr 1 0)))],[.row (Ty.prod yi (Ty.prod yi (Ty.sl yi))) 0,.cells [.full 2,.full 3,.full 4,.full 5] 41,.row cj 0,.row aH 0,.row cj 0,.row kB 0],0,none,[],[0,1,2,3,4],[],[],[.l (Ty.prod yi (Ty.prod yi (Ty.sl yi))) x.2,.l cj x.1.1,.l aH x.1.2.1,.l cj x.1.2.2.1,.l kB x.1.2.2.2]⟩⟩]⟩
def uj (x:((List I3×List I2×List I3×List I9)×List (Int×Int×List Int))) (s:Int):Int⊕(Unit⊕Unit):=
 (if (s<(x.2.length:Int)) then
 (if ((x.2.length:Int)<=20) then
 (if (((x.2.getD s.toNat (0,0,[])).2.2.length:Int)>20) then
 (Sum.inr (Sum.inl ())) else
 (Sum.inl (aj (s+1)))) else
 (Sum.inr (Sum.inr (())))) else
 (Sum.inr (Sum.inr (()))))
def HA (x:((List I3×List I2×List I3×List I9)×List (Int×Int×List Int))) (s:Int):Prop:=
 ((s<(x.2.length:Int))->
 (((x.2.length:Int)<=20)->
 (((0<=s)/\ (s<(x.2.length:Int)))/\
 ((s.toNat<x.2.length)/\
 ((s.toNat<x.2.length)/\
 (s.toNat<x.2.length))))))
def CO (x:((List I3×List I2×List I3×List I9)×List (Int×Int×List Int))) (s:Int):Tr (Int⊕(Unit⊕Unit)) true:=
 (.i10 (s<(nL x.2))
 (.i10 ((nL x.2)<=20)
 (.zx s x.2
 (.tB ((nL (gT x.2 s (z0,z0,[])).2.2)>20)
 (.ret (.inr (Sum.inl ())))
 (.ret (.inl (w1 s)))))
 (.ret (.inr (Sum.inr (())))))
 (.ret (.inr (Sum.inr (())))))
def NY (x:((List I3×List I2×List I3×List I9)×List (Int×Int×List Int))):Bool:=
 (au (run (uj x) 0) fun r=>
 (Sum.elim (fun a=>
 false) (fun b=>
 (if ((x.2.length:Int)<=20) then
 (au (Xl x.1) fun y=>
 (if (y=true) then
 (decide ((x.1.2.2.2.length:Int)<=12)) else
 false)) else
 false)) r))
def zi (x:((List I3×List I2×List I3×List I9)×List (Int×Int×List Int))):Prop:=
 (Term (uj x) (HA x) 0)
def VV (x:((List I3×List I2×List I3×List I9)×List (Int×Int×List Int))):Tr Bool true:=
 (aW.lp (Jz x) (CO x) z0 fun r=>
 (.Bq r (fun a=>
 (.ret false)) (fun b=>
 (.tB ((nL x.2)<=20)
 (.fn0 BM x.1 trivial fun y=>
 (.jM y
 (.ret (decide ((nL x.1.2.2.2)<=12)))
 (.ret false)))
 (.ret false)))))
abbrev BN:fg:=⟨(.pair (.agg (Ty.prod (Ty.sl cj) (Ty.prod (Ty.sl aH) (Ty.prod (Ty.sl cj) (Ty.sl kB))))) (.one (Ty.sl (Ty.prod yi (Ty.prod yi (Ty.sl yi)))))),(.one Ty.bool),zi,NY⟩
theorem Sq:ak Tryz.prog 23 (aq BN):=ak.tr BN VV (fn:=Tryz.f23) aD sU mixed (by kernel_rfl) (aA.nil _ _) (fun x=>(ay.tr aD (af.eO sU (aA.nil _ _)) mixed 0 (Jz x) (CO x) ay.nil (by kernel_rfl) fun g s Q=>(by kernel_rfl))) (fun x=>(by kernel_rfl)) fun x Q=>(by kernel_rfl)
def KM:List (Nat×Ev.Spec):=(23,aq BN)::KL
theorem AP:af Tryz.prog KM:=af.add (fn:=Tryz.f23) (by kernel_rfl) Sq sU
def Jb (x:(List Int×List I6×I2)):Bool:=
 (if ((x.1.length:Int)>15) then
 true else
 (decide ((x.2.1.length:Int)>15)))
def Pu (_:(List Int×List I6×I2)):Prop:=True
def VA (x:(List Int×List I6×I2)):Tr Bool false:=
 (.tB ((nL x.1)>15)
 (.ret true)
 (.ret (decide ((nL x.2.1)>15))))
abbrev BI:fg:=⟨(.agg (Ty.prod (Ty.sl yi) (Ty.prod (Ty.sl bZ) aH))),(.one Ty.bool),Pu,Jb⟩
theorem RH:ak Tryz.prog 46 (aq BI):=ak.tr BI VA (fn:=Tryz.f46) aD AP mixed (by kernel_rfl) (aA.nil _ _) (fun x=>ay.nil) (fun x=>(by kernel_rfl)) fun x Q=>(by kernel_rfl)
def KI:List (Nat×Ev.Spec):=(46,aq BI)::KM
theorem sQ:af Tryz.prog KI:=af.add (fn:=Tryz.f46) (by kernel_rfl) RH AP
def Jd (x:(List (List Int×List I6×I2))):aW:=⟨[],⟨dy 36 0 [(0,.v (.one (.full 0))),(3,.v (.one (.i .i64))),(4,.v (.one (.i .i64)))],[.row (Ty.prod (Ty.sl yi) (Ty.prod (Ty.sl bZ) aH)) 0],0,none,[],[2],[0,1],[.i,.i],[.l (Ty.prod (Ty.sl yi) (Ty.prod (Ty.sl bZ) aH)) x]⟩,[⟨.ret,.ret,⟨dy 36 0 [(2,.v (.one (.b)))],[],0,none,[],[0],[],[],[.b true]⟩⟩,⟨(.exit 0),.normal,⟨dy 36 0 [(0,.v (.one (.full 0))),(3,.v (.one (.i .i64)))],[.row (Ty.prod (Ty.sl yi) (Ty.prod (Ty.sl bZ) aH)) 0],0,none,[],[1],[0],[.i],[.l (Ty.prod (Ty.sl yi) (Ty.prod (Ty.sl bZ) aH)) x]⟩⟩]⟩
def fD (x:(List (List Int×List I6×I2))) (s:I2):I2⊕(Unit⊕Int):=
 (if (s.2<(x.length:Int)) then
 (if ((x.length:Int)<=12) then
 (au (Jb (x.getD s.2.toNat ([],[],0,0))) fun y=>
 (if (y=true) then
 (Sum.inr (Sum.inl ())) else
 (Sum.inl ((aj (s.1+((x.getD s.2.toNat ([],[],0,0)).2.1.length:Int))),(aj (s.2+1)))))) else
 (Sum.inr (Sum.inr (s.1)))) else
 (Sum.inr (Sum.inr (s.1))))
def jS (x:(List (List Int×List I6×I2))) (s:I2):Prop:=
 ((s.2<(x.length:Int))->
 (((x.length:Int)<=12)->
 (((0<=s.2)/\ (s.2<(x.length:Int)))/\
 ((s.2.toNat<x.length)/\
 ((s.2.toNat<x.length)/\
 (aM (Jb (x.getD s.2.toNat ([],[],0,0))) fun y=>
 (¬(y=true)->
 (((0<=s.2)/\ (s.2<(x.length:Int)))/\
 ((s.2.toNat<x.length)/\
 ((s.2.toNat<x.length)/\
 (s.2.toNat<x.length)))))))))))
def Cq (x:(List (List Int×List I6×I2))) (s:I2):Tr (I2⊕(Unit⊕Int)) true:=
 (.i10 (s.2<(nL x))
 (.i10 ((nL x)<=12)
 (.lA s.2 x
 (.fn0 BI (gT x s.2 ([],[],aY)) trivial fun y=>
 (.n9 y
 (.ret (.inr (Sum.inl ())))
 (.zx s.2 x
 (.ret (.inl ((aj (s.1+(nL (gT x s.2 ([],[],aY)).2.1))),(w1 s.2))))))))
 (.ret (.inr (Sum.inr (s.1)))))
 (.ret (.inr (Sum.inr (s.1)))))
def Jc (x:(List (List Int×List I6×I2))):Bool:=
 (au (run (fD x) (0,0)) fun r=>
 (Sum.elim (fun a=>
 true) (fun b=>
 (if ((x.length:Int)>12) then
 true else
 (decide (b>30)))) r))
def yW (x:(List (List Int×List I6×I2))):Prop:=
 (Term (fD x) (jS x) (0,0))
def VB (x:(List (List Int×List I6×I2))):Tr Bool true:=
 (aW.lp (Jd x) (Cq x) aY fun r=>
 (.Bq r (fun a=>
 (.ret true)) (fun b=>
 (.tB ((nL x)>12)
 (.ret true)
 (.ret (decide (b>30)))))))
abbrev BJ:fg:=⟨(.one (Ty.sl (Ty.prod (Ty.sl yi) (Ty.prod (Ty.sl bZ) aH)))),(.one Ty.bool),yW,Jc⟩
theorem RI:ak Tryz.prog 24 (aq BJ):=ak.tr BJ VB (fn:=Tryz.f24) aD sQ mixed (by kernel_rfl) (aA.nil _ _) (fun x=>(ay.tr aD (af.eO sQ (aA.nil _ _)) mixed 0 (Jd x) (Cq x) ay.nil (by kernel_rfl) fun g s Q=>(by kernel_rfl))) (fun x=>(by kernel_rfl)) fun x Q=>(by kernel_rfl)
def KJ:List (Nat×Ev.Spec):=(24,aq BJ)::KI
theorem AO:af Tryz.prog KJ:=af.add (fn:=Tryz.f24) (by kernel_rfl) RI sQ
def Fl (x:((List I3×List I2×List I3×List I9)×Int×Int×Int×List (List Int×List I6×I2)×List (Int×I3))):Bool:=
 (au (NY (x.1,[])) fun y=>
 (if (y=true) then
 (au (Jc x.2.2.2.2.1) fun bq=>
 (if ((!bq)=true) then
 (if ((x.2.2.2.2.2.length:Int)<=30) then
 (if (x.2.1<=24) then
 (decide (x.2.2.1<=24)) else
 false) else
 false) else
 false)) else
 false))
def tn (x:((List I3×List I2×List I3×List I9)×Int×Int×Int×List (List Int×List I6×I2)×List (Int×I3))):Prop:=
 ((zi (x.1,[]))/\
 aM (NY (x.1,[])) fun y=>
 ((y=true)->
 (yW x.2.2.2.2.1)))
def VW (x:((List I3×List I2×List I3×List I9)×Int×Int×Int×List (List Int×List I6×I2)×List (Int×I3))):Tr Bool true:=
 (.fn BN (x.1,[]) fun y=>
 (.Es y
 (.fn BJ x.2.2.2.2.1 fun bq=>
 (.jM (!bq)
 (.tB ((nL x.2.2.2.2.2)<=30)
 (.tB (x.2.1<=24)
 (.ret (decide (x.2.2.1<=24)))
 (.ret false))
 (.ret false))
 (.ret false)))
 (.ret false)))
abbrev BO:fg:=⟨(.pair (.agg (Ty.prod (Ty.sl cj) (Ty.prod (Ty.sl aH) (Ty.prod (Ty.sl cj) (Ty.sl kB))))) (.agg (Ty.prod yi (Ty.prod yi (Ty.prod yi (Ty.prod (Ty.sl (Ty.prod (Ty.sl yi) (Ty.prod (Ty.sl bZ) aH))) (Ty.sl (Ty.prod yi cj)))))))),(.one Ty.bool),tn,Fl⟩
theorem Ss:ak Tryz.prog 11 (aq BO):=ak.tr BO VW (fn:=Tryz.f11) aD AO mixed (by kernel_rfl) (aA.nil _ _) (fun x=>ay.nil) (fun x=>(by kernel_rfl)) fun x Q=>(by kernel_rfl)
def KO:List (Nat×Ev.Spec):=(11,aq BO)::KJ
theorem sV:af Tryz.prog KO:=af.add (fn:=Tryz.f11) (by kernel_rfl) Ss AO
def MH:Lq Tryz.prog:=⟨_,(aA.walk aD sV mixed 20 (fn:=Tryz.f20) (by kernel_rfl) (aA.nil _ _) fun ys hy=>ay.nil)⟩
def xk (x:Bool):Bool:=
 (au (level (3,[10,(-1),20,5,5,5],[((0,0),2,0),((0,0),1,0)])) fun y=>
 (au (level (3,[10,(-1)],[((0,0),2,0),((0,0),1,0)])) fun bq=>
 (au (along ((0,0),(9,(-9)),4)) fun y_2=>
 (au (uB (([],[],[],[]),0,0,0,[],[])) fun bJ=>
 (au (K6 ([],[],[],[])) fun bn=>
 (if ((!bn)=true) then
 (if ((y.2==0)=true) then
 (au (Dz (y.1,[15,(-1),15,5,5,5])) fun bz=>
 (if (bz=true) then
 (if ((bq.2==1)=true) then
 (if ((y_2.2==0)=true) then
 (if (((y_2.1.1==4)&&((y_2.1.2==(-5))&&true))=true) then
 (if ((bJ.2==1)=true) then
 true else
 false) else
 false) else
 false) else
 false) else
 false)) else
 false) else
 (if ((y.2==0)=true) then
 (au (Dz (y.1,[15,(-1),15,5,5,5])) fun bz=>
 (if (bz=true) then
 (if ((bq.2==1)=true) then
 (if ((y_2.2==0)=true) then
 (if (((y_2.1.1==4)&&((y_2.1.2==(-5))&&true))=true) then
 (if ((bJ.2==1)=true) then
 true else
 false) else
 false) else
 false) else
 false) else
 false)) else
 false)))))))
def lR (x:Bool):Prop:=
 ((kI (3,[10,(-1),20,5,5,5],[((0,0),2,0),((0,0),1,0)]))/\
 aM (level (3,[10,(-1),20,5,5,5],[((0,0),2,0),((0,0),1,0)])) fun y=>
 ((kI (3,[10,(-1)],[((0,0),2,0),((0,0),1,0)]))/\
 aM (level (3,[10,(-1)],[((0,0),2,0),((0,0),1,0)])) fun bq=>
 ((bt ((0,0),(9,(-9)),4))/\
 aM (along ((0,0),(9,(-9)),4)) fun y_2=>
 ((mP (([],[],[],[]),0,0,0,[],[]))/\
 aM (uB (([],[],[],[]),0,0,0,[],[])) fun bJ=>
 ((sZ ([],[],[],[]))/\
 aM (K6 ([],[],[],[])) fun bn=>
 ((((!bn)=true)->
 (((y.2==0)=true)->
 (nH (y.1,[15,(-1),15,5,5,5]))))/\
 (¬((!bn)=true)->
 (((y.2==0)=true)->
 (nH (y.1,[15,(-1),15,5,5,5]))))))))))
def Qy (x:Bool):Tr Bool true:=
 (.fn xh (3,[10,(-1),20,5,5,5],[(aY,2,z0),(aY,z1,z0)]) fun y=>
 (.fn xh (3,[10,(-1)],[(aY,2,z0),(aY,z1,z0)]) fun bq=>
 (.fn dD (aY,(9,(-9)),4) fun y_2=>
 (.fn xS (([],[],[],[]),z0,z0,z0,[],[]) fun bJ=>
 (.we
 (.fn Ed ([],[],[],[]) fun bn=>
 (.b11 (!bn)
 (.pn 0 7
 (.Es (y.2==z0)
 (.fn sL (y.1,[15,(-1),15,5,5,5]) fun bz=>
 (.jM bz
 (.jM (bq.2==z1)
 (.jM (y_2.2==z0)
 (.jM ((y_2.1.1==4)&&((y_2.1.2==(-5))&&true))
 (.jM (bJ.2==z1)
 (.ret true)
 (.ret false))
 (.ret false))
 (.ret false))
 (.ret false))
 (.ret false)))
 (.ret false)))
 (.pn 0 7
 (.Es (y.2==z0)
 (.fn sL (y.1,[15,(-1),15,5,5,5]) fun bz=>
 (.jM bz
 (.jM (bq.2==z1)
 (.jM (y_2.2==z0)
 (.jM ((y_2.1.1==4)&&((y_2.1.2==(-5))&&true))
 (.jM (bJ.2==z1)
 (.ret true)
 (.ret false))
 (.ret false))
 (.ret false))
 (.ret false))
 (.ret false)))
 (.ret false))))))))))
abbrev pN:fg:=⟨.none,(.one Ty.bool),lR,xk⟩
theorem MI:ak Tryz.prog 8 (aq pN):=ak.tr pN Qy (fn:=Tryz.f8) aD sV mixed (by kernel_rfl) MH.ok (fun x=>ay.nil) (fun x=>(by kernel_rfl)) fun x Q=>(by kernel_rfl)
def Nq:List (Nat×Ev.Spec):=(8,aq pN)::KO
theorem pD:af Tryz.prog Nq:=af.add (fn:=Tryz.f8) (by kernel_rfl) MI sV
def uy (x:((List I3×List I2×List I3×List I9)×Int×Int×Int×List (List Int×List I6×I2)×List (Int×I3))):aW:=⟨[],⟨dy 207 0 [(3,.v (.one (.ptr 0 0))),(5,.v (.one (.full 3))),(8,.v (.one (.full 4))),(10,.v (.one (.full 5))),(12,.v (.one (.i .i64))),(17,.v (.one (.i .i64)))],[.cells [.i .i64,.i .i64,.i .i64,.full 1,.full 2] 45,.row (Ty.prod (Ty.sl yi) (Ty.prod (Ty.sl bZ) aH)) 0,.row (Ty.prod yi cj) 0,.row (Ty.prod aH aH) 2,.row yi 2,.row yi 2],0,none,[],[2,3,4,5,6],[7,8,9,0,1],[(.l (Ty.prod aH aH)),(.l yi),(.l yi),.i,.i],[.i x.2.1,.i x.2.2.1,.i x.2.2.2.1,.l (Ty.prod (Ty.sl yi) (Ty.prod (Ty.sl bZ) aH)) x.2.2.2.2.1,.l (Ty.prod yi cj) x.2.2.2.2.2]⟩,[⟨.ret,.ret,⟨dy 207 0 [(4,.v (.one (.b)))],[],0,none,[],[0],[],[],[.b false]⟩⟩,⟨(.exit 2),.normal,⟨dy 207 0 [(3,.v (.one (.ptr 0 0))),(5,.v (.one (.full 3))),(8,.v (.one (.full 4))),(10,.v (.one (.full 5))),(12,.v (.one (.i .i64)))],[.cells [.i .i64,.i .i64,.i .i64,.full 1,.full 2] 45,.row (Ty.prod (Ty.sl yi) (Ty.prod (Ty.sl bZ) aH)) 0,.row (Ty.prod yi cj) 0,.row (Ty.prod aH aH) 2,.row yi 2,.row yi 2],0,none,[],[1,2,3,4,5],[6,7,8,0],[(.l (Ty.prod aH aH)),(.l yi),(.l yi),.i],[.i x.2.1,.i x.2.2.1,.i x.2.2.2.1,.l (Ty.prod (Ty.sl yi) (Ty.prod (Ty.sl bZ) aH)) x.2.2.2.2.1,.l (Ty.prod yi cj) x.2.2.2.2.2]⟩⟩]⟩
def eU (x:((List I3×List I2×List I3×List I9)×Int×Int×Int×List (List Int×List I6×I2)×List (Int×I3))) (s:(List (I2×I2)×List Int×List Int×I2)):(List (I2×I2)×List Int×List Int×I2)⊕(Unit⊕(List (I2×I2)×List Int×List Int×Int)):=
 (if (s.2.2.2.2<s.2.2.2.1) then
 (if (((((s.1.getD s.2.2.2.2.toNat ((0,0),0,0)).1.1==(s.1.getD s.2.2.2.1.toNat ((0,0),0,0)).1.1)&&(((s.1.getD s.2.2.2.2.toNat ((0,0),0,0)).1.2==(s.1.getD s.2.2.2.1.toNat ((0,0),0,0)).1.2)&&true))&&((((s.1.getD s.2.2.2.2.toNat ((0,0),0,0)).2.1==(s.1.getD s.2.2.2.1.toNat ((0,0),0,0)).2.1)&&(((s.1.getD s.2.2.2.2.toNat ((0,0),0,0)).2.2==(s.1.getD s.2.2.2.1.toNat ((0,0),0,0)).2.2)&&true))&&true))=true) then
 (Sum.inr (Sum.inl ())) else
 (Sum.inl (s.1,s.2.1,s.2.2.1,s.2.2.2.1,(aj (s.2.2.2.2+1))))) else
 (Sum.inr (Sum.inr ((s.1,s.2.1,s.2.2.1,s.2.2.2.1)))))
def ic (x:((List I3×List I2×List I3×List I9)×Int×Int×Int×List (List Int×List I6×I2)×List (Int×I3))) (s:(List (I2×I2)×List Int×List Int×I2)):Prop:=
 ((s.2.2.2.2<s.2.2.2.1)->
 (((0<=s.2.2.2.2)/\ (s.2.2.2.2<(s.1.length:Int)))/\
 ((s.2.2.2.2.toNat<s.1.length)/\
 ((s.2.2.2.2.toNat<s.1.length)/\
 (((0<=s.2.2.2.1)/\ (s.2.2.2.1<(s.1.length:Int)))/\
 ((s.2.2.2.1.toNat<s.1.length)/\
 (s.2.2.2.1.toNat<s.1.length)))))))
def qZ (x:((List I3×List I2×List I3×List I9)×Int×Int×Int×List (List Int×List I6×I2)×List (Int×I3))) (s:(List (I2×I2)×List Int×List Int×I2)):Tr ((List (I2×I2)×List Int×List Int×I2)⊕(Unit⊕(List (I2×I2)×List Int×List Int×Int))) true:=
 (.i10 (s.2.2.2.2<s.2.2.2.1)
 (.lA s.2.2.2.2 s.1
 (.lA s.2.2.2.1 s.1
 (.jM ((((gT s.1 s.2.2.2.2 (aY,aY)).1.1==(gT s.1 s.2.2.2.1 (aY,aY)).1.1)&&(((gT s.1 s.2.2.2.2 (aY,aY)).1.2==(gT s.1 s.2.2.2.1 (aY,aY)).1.2)&&true))&&((((gT s.1 s.2.2.2.2 (aY,aY)).2.1==(gT s.1 s.2.2.2.1 (aY,aY)).2.1)&&(((gT s.1 s.2.2.2.2 (aY,aY)).2.2==(gT s.1 s.2.2.2.1 (aY,aY)).2.2)&&true))&&true))
 (.ret (.inr (Sum.inl ())))
 (.ret (.inl (s.1,s.2.1,s.2.2.1,s.2.2.2.1,(w1 s.2.2.2.2)))))))
 (.ret (.inr (Sum.inr ((s.1,s.2.1,s.2.2.1,s.2.2.2.1))))))
def ux (x:((List I3×List I2×List I3×List I9)×Int×Int×Int×List (List Int×List I6×I2)×List (Int×I3))):aW:=⟨[],⟨dy 207 0 [(3,.v (.one (.ptr 0 0))),(5,.v (.one (.full 3))),(8,.v (.one (.full 4))),(10,.v (.one (.full 5))),(12,.v (.one (.i .i64)))],[.cells [.i .i64,.i .i64,.i .i64,.full 1,.full 2] 45,.row (Ty.prod (Ty.sl yi) (Ty.prod (Ty.sl bZ) aH)) 0,.row (Ty.prod yi cj) 0,.row (Ty.prod aH aH) 2,.row yi 2,.row yi 2],0,none,[],[1,2,3,4,5],[6,7,8,0],[(.l (Ty.prod aH aH)),(.l yi),(.l yi),.i],[.i x.2.1,.i x.2.2.1,.i x.2.2.2.1,.l (Ty.prod (Ty.sl yi) (Ty.prod (Ty.sl bZ) aH)) x.2.2.2.2.1,.l (Ty.prod yi cj) x.2.2.2.2.2]⟩,[⟨.ret,.ret,⟨dy 207 0 [(4,.v (.one (.b)))],[],0,none,[],[0],[],[],[.b false]⟩⟩,⟨(.exit 0),.normal,⟨dy 207 0 [],[],0,none,[],[],[],[],[]⟩⟩]⟩
def dN (x:((List I3×List I2×List I3×List I9)×Int×Int×Int×List (List Int×List I6×I2)×List (Int×I3))) (s:(List (I2×I2)×List Int×List Int×Int)):(List (I2×I2)×List Int×List Int×Int)⊕(Unit⊕Unit):=
 (if (s.2.2.2<(s.1.length:Int)) then
 (if ((s.1.getD s.2.2.2.toNat ((0,0),0,0)).1.1<0) then
 (Sum.inr (Sum.inl ())) else
 (if ((s.1.getD s.2.2.2.toNat ((0,0),0,0)).1.1>=x.2.1) then
 (Sum.inr (Sum.inl ())) else
 (if ((s.1.getD s.2.2.2.toNat ((0,0),0,0)).1.2<0) then
 (Sum.inr (Sum.inl ())) else
 (if ((s.1.getD s.2.2.2.toNat ((0,0),0,0)).1.2>=x.2.2.1) then
 (Sum.inr (Sum.inl ())) else
 (if ((s.1.getD s.2.2.2.toNat ((0,0),0,0)).2.1<0) then
 (Sum.inr (Sum.inl ())) else
 (if ((s.1.getD s.2.2.2.toNat ((0,0),0,0)).2.1>=x.2.1) then
 (Sum.inr (Sum.inl ())) else
 (if ((s.1.getD s.2.2.2.toNat ((0,0),0,0)).2.2<0) then
 (Sum.inr (Sum.inl ())) else
 (if ((s.1.getD s.2.2.2.toNat ((0,0),0,0)).2.2>=x.2.2.1) then
 (Sum.inr (Sum.inl ())) else
 (if ((((s.1.getD s.2.2.2.toNat ((0,0),0,0)).1.1==(s.1.getD s.2.2.2.toNat ((0,0),0,0)).2.1)&&(((s.1.getD s.2.2.2.toNat ((0,0),0,0)).1.2==(s.1.getD s.2.2.2.toNat ((0,0),0,0)).2.2)&&true))=true) then
 (Sum.inr (Sum.inl ())) else
 (if ((s.2.2.1.getD (Int.toNat (aj ((aj ((s.1.getD s.2.2.2.toNat ((0,0),0,0)).1.2*x.2.1))+(s.1.getD s.2.2.2.toNat ((0,0),0,0)).1.1))) 0)<0) then
 (Sum.inr (Sum.inl ())) else
 (if ((s.2.2.1.getD (Int.toNat (aj ((aj ((s.1.getD s.2.2.2.toNat ((0,0),0,0)).2.2*x.2.1))+(s.1.getD s.2.2.2.toNat ((0,0),0,0)).2.1))) 0)<0) then
 (Sum.inr (Sum.inl ())) else
 (if ((s.2.2.1.getD (Int.toNat (aj ((aj ((s.1.getD s.2.2.2.toNat ((0,0),0,0)).1.2*x.2.1))+(s.1.getD s.2.2.2.toNat ((0,0),0,0)).1.1))) 0)>=(s.2.1.length:Int)) then
 (Sum.inr (Sum.inl ())) else
 (if ((s.2.2.1.getD (Int.toNat (aj ((aj ((s.1.getD s.2.2.2.toNat ((0,0),0,0)).2.2*x.2.1))+(s.1.getD s.2.2.2.toNat ((0,0),0,0)).2.1))) 0)>=(s.2.1.length:Int)) then
 (Sum.inr (Sum.inl ())) else
 (if (((s.2.1.getD (Int.toNat (s.2.2.1.getD (Int.toNat (aj ((aj ((s.1.getD s.2.2.2.toNat ((0,0),0,0)).1.2*x.2.1))+(s.1.getD s.2.2.2.toNat ((0,0),0,0)).1.1))) 0)) 0)==(s.2.1.getD (Int.toNat (s.2.2.1.getD (Int.toNat (aj ((aj ((s.1.getD s.2.2.2.toNat ((0,0),0,0)).2.2*x.2.1))+(s.1.getD s.2.2.2.toNat ((0,0),0,0)).2.1))) 0)) 0))=true) then
 (Sum.inr (Sum.inl ())) else
 (au (run (eU x) (s.1,s.2.1,s.2.2.1,s.2.2.2,0)) fun r=>
 (Sum.elim (fun a=>
 (Sum.inr (Sum.inl ()))) (fun b=>
 (Sum.inl (b.1,b.2.1,b.2.2.1,(aj (b.2.2.2+1))))) r)))))))))))))))) else
 (Sum.inr (Sum.inr (()))))
def ia (x:((List I3×List I2×List I3×List I9)×Int×Int×Int×List (List Int×List I6×I2)×List (Int×I3))) (s:(List (I2×I2)×List Int×List Int×Int)):Prop:=
 ((s.2.2.2<(s.1.length:Int))->
 (((0<=s.2.2.2)/\ (s.2.2.2<(s.1.length:Int)))/\
 ((s.2.2.2.toNat<s.1.length)/\
 ((s.2.2.2.toNat<s.1.length)/\
 ((s.2.2.2.toNat<s.1.length)/\
 (((0<=s.2.2.2)/\ (s.2.2.2<(s.1.length:Int)))/\
 ((s.2.2.2.toNat<s.1.length)/\
 ((s.2.2.2.toNat<s.1.length)/\
 ((s.2.2.2.toNat<s.1.length)/\
 (¬((s.1.getD s.2.2.2.toNat ((0,0),0,0)).1.1<0)->
 (¬((s.1.getD s.2.2.2.toNat ((0,0),0,0)).1.1>=x.2.1)->
 (¬((s.1.getD s.2.2.2.toNat ((0,0),0,0)).1.2<0)->
 (¬((s.1.getD s.2.2.2.toNat ((0,0),0,0)).1.2>=x.2.2.1)->
 (¬((s.1.getD s.2.2.2.toNat ((0,0),0,0)).2.1<0)->
 (¬((s.1.getD s.2.2.2.toNat ((0,0),0,0)).2.1>=x.2.1)->
 (¬((s.1.getD s.2.2.2.toNat ((0,0),0,0)).2.2<0)->
 (¬((s.1.getD s.2.2.2.toNat ((0,0),0,0)).2.2>=x.2.2.1)->
 (¬((((s.1.getD s.2.2.2.toNat ((0,0),0,0)).1.1==(s.1.getD s.2.2.2.toNat ((0,0),0,0)).2.1)&&(((s.1.getD s.2.2.2.toNat ((0,0),0,0)).1.2==(s.1.getD s.2.2.2.toNat ((0,0),0,0)).2.2)&&true))=true)->
 (((0<=(aj ((aj ((s.1.getD s.2.2.2.toNat ((0,0),0,0)).1.2*x.2.1))+(s.1.getD s.2.2.2.toNat ((0,0),0,0)).1.1)))/\ ((aj ((aj ((s.1.getD s.2.2.2.toNat ((0,0),0,0)).1.2*x.2.1))+(s.1.getD s.2.2.2.toNat ((0,0),0,0)).1.1))<(s.2.2.1.length:Int)))/\
 (((Int.toNat (aj ((aj ((s.1.getD s.2.2.2.toNat ((0,0),0,0)).1.2*x.2.1))+(s.1.getD s.2.2.2.toNat ((0,0),0,0)).1.1)))<s.2.2.1.length)/\
 (((Int.toNat (aj ((aj ((s.1.getD s.2.2.2.toNat ((0,0),0,0)).1.2*x.2.1))+(s.1.getD s.2.2.2.toNat ((0,0),0,0)).1.1)))<s.2.2.1.length)/\
 (((0<=(aj ((aj ((s.1.getD s.2.2.2.toNat ((0,0),0,0)).2.2*x.2.1))+(s.1.getD s.2.2.2.toNat ((0,0),0,0)).2.1)))/\ ((aj ((aj ((s.1.getD s.2.2.2.toNat ((0,0),0,0)).2.2*x.2.1))+(s.1.getD s.2.2.2.toNat ((0,0),0,0)).2.1))<(s.2.2.1.length:Int)))/\
 (((Int.toNat (aj ((aj ((s.1.getD s.2.2.2.toNat ((0,0),0,0)).2.2*x.2.1))+(s.1.getD s.2.2.2.toNat ((0,0),0,0)).2.1)))<s.2.2.1.length)/\
 (((Int.toNat (aj ((aj ((s.1.getD s.2.2.2.toNat ((0,0),0,0)).2.2*x.2.1))+(s.1.getD s.2.2.2.toNat ((0,0),0,0)).2.1)))<s.2.2.1.length)/\
 (¬((s.2.2.1.getD (Int.toNat (aj ((aj ((s.1.getD s.2.2.2.toNat ((0,0),0,0)).1.2*x.2.1))+(s.1.getD s.2.2.2.toNat ((0,0),0,0)).1.1))) 0)<0)->
 (¬((s.2.2.1.getD (Int.toNat (aj ((aj ((s.1.getD s.2.2.2.toNat ((0,0),0,0)).2.2*x.2.1))+(s.1.getD s.2.2.2.toNat ((0,0),0,0)).2.1))) 0)<0)->
 (¬((s.2.2.1.getD (Int.toNat (aj ((aj ((s.1.getD s.2.2.2.toNat ((0,0),0,0)).1.2*x.2.1))+(s.1.getD s.2.2.2.toNat ((0,0),0,0)).1.1))) 0)>=(s.2.1.length:Int))->
 (¬((s.2.2.1.getD (Int.toNat (aj ((aj ((s.1.getD s.2.2.2.toNat ((0,0),0,0)).2.2*x.2.1))+(s.1.getD s.2.2.2.toNat ((0,0),0,0)).2.1))) 0)>=(s.2.1.length:Int))->
 (((0<=(s.2.2.1.getD (Int.toNat (aj ((aj ((s.1.getD s.2.2.2.toNat ((0,0),0,0)).1.2*x.2.1))+(s.1.getD s.2.2.2.toNat ((0,0),0,0)).1.1))) 0))/\ ((s.2.2.1.getD (Int.toNat (aj ((aj ((s.1.getD s.2.2.2.toNat ((0,0),0,0)).1.2*x.2.1))+(s.1.getD s.2.2.2.toNat ((0,0),0,0)).1.1))) 0)<(s.2.1.length:Int)))/\
 (((Int.toNat (s.2.2.1.getD (Int.toNat (aj ((aj ((s.1.getD s.2.2.2.toNat ((0,0),0,0)).1.2*x.2.1))+(s.1.getD s.2.2.2.toNat ((0,0),0,0)).1.1))) 0))<s.2.1.length)/\
 (((Int.toNat (s.2.2.1.getD (Int.toNat (aj ((aj ((s.1.getD s.2.2.2.toNat ((0,0),0,0)).1.2*x.2.1))+(s.1.getD s.2.2.2.toNat ((0,0),0,0)).1.1))) 0))<s.2.1.length)/\
 (((0<=(s.2.2.1.getD (Int.toNat (aj ((aj ((s.1.getD s.2.2.2.toNat ((0,0),0,0)).2.2*x.2.1))+(s.1.getD s.2.2.2.toNat ((0,0),0,0)).2.1))) 0))/\ ((s.2.2.1.getD (Int.toNat (aj ((aj ((s.1.getD s.2.2.2.toNat ((0,0),0,0)).2.2*x.2.1))+(s.1.getD s.2.2.2.toNat ((0,0),0,0)).2.1))) 0)<(s.2.1.length:Int)))/\
 (((Int.toNat (s.2.2.1.getD (Int.toNat (aj ((aj ((s.1.getD s.2.2.2.toNat ((0,0),0,0)).2.2*x.2.1))+(s.1.getD s.2.2.2.toNat ((0,0),0,0)).2.1))) 0))<s.2.1.length)/\
 (((Int.toNat (s.2.2.1.getD (Int.toNat (aj ((aj ((s.1.getD s.2.2.2.toNat ((0,0),0,0)).2.2*x.2.1))+(s.1.getD s.2.2.2.toNat ((0,0),0,0)).2.1))) 0))<s.2.1.length)/\
 (¬(((s.2.1.getD (Int.toNat (s.2.2.1.getD (Int.toNat (aj ((aj ((s.1.getD s.2.2.2.toNat ((0,0),0,0)).1.2*x.2.1))+(s.1.getD s.2.2.2.toNat ((0,0),0,0)).1.1))) 0)) 0)==(s.2.1.getD (Int.toNat (s.2.2.1.getD (Int.toNat (aj ((aj ((s.1.getD s.2.2.2.toNat ((0,0),0,0)).2.2*x.2.1))+(s.1.getD s.2.2.2.toNat ((0,0),0,0)).2.1))) 0)) 0))=true)->
 (Term (eU x) (ic x) (s.1,s.2.1,s.2.2.1,s.2.2.2,0)))))))))))))))))))))))))))))))))))))
def qY (x:((List I3×List I2×List I3×List I9)×Int×Int×Int×List (List Int×List I6×I2)×List (Int×I3))) (s:(List (I2×I2)×List Int×List Int×Int)):Tr ((List (I2×I2)×List Int×List Int×Int)⊕(Unit⊕Unit)) true:=
 (.i10 (s.2.2.2<(nL s.1))
 (.zx s.2.2.2 s.1
 (.zx s.2.2.2 s.1
 (.uu ((gT s.1 s.2.2.2 (aY,aY)).1.1<z0)
 (.ret (.inr (Sum.inl ())))
 (.uu ((gT s.1 s.2.2.2 (aY,aY)).1.1>=x.2.1)
 (.ret (.inr (Sum.inl ())))
 (.uu ((gT s.1 s.2.2.2 (aY,aY)).1.2<z0)
 (.ret (.inr (Sum.inl ())))
 (.uu ((gT s.1 s.2.2.2 (aY,aY)).1.2>=x.2.2.1)
 (.ret (.inr (Sum.inl ())))
 (.uu ((gT s.1 s.2.2.2 (aY,aY)).2.1<z0)
 (.ret (.inr (Sum.inl ())))
 (.uu ((gT s.1 s.2.2.2 (aY,aY)).2.1>=x.2.1)
 (.ret (.inr (Sum.inl ())))
 (.uu ((gT s.1 s.2.2.2 (aY,aY)).2.2<z0)
 (.ret (.inr (Sum.inl ())))
 (.uu ((gT s.1 s.2.2.2 (aY,aY)).2.2>=x.2.2.1)
 (.ret (.inr (Sum.inl ())))
 (.n9 (((gT s.1 s.2.2.2 (aY,aY)).1.1==(gT s.1 s.2.2.2 (aY,aY)).2.1)&&(((gT s.1 s.2.2.2 (aY,aY)).1.2==(gT s.1 s.2.2.2 (aY,aY)).2.2)&&true))
 (.ret (.inr (Sum.inl ())))
 (.lA (aj ((aj ((gT s.1 s.2.2.2 (aY,aY)).1.2*x.2.1))+(gT s.1 s.2.2.2 (aY,aY)).1.1)) s.2.2.1
 (.lA (aj ((aj ((gT s.1 s.2.2.2 (aY,aY)).2.2*x.2.1))+(gT s.1 s.2.2.2 (aY,aY)).2.1)) s.2.2.1
 (.uu ((gI s.2.2.1 (aj ((aj ((gT s.1 s.2.2.2 (aY,aY)).1.2*x.2.1))+(gT s.1 s.2.2.2 (aY,aY)).1.1)))<z0)
 (.ret (.inr (Sum.inl ())))
 (.uu ((gI s.2.2.1 (aj ((aj ((gT s.1 s.2.2.2 (aY,aY)).2.2*x.2.1))+(gT s.1 s.2.2.2 (aY,aY)).2.1)))<z0)
 (.ret (.inr (Sum.inl ())))
 (.uu ((gI s.2.2.1 (aj ((aj ((gT s.1 s.2.2.2 (aY,aY)).1.2*x.2.1))+(gT s.1 s.2.2.2 (aY,aY)).1.1)))>=(nL s.2.1))
 (.ret (.inr (Sum.inl ())))
 (.uu ((gI s.2.2.1 (aj ((aj ((gT s.1 s.2.2.2 (aY,aY)).2.2*x.2.1))+(gT s.1 s.2.2.2 (aY,aY)).2.1)))>=(nL s.2.1))
 (.ret (.inr (Sum.inl ())))
 (.lA (gI s.2.2.1 (aj ((aj ((gT s.1 s.2.2.2 (aY,aY)).1.2*x.2.1))+(gT s.1 s.2.2.2 (aY,aY)).1.1))) s.2.1
 (.lA (gI s.2.2.1 (aj ((aj ((gT s.1 s.2.2.2 (aY,aY)).2.2*x.2.1))+(gT s.1 s.2.2.2 (aY,aY)).2.1))) s.2.1
 (.n9 ((gI s.2.1 (gI s.2.2.1 (aj ((aj ((gT s.1 s.2.2.2 (aY,aY)).1.2*x.2.1))+(gT s.1 s.2.2.2 (aY,aY)).1.1))))==(gI s.2.1 (gI s.2.2.1 (aj ((aj ((gT s.1 s.2.2.2 (aY,aY)).2.2*x.2.1))+(gT s.1 s.2.2.2 (aY,aY)).2.1)))))
 (.ret (.inr (Sum.inl ())))
 (aW.lp (uy x) (qZ x) (s.1,s.2.1,s.2.2.1,s.2.2.2,z0) fun r=>
 (.Bq r (fun a=>
 (.ret (.inr (Sum.inl ())))) (fun b=>
 (.ret (.inl (b.1,b.2.1,b.2.2.1,(w1 b.2.2.2)))))))))))))))))))))))))))
 (.ret (.inr (Sum.inr (())))))
def vk (x:((List I3×List I2×List I3×List I9)×Int×Int×Int×List (List Int×List I6×I2)×List (Int×I3))):Bool:=
 (au (Fl x) fun y=>
 (if ((!y)=true) then
 true else
 (au (uB x) fun bq=>
 (if ((bq.2 !=0)=true) then
 (au (xk false) fun y_2=>
 (if (y_2=true) then
 ((bq.1.length:Int)==0) else
 false)) else
 (au (allM x.2) fun y_2=>
 (au (j9 (x.2.1,x.2.2.1,y_2.1)) fun bJ=>
 (if ((y_2.2.2 !=0)=true) then
 false else
 (if ((bJ.2 !=0)=true) then
 false else
 (if (((bJ.1.length:Int) !=(aj (x.2.1*x.2.2.1)))=true) then
 false else
 (if (((y_2.2.1.length:Int) !=(y_2.1.length:Int))=true) then
 false else
 (au (run (dN x) (bq.1,y_2.2.1,bJ.1,0)) fun r=>
 (Sum.elim (fun a=>
 false) (fun b=>
 (au (xk false) fun bn=>
 bn)) r))))))))))))
def nB (x:((List I3×List I2×List I3×List I9)×Int×Int×Int×List (List Int×List I6×I2)×List (Int×I3))):Prop:=
 ((tn x)/\
 aM (Fl x) fun y=>
 (¬((!y)=true)->
 ((mP x)/\
 aM (uB x) fun bq=>
 ((((bq.2 !=0)=true)->
 (lR false))/\
 (¬((bq.2 !=0)=true)->
 ((rH x.2)/\
 aM (allM x.2) fun y_2=>
 ((iO (x.2.1,x.2.2.1,y_2.1))/\
 aM (j9 (x.2.1,x.2.2.1,y_2.1)) fun bJ=>
 (¬((y_2.2.2 !=0)=true)->
 (¬((bJ.2 !=0)=true)->
 (¬(((bJ.1.length:Int) !=(aj (x.2.1*x.2.2.1)))=true)->
 (¬(((y_2.2.1.length:Int) !=(y_2.1.length:Int))=true)->
 (Term (dN x) (ia x) (bq.1,y_2.2.1,bJ.1,0)/\
 aM (run (dN x) (bq.1,y_2.2.1,bJ.1,0)) fun r=>
 (cS r (fun a=>
 True) (fun b=>
 (lR false)))))))))))))))
def HO (x:((List I3×List I2×List I3×List I9)×Int×Int×Int×List (List Int×List I6×I2)×List (Int×I3))):Tr Bool true:=
 (.fn BO x fun y=>
 (.n9 (!y)
 (.ret true)
 (.fn xS x fun bq=>
 (.b11 (bq.2 !=z0)
 (.fn pN false fun y_2=>
 (.jM y_2
 (.ret ((nL bq.1)==z0))
 (.ret false)))
 (.fn Ci x.2 fun y_2=>
 (.fn zK (x.2.1,x.2.2.1,y_2.1) fun bJ=>
 (.n9 (y_2.2.2 !=z0)
 (.ret false)
 (.n9 (bJ.2 !=z0)
 (.ret false)
 (.n9 ((nL bJ.1) !=(aj (x.2.1*x.2.2.1)))
 (.ret false)
 (.n9 ((nL y_2.2.1) !=(nL y_2.1))
 (.ret false)
 (aW.lp (ux x) (qY x) (bq.1,y_2.2.1,bJ.1,z0) fun r=>
 (.s01 r (fun a=>
 (.ret false)) (fun b=>
 (.fn pN false fun bn=>
 (.ret bn)))))))))))))))
abbrev qy:fg:=⟨(.pair (.agg (Ty.prod (Ty.sl cj) (Ty.prod (Ty.sl aH) (Ty.prod (Ty.sl cj) (Ty.sl kB))))) (.agg (Ty.prod yi (Ty.prod yi (Ty.prod yi (Ty.prod (Ty.sl (Ty.prod (Ty.sl yi) (Ty.prod (Ty.sl bZ) aH))) (Ty.sl (Ty.prod yi cj)))))))),(.one Ty.bool),nB,vk⟩
theorem EF:ak Tryz.prog 6 (aq qy):=ak.tr qy HO (fn:=Tryz.f6) aD pD mixed (by kernel_rfl) (aA.nil _ _) (fun x=>(ay.tr aD (af.eO pD (aA.nil _ _)) mixed 0 (ux x) (qY x) (ay.tr aD (af.eO pD (aA.nil _ _)) mixed 2 (uy x) (qZ x) ay.nil (by kernel_rfl) fun g s Q=>(by kernel_rfl)) (by kernel_rfl) fun g s Q=>(by kernel_rfl))) (fun x=>(by kernel_rfl)) fun x Q=>(by kernel_rfl)
end Go.Proofs.YtojielnkfeoccaaGreat
