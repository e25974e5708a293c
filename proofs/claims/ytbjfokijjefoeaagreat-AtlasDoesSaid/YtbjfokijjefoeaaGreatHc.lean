/- Models of the references of layer 18. -/
import Derived.Test.YtbjfokijjefoeaaGreatHb
noncomputable section
set_option linter.unusedSectionVars false
set_option linter.unusedVariables false
set_option linter.unusedSimpArgs false
namespace Go.Proofs.YtbjfokijjefoeaaGreat
open Go Go.Ev Go.Proofs
def qe (x:((List Int×List I6×I2)×List Int×List I6×I2)):Bool:=
 (if ((x.1.2.2.2 !=x.2.2.2.2)=true) then
 (decide (x.1.2.2.2>x.2.2.2.2)) else
 (decide (x.1.2.2.1>=x.2.2.2.1)))
def Nx (_:((List Int×List I6×I2)×List Int×List I6×I2)):Prop:=True
def SC (x:((List Int×List I6×I2)×List Int×List I6×I2)):Tr Bool false:=
 (.nT (x.1.2.2.2 !=x.2.2.2.2)
 (.ret (decide (x.1.2.2.2>x.2.2.2.2)))
 (.ret (decide (x.1.2.2.1>=x.2.2.2.1))))
abbrev ua:cC:=⟨(.pair (.agg (Ty.prod (Ty.sl yi) (Ty.prod (Ty.sl aV) aS))) (.agg (Ty.prod (Ty.sl yi) (Ty.prod (Ty.sl aV) aS)))),(.one Ty.bool),Nx,qe⟩
theorem PJ:ah Tryz.prog 41 (aj ua):=ah.tr ua SC (fn:=Tryz.f41) ay yS mixed (by kernel_rfl) (av.nil _ _) (fun x=>au.nil) (fun x=>(by kernel_rfl)) fun x Q=>(by kernel_rfl)
def EM:List (Nat×Ev.Spec):=(41,aj ua)::IS
theorem mo:ae Tryz.prog EM:=ae.add (fn:=Tryz.f41) (by kernel_rfl) PJ yS
def El (x:(List (List Int×List I6×I2))):aB:=⟨[],⟨bB 49 0 [(0,.v (.one (.full 0))),(3,.v (.one (.full 1))),(4,.v (.one (.i .i64))),(5,.v (.one (.i .i64)))],[.row (Ty.prod (Ty.sl yi) (Ty.prod (Ty.sl aV) aS)) 0,.row yi 2],0,none,[],[2],[3,0,1],[(.l yi),.i,.i],[.l (Ty.prod (Ty.sl yi) (Ty.prod (Ty.sl aV) aS)) x]⟩,[⟨(.exit 2),.normal,⟨bB 49 0 [(0,.v (.one (.full 0))),(3,.v (.one (.full 1))),(4,.v (.one (.i .i64))),(5,.v (.one (.i .i64)))],[.row (Ty.prod (Ty.sl yi) (Ty.prod (Ty.sl aV) aS)) 0,.row yi 2],0,none,[],[2],[3,0,1],[(.l yi),.i,.i],[.l (Ty.prod (Ty.sl yi) (Ty.prod (Ty.sl aV) aS)) x]⟩⟩]⟩
def ek (x:(List (List Int×List I6×I2))) (s:(List Int×I2)):(List Int×I2)⊕(List Int×I2):=
 (if (s.2.2<(s.1.length:Int)) then
 (ai (qe ((x.getD (Int.toNat (s.1.getD s.2.2.toNat 0)) ([],[],0,0)),(x.getD s.2.1.toNat ([],[],0,0)))) fun y=>
 (if (y=true) then
 (Sum.inl (s.1,s.2.1,(az (s.2.2+1)))) else
 (Sum.inr ((s.1,s.2.1,s.2.2))))) else
 (Sum.inr ((s.1,s.2.1,s.2.2))))
def kj (x:(List (List Int×List I6×I2))) (s:(List Int×I2)):Prop:=
 ((s.2.2<(s.1.length:Int))->
 (((0<=s.2.2)/\ (s.2.2<(s.1.length:Int)))/\
 ((s.2.2.toNat<s.1.length)/\
 ((s.2.2.toNat<s.1.length)/\
 (((0<=(s.1.getD s.2.2.toNat 0))/\ ((s.1.getD s.2.2.toNat 0)<(x.length:Int)))/\
 (((Int.toNat (s.1.getD s.2.2.toNat 0))<x.length)/\
 (((Int.toNat (s.1.getD s.2.2.toNat 0))<x.length)/\
 (((0<=s.2.1)/\ (s.2.1<(x.length:Int)))/\
 ((s.2.1.toNat<x.length)/\
 (s.2.1.toNat<x.length))))))))))
def yJ (x:(List (List Int×List I6×I2))) (s:(List Int×I2)):Tr ((List Int×I2)⊕(List Int×I2)) true:=
 (.i10 (s.2.2<(nL s.1))
 (.gK s.2.2 s.1
 (.gK (gI s.1 s.2.2) x
 (.gK s.2.1 x
 (.fn0 ua ((gT x (gI s.1 s.2.2) ([],[],iR)),(gT x s.2.1 ([],[],iR))) trivial fun y=>
 (.nT y
 (.ret (.inl (s.1,s.2.1,(w1 s.2.2))))
 (.ret (.inr ((s.1,s.2.1,s.2.2)))))))))
 (.ret (.inr ((s.1,s.2.1,s.2.2)))))
def Ek (x:(List (List Int×List I6×I2))):aB:=⟨[],⟨bB 49 0 [(0,.v (.one (.full 0))),(3,.v (.one (.full 1))),(4,.v (.one (.i .i64)))],[.row (Ty.prod (Ty.sl yi) (Ty.prod (Ty.sl aV) aS)) 0,.row yi 2],0,none,[],[1],[2,0],[(.l yi),.i],[.l (Ty.prod (Ty.sl yi) (Ty.prod (Ty.sl aV) aS)) x]⟩,[⟨(.exit 0),.normal,⟨bB 49 0 [(3,.v (.one (.full 0)))],[.row yi 2],0,none,[],[],[0],[(.l yi)],[]⟩⟩]⟩
def fX (x:(List (List Int×List I6×I2))) (s:(List Int×Int)):(List Int×Int)⊕(List Int):=
 (if (s.2<(x.length:Int)) then
 (ai (run (ek x) (s.1,s.2,0)) fun r=>
 (Sum.inl (((([]++(List.take r.2.2.toNat r.1))++ [r.2.1])++(List.drop r.2.2.toNat r.1)),(az (r.2.1+1))))) else
 (Sum.inr (s.1)))
def kg (x:(List (List Int×List I6×I2))) (s:(List Int×Int)):Prop:=
 ((s.2<(x.length:Int))->
 (Term (ek x) (kj x) (s.1,s.2,0)/\
 aA (run (ek x) (s.1,s.2,0)) fun r=>
 (((0<=r.2.2)/\ (r.2.2<=(r.1.length:Int)))/\
 (((0+(List.length (List.take r.2.2.toNat r.1)))<1099511627776)/\
 ((((List.length ([]++(List.take r.2.2.toNat r.1)))+1)<1099511627776)/\
 (((0<=r.2.2)/\ (r.2.2<=(r.1.length:Int)))/\
 (((List.length (([]++(List.take r.2.2.toNat r.1))++ [r.2.1]))+(List.length (List.drop r.2.2.toNat r.1)))<1099511627776)))))))
def yI (x:(List (List Int×List I6×I2))) (s:(List Int×Int)):Tr ((List Int×Int)⊕(List Int)) true:=
 (.i10 (s.2<(nL x))
 (aB.lp (El x) (yJ x) (s.1,s.2,z0) fun r=>
 (.og ((decide (z0<=r.2.2))&&(decide (r.2.2<=(nL r.1)))) ((z0<=r.2.2)/\ (r.2.2<=(nL r.1))) (fun h=>(cX (decide_eq_true h.1) (decide_eq_true h.2)))
 (.od ((0+(List.length (List.take (tN r.2.2) r.1)))<1099511627776)
 (.od (((List.length ([]++(List.take (tN r.2.2) r.1)))+1)<1099511627776)
 (.og ((decide (z0<=r.2.2))&&(decide (r.2.2<=(nL r.1)))) ((z0<=r.2.2)/\ (r.2.2<=(nL r.1))) (fun h=>(cX (decide_eq_true h.1) (decide_eq_true h.2)))
 (.od (((List.length (([]++(List.take (tN r.2.2) r.1))++ [r.2.1]))+(List.length (List.drop (tN r.2.2) r.1)))<1099511627776)
 (.ret (.inl (((([]++(List.take (tN r.2.2) r.1))++ [r.2.1])++(List.drop (tN r.2.2) r.1)),(w1 r.2.1))))))))))
 (.ret (.inr (s.1))))
def cT (x:(List (List Int×List I6×I2))):(List Int):=
 (ai (run (fX x) ([],0)) fun r=>
 r)
def dh (x:(List (List Int×List I6×I2))):Prop:=
 (Term (fX x) (kg x) ([],0))
def SG (x:(List (List Int×List I6×I2))):Tr (List Int) true:=
 (aB.lp (Ek x) (yI x) ([],z0) fun r=>
 (.ret r))
abbrev eF:cC:=⟨(.one (Ty.sl (Ty.prod (Ty.sl yi) (Ty.prod (Ty.sl aV) aS)))),(.one (Ty.sl yi)),dh,cT⟩
theorem PS:ah Tryz.prog 17 (aj eF):=ah.tr eF SG (fn:=Tryz.f17) ay mo mixed (by kernel_rfl) (av.nil _ _) (fun x=>(au.tr ay (ae.bS mo (av.nil _ _)) mixed 0 (Ek x) (yI x) (au.tr ay (ae.bS mo (av.nil _ _)) mixed 2 (El x) (yJ x) au.nil (by kernel_rfl) fun g s Q=>(by kernel_rfl)) (by kernel_rfl) fun g s Q=>(by kernel_rfl))) (fun x=>(by kernel_rfl)) fun x Q=>(by kernel_rfl)
def EO:List (Nat×Ev.Spec):=(17,aj eF)::EM
theorem js:ae Tryz.prog EO:=ae.add (fn:=Tryz.f17) (by kernel_rfl) PS mo
def HU (x:(List (List Int×List I6×I2))):aB:=⟨[],⟨bB 46 0 [(0,.v (.one (.full 0))),(3,.v (.one (.full 1))),(4,.v (.one (.i .i64)))],[.row (Ty.prod (Ty.sl yi) (Ty.prod (Ty.sl aV) aS)) 0,.row yi 2],0,none,[],[1],[2,0],[(.l yi),.i],[.l (Ty.prod (Ty.sl yi) (Ty.prod (Ty.sl aV) aS)) x]⟩,[⟨.ret,.ret,⟨bB 46 0 [(2,.v (.one (.b)))],[],0,none,[],[0],[],[],[.b false]⟩⟩,⟨(.exit 0),.normal,⟨bB 46 0 [(3,.v (.one (.full 0)))],[.row yi 2],0,none,[],[],[0],[(.l yi)],[]⟩⟩]⟩
def dF (x:(List (List Int×List I6×I2))) (s:(List Int×Int)):(List Int×Int)⊕(Unit⊕(List Int)):=
 (if (s.2<(x.length:Int)) then
 (ai (Bg (x.getD s.2.toNat ([],[],0,0))) fun y=>
 (if ((!y)=true) then
 (Sum.inr (Sum.inl ())) else
 (Sum.inl ((s.1++(x.getD s.2.toNat ([],[],0,0)).1),(az (s.2+1)))))) else
 (Sum.inr (Sum.inr (s.1))))
def jm (x:(List (List Int×List I6×I2))) (s:(List Int×Int)):Prop:=
 ((s.2<(x.length:Int))->
 (((0<=s.2)/\ (s.2<(x.length:Int)))/\
 ((s.2.toNat<x.length)/\
 ((s.2.toNat<x.length)/\
 ((sI (x.getD s.2.toNat ([],[],0,0)))/\
 aA (Bg (x.getD s.2.toNat ([],[],0,0))) fun y=>
 (¬((!y)=true)->
 (((0<=s.2)/\ (s.2<(x.length:Int)))/\
 ((s.2.toNat<x.length)/\
 ((s.2.toNat<x.length)/\
 ((s.2.toNat<x.length)/\
 ((s.1.length+(List.length (x.getD s.2.toNat ([],[],0,0)).1))<1099511627776)))))))))))
def Br (x:(List (List Int×List I6×I2))) (s:(List Int×Int)):Tr ((List Int×Int)⊕(Unit⊕(List Int))) true:=
 (.i10 (s.2<(nL x))
 (.gK s.2 x
 (.fn Bh (gT x s.2 ([],[],iR)) fun y=>
 (.iK (!y)
 (.ret (.inr (Sum.inl ())))
 (.zF s.2 x
 (.od ((s.1.length+(List.length (gT x s.2 ([],[],iR)).1))<1099511627776)
 (.ret (.inl ((s.1++(gT x s.2 ([],[],iR)).1),(w1 s.2)))))))))
 (.ret (.inr (Sum.inr (s.1)))))
def HW (x:(List (List Int×List I6×I2))):aB:=⟨[],⟨bB 46 0 [(3,.v (.one (.full 0))),(5,.v (.one (.i .i64))),(6,.v (.one (.i .i64)))],[.row yi 2],0,none,[],[],[2,0,1],[(.l yi),.i,.i],[]⟩,[⟨.ret,.ret,⟨bB 46 0 [(2,.v (.one (.b)))],[],0,none,[],[0],[],[],[.b false]⟩⟩,⟨(.exit 4),.normal,⟨bB 46 0 [(3,.v (.one (.full 0))),(5,.v (.one (.i .i64)))],[.row yi 2],0,none,[],[],[1,0],[(.l yi),.i],[]⟩⟩]⟩
def ij (x:(List (List Int×List I6×I2))) (s:(List Int×I2)):(List Int×I2)⊕(Unit⊕(List Int×Int)):=
 (if (s.2.2<s.2.1) then
 (if (((s.1.getD s.2.1.toNat 0)==(s.1.getD s.2.2.toNat 0))=true) then
 (Sum.inr (Sum.inl ())) else
 (Sum.inl (s.1,s.2.1,(az (s.2.2+1))))) else
 (Sum.inr (Sum.inr ((s.1,s.2.1)))))
def lV (x:(List (List Int×List I6×I2))) (s:(List Int×I2)):Prop:=
 ((s.2.2<s.2.1)->
 (((0<=s.2.1)/\ (s.2.1<(s.1.length:Int)))/\
 ((s.2.1.toNat<s.1.length)/\
 ((s.2.1.toNat<s.1.length)/\
 (((0<=s.2.2)/\ (s.2.2<(s.1.length:Int)))/\
 ((s.2.2.toNat<s.1.length)/\
 (s.2.2.toNat<s.1.length)))))))
def Bt (x:(List (List Int×List I6×I2))) (s:(List Int×I2)):Tr ((List Int×I2)⊕(Unit⊕(List Int×Int))) true:=
 (.i10 (s.2.2<s.2.1)
 (.gK s.2.1 s.1
 (.gK s.2.2 s.1
 (.nT ((gI s.1 s.2.1)==(gI s.1 s.2.2))
 (.ret (.inr (Sum.inl ())))
 (.ret (.inl (s.1,s.2.1,(w1 s.2.2)))))))
 (.ret (.inr (Sum.inr ((s.1,s.2.1))))))
def HV (x:(List (List Int×List I6×I2))):aB:=⟨[],⟨bB 46 0 [(3,.v (.one (.full 0))),(5,.v (.one (.i .i64)))],[.row yi 2],0,none,[],[],[1,0],[(.l yi),.i],[]⟩,[⟨.ret,.ret,⟨bB 46 0 [(2,.v (.one (.b)))],[],0,none,[],[0],[],[],[.b false]⟩⟩,⟨(.exit 2),.normal,⟨bB 46 0 [],[],0,none,[],[],[],[],[]⟩⟩]⟩
def ig (x:(List (List Int×List I6×I2))) (s:(List Int×Int)):(List Int×Int)⊕(Unit⊕Unit):=
 (if (s.2<(s.1.length:Int)) then
 (ai (run (ij x) (s.1,s.2,0)) fun r=>
 (Sum.elim (fun a=>
 (Sum.inr (Sum.inl ()))) (fun b=>
 (Sum.inl (b.1,(az (b.2+1))))) r)) else
 (Sum.inr (Sum.inr (()))))
def qg (x:(List (List Int×List I6×I2))) (s:(List Int×Int)):Prop:=
 ((s.2<(s.1.length:Int))->
 (Term (ij x) (lV x) (s.1,s.2,0)))
def Bs (x:(List (List Int×List I6×I2))) (s:(List Int×Int)):Tr ((List Int×Int)⊕(Unit⊕Unit)) true:=
 (.i10 (s.2<(nL s.1))
 (aB.lp (HW x) (Bt x) (s.1,s.2,z0) fun r=>
 (.xW r (fun a=>
 (.ret (.inr (Sum.inl ())))) (fun b=>
 (.ret (.inl (b.1,(w1 b.2)))))))
 (.ret (.inr (Sum.inr (())))))
def pA (x:(List (List Int×List I6×I2))):Bool:=
 (ai (run (dF x) ([],0)) fun r=>
 (Sum.elim (fun a=>
 false) (fun b=>
 (ai (run (ig x) (b,0)) fun r_1=>
 (Sum.elim (fun a=>
 false) (fun b_1=>
 true) r_1))) r))
def oh (x:(List (List Int×List I6×I2))):Prop:=
 (Term (dF x) (jm x) ([],0)/\
 aA (run (dF x) ([],0)) fun r=>
 (cS r (fun a=>
 True) (fun b=>
 (Term (ig x) (qg x) (b,0)))))
def WQ (x:(List (List Int×List I6×I2))):Tr Bool true:=
 (aB.lp (HU x) (Br x) ([],z0) fun r=>
 (.s01 r (fun a=>
 (.ret false)) (fun b=>
 (aB.lp (HV x) (Bs x) (b,z0) fun r_1=>
 (.xW r_1 (fun a=>
 (.ret false)) (fun b_1=>
 (.ret true)))))))
abbrev sO:cC:=⟨(.one (Ty.sl (Ty.prod (Ty.sl yi) (Ty.prod (Ty.sl aV) aS)))),(.one Ty.bool),oh,pA⟩
theorem SF:ah Tryz.prog 29 (aj sO):=ah.tr sO WQ (fn:=Tryz.f29) ay js mixed (by kernel_rfl) (av.nil _ _) (fun x=>(au.tr ay (ae.bS js (av.nil _ _)) mixed 0 (HU x) (Br x) (au.tr ay (ae.bS js (av.nil _ _)) mixed 2 (HV x) (Bs x) (au.tr ay (ae.bS js (av.nil _ _)) mixed 4 (HW x) (Bt x) au.nil (by kernel_rfl) fun g s Q=>(by kernel_rfl)) (by kernel_rfl) fun g s Q=>(by kernel_rfl)) (by kernel_rfl) fun g s Q=>(by kernel_rfl))) (fun x=>(by kernel_rfl)) fun x Q=>(by kernel_rfl)
def IU:List (Nat×Ev.Spec):=(29,aj sO)::EO
theorem yU:ae Tryz.prog IU:=ae.add (fn:=Tryz.f29) (by kernel_rfl) SF js
def gN (x:I3):Bool:=
 (if (x.1>=1) then
 (if (x.1<=256) then
 (if (x.2.1>=1) then
 (if (x.2.1<=256) then
 (if (x.2.2>=1) then
 (decide (x.2.2<=8)) else
 false) else
 false) else
 false) else
 false) else
 false)
def HS (_:I3):Prop:=True
def Nz (x:I3):Tr Bool false:=
 (.o7 (x.1>=z1)
 (.o7 (x.1<=256)
 (.o7 (x.2.1>=z1)
 (.o7 (x.2.1<=256)
 (.o7 (x.2.2>=z1)
 (.ret (decide (x.2.2<=8)))
 (.ret false))
 (.ret false))
 (.ret false))
 (.ret false))
 (.ret false))
abbrev lU:cC:=⟨(.pair (.one yi) (.pair (.one yi) (.one yi))),(.one Ty.bool),HS,gN⟩
theorem JL:ah Tryz.prog 28 (aj lU):=ah.tr lU Nz (fn:=Tryz.f28) ay yU mixed (by kernel_rfl) (av.nil _ _) (fun x=>au.nil) (fun x=>(by kernel_rfl)) fun x Q=>(by kernel_rfl)
def yT:List (Nat×Ev.Spec):=(28,aj lU)::IU
theorem mX:ae Tryz.prog yT:=ae.add (fn:=Tryz.f28) (by kernel_rfl) JL yU
def PN (x:(Int×Int×Int×List (List Int×List I6×I2)×List (Int×I3))):aB:=⟨[],⟨bB 77 0 [(1,.v (.one (.ptr 0 0))),(3,.v (.one (.i .i64)))],[.cells [.i .i64,.i .i64,.i .i64,.full 1,.full 2] 25,.row (Ty.prod (Ty.sl yi) (Ty.prod (Ty.sl aV) aS)) 0,.row (Ty.prod yi cq) 0],0,none,[],[1,2,3,4,5],[0],[.i],[.i x.1,.i x.2.1,.i x.2.2.1,.l (Ty.prod (Ty.sl yi) (Ty.prod (Ty.sl aV) aS)) x.2.2.2.1,.l (Ty.prod yi cq) x.2.2.2.2]⟩,[⟨.ret,.ret,⟨bB 77 0 [(2,.v (.one (.b)))],[],0,none,[],[0],[],[],[.b false]⟩⟩,⟨(.exit 0),.normal,⟨bB 77 0 [(1,.v (.one (.ptr 0 0)))],[.cells [.i .i64,.i .i64,.i .i64,.full 1,.full 2] 25,.row (Ty.prod (Ty.sl yi) (Ty.prod (Ty.sl aV) aS)) 0,.row (Ty.prod yi cq) 0],0,none,[],[0,1,2,3,4],[],[],[.i x.1,.i x.2.1,.i x.2.2.1,.l (Ty.prod (Ty.sl yi) (Ty.prod (Ty.sl aV) aS)) x.2.2.2.1,.l (Ty.prod yi cq) x.2.2.2.2]⟩⟩]⟩
def iF (x:(Int×Int×Int×List (List Int×List I6×I2)×List (Int×I3))) (s:Int):Int⊕(Unit⊕Unit):=
 (if (s<(x.2.2.2.2.length:Int)) then
 (if (((x.2.2.2.2.getD s.toNat (0,0,0,0)).2.2.1 !=(az ((x.2.2.2.1.getD s.toNat ([],[],0,0)).2.2.1+(az (2*x.2.2.1)))))=true) then
 (Sum.inr (Sum.inl ())) else
 (if (((x.2.2.2.2.getD s.toNat (0,0,0,0)).2.2.2 !=(az ((x.2.2.2.1.getD s.toNat ([],[],0,0)).2.2.2+(az (2*x.2.2.1)))))=true) then
 (Sum.inr (Sum.inl ())) else
 (Sum.inl (az (s+1))))) else
 (Sum.inr (Sum.inr (()))))
def pz (x:(Int×Int×Int×List (List Int×List I6×I2)×List (Int×I3))) (s:Int):Prop:=
 ((s<(x.2.2.2.2.length:Int))->
 (((0<=s)/\ (s<(x.2.2.2.2.length:Int)))/\
 ((s.toNat<x.2.2.2.2.length)/\
 ((s.toNat<x.2.2.2.2.length)/\
 ((s.toNat<x.2.2.2.2.length)/\
 (((0<=s)/\ (s<(x.2.2.2.1.length:Int)))/\
 ((s.toNat<x.2.2.2.1.length)/\
 ((s.toNat<x.2.2.2.1.length)/\
 ((s.toNat<x.2.2.2.1.length)/\
 (¬(((x.2.2.2.2.getD s.toNat (0,0,0,0)).2.2.1 !=(az ((x.2.2.2.1.getD s.toNat ([],[],0,0)).2.2.1+(az (2*x.2.2.1)))))=true)->
 (((0<=s)/\ (s<(x.2.2.2.2.length:Int)))/\
 ((s.toNat<x.2.2.2.2.length)/\
 ((s.toNat<x.2.2.2.2.length)/\
 ((s.toNat<x.2.2.2.2.length)/\
 (((0<=s)/\ (s<(x.2.2.2.1.length:Int)))/\
 ((s.toNat<x.2.2.2.1.length)/\
 ((s.toNat<x.2.2.2.1.length)/\
 (s.toNat<x.2.2.2.1.length))))))))))))))))))
def HR (x:(Int×Int×Int×List (List Int×List I6×I2)×List (Int×I3))) (s:Int):Tr (Int⊕(Unit⊕Unit)) true:=
 (.i10 (s<(nL x.2.2.2.2))
 (.zF s x.2.2.2.2
 (.zF s x.2.2.2.1
 (.iK ((gT x.2.2.2.2 s (z0,rX)).2.2.1 !=(az ((gT x.2.2.2.1 s ([],[],iR)).2.2.1+(az (2*x.2.2.1)))))
 (.ret (.inr (Sum.inl ())))
 (.zF s x.2.2.2.2
 (.zF s x.2.2.2.1
 (.nT ((gT x.2.2.2.2 s (z0,rX)).2.2.2 !=(az ((gT x.2.2.2.1 s ([],[],iR)).2.2.2+(az (2*x.2.2.1)))))
 (.ret (.inr (Sum.inl ())))
 (.ret (.inl (w1 s)))))))))
 (.ret (.inr (Sum.inr (())))))
def jT (x:(Int×Int×Int×List (List Int×List I6×I2)×List (Int×I3))):Bool:=
 (ai (gN (x.1,x.2.1,x.2.2.1)) fun y=>
 (if ((!y)=true) then
 false else
 (ai (pA x.2.2.2.1) fun aO=>
 (if ((!aO)=true) then
 false else
 (if (((x.2.2.2.2.length:Int) !=(x.2.2.2.1.length:Int))=true) then
 false else
 (ai (run (iF x) 0) fun r=>
 (Sum.elim (fun a=>
 false) (fun b=>
 (ai (Py (x.1,x.2.1,x.2.2.2.2)) fun y_2=>
 y_2)) r)))))))
def fW (x:(Int×Int×Int×List (List Int×List I6×I2)×List (Int×I3))):Prop:=
 (aA (gN (x.1,x.2.1,x.2.2.1)) fun y=>
 (¬((!y)=true)->
 ((oh x.2.2.2.1)/\
 aA (pA x.2.2.2.1) fun aO=>
 (¬((!aO)=true)->
 (¬(((x.2.2.2.2.length:Int) !=(x.2.2.2.1.length:Int))=true)->
 (Term (iF x) (pz x) 0/\
 aA (run (iF x) 0) fun r=>
 (cS r (fun a=>
 True) (fun b=>
 (Dg (x.1,x.2.1,x.2.2.2.2))))))))))
def ab8 (x:(Int×Int×Int×List (List Int×List I6×I2)×List (Int×I3))):Tr Bool true:=
 (.fn0 lU (x.1,x.2.1,x.2.2.1) trivial fun y=>
 (.iK (!y)
 (.ret false)
 (.fn sO x.2.2.2.1 fun aO=>
 (.iK (!aO)
 (.ret false)
 (.iK ((nL x.2.2.2.2) !=(nL x.2.2.2.1))
 (.ret false)
 (aB.lp (PN x) (HR x) z0 fun r=>
 (.s01 r (fun a=>
 (.ret false)) (fun b=>
 (.fn FI (x.1,x.2.1,x.2.2.2.2) fun y_2=>
 (.ret y_2))))))))))
abbrev lT:cC:=⟨(.agg (Ty.prod yi (Ty.prod yi (Ty.prod yi (Ty.prod (Ty.sl (Ty.prod (Ty.sl yi) (Ty.prod (Ty.sl aV) aS))) (Ty.sl (Ty.prod yi cq))))))),(.one Ty.bool),fW,jT⟩
theorem ZK:ah Tryz.prog 19 (aj lT):=ah.tr lT ab8 (fn:=Tryz.f19) ay mX mixed (by kernel_rfl) (av.nil _ _) (fun x=>(au.tr ay (ae.bS mX (av.nil _ _)) mixed 0 (PN x) (HR x) au.nil (by kernel_rfl) fun g s Q=>(by kernel_rfl))) (fun x=>(by kernel_rfl)) fun x Q=>(by kernel_rfl)
def Qs:List (Nat×Ev.Spec):=(19,aj lT)::yT
theorem ot:ae Tryz.prog Qs:=ae.add (fn:=Tryz.f19) (by kernel_rfl) ZK mX
def Eg (x:(Int×Int×Int×List (List Int×List I6×I2))):aB:=⟨[],⟨bB 126 0 [(0,.v (.one (.i .i64))),(1,.v (.one (.i .i64))),(2,.v (.one (.i .i64))),(3,.v (.one (.full 0))),(8,.v (.one (.ptr 1 0))),(10,.v (.one (.full 2))),(11,.v (.one (.full 3))),(12,.v (.one (.i .i64)))],[.row (Ty.prod (Ty.sl yi) (Ty.prod (Ty.sl aV) aS)) 0,.cells [.i .i64,.i .i64,.i .i64,.raw,.raw] 25,.row yi 2,.row aS 2],0,none,[],[0,1,2,4,5,6,7,8,9],[10,11,3],[(.l yi),(.l aS),.i],[.i x.1,.i x.2.1,.i x.2.2.1,.l (Ty.prod (Ty.sl yi) (Ty.prod (Ty.sl aV) aS)) x.2.2.2,.i 0,.i 0,.i 0,.v (.slice none 0 0),.v (.slice none 0 0)]⟩,[⟨.ret,.ret,⟨bB 126 0 [(8,.v (.one (.ptr 0 0))),(9,.v (.one (.i .i64)))],[.cells [.i .i64,.i .i64,.i .i64,.raw,.raw] 25],0,none,[],[0,1,2,3,4,5],[],[],[.i 9,.i 0,.i 0,.i 0,.v (.slice none 0 0),.v (.slice none 0 0)]⟩⟩,⟨(.exit 0),.normal,⟨bB 126 0 [(0,.v (.one (.i .i64))),(1,.v (.one (.i .i64))),(2,.v (.one (.i .i64))),(3,.v (.one (.full 0))),(8,.v (.one (.ptr 1 0))),(10,.v (.one (.full 2))),(11,.v (.one (.full 3)))],[.row (Ty.prod (Ty.sl yi) (Ty.prod (Ty.sl aV) aS)) 0,.cells [.i .i64,.i .i64,.i .i64,.raw,.raw] 25,.row yi 2,.row aS 2],0,none,[],[0,1,2,3,4,5,6,7,8],[9,10],[(.l yi),(.l aS)],[.i x.1,.i x.2.1,.i x.2.2.1,.l (Ty.prod (Ty.sl yi) (Ty.prod (Ty.sl aV) aS)) x.2.2.2,.i 0,.i 0,.i 0,.v (.slice none 0 0),.v (.slice none 0 0)]⟩⟩]⟩
def ej (x:(Int×Int×Int×List (List Int×List I6×I2))) (s:(List Int×List I2×Int)):(List Int×List I2×Int)⊕(Unit⊕(List Int×List I2)):=
 (if (s.2.2<(s.1.length:Int)) then
 (if ((az ((x.2.2.2.getD (Int.toNat (s.1.getD s.2.2.toNat 0)) ([],[],0,0)).2.2.1+(az (2*x.2.2.1))))>256) then
 (Sum.inr (Sum.inl ())) else
 (if ((az ((x.2.2.2.getD (Int.toNat (s.1.getD s.2.2.toNat 0)) ([],[],0,0)).2.2.2+(az (2*x.2.2.1))))>256) then
 (Sum.inr (Sum.inl ())) else
 (Sum.inl (s.1,(s.2.1++ [((az ((x.2.2.2.getD (Int.toNat (s.1.getD s.2.2.toNat 0)) ([],[],0,0)).2.2.1+(az (2*x.2.2.1)))),(az ((x.2.2.2.getD (Int.toNat (s.1.getD s.2.2.toNat 0)) ([],[],0,0)).2.2.2+(az (2*x.2.2.1)))))]),(az (s.2.2+1)))))) else
 (Sum.inr (Sum.inr ((s.1,s.2.1)))))
def j9 (x:(Int×Int×Int×List (List Int×List I6×I2))) (s:(List Int×List I2×Int)):Prop:=
 ((s.2.2<(s.1.length:Int))->
 (((0<=s.2.2)/\ (s.2.2<(s.1.length:Int)))/\
 ((s.2.2.toNat<s.1.length)/\
 ((s.2.2.toNat<s.1.length)/\
 (((0<=(s.1.getD s.2.2.toNat 0))/\ ((s.1.getD s.2.2.toNat 0)<(x.2.2.2.length:Int)))/\
 (((Int.toNat (s.1.getD s.2.2.toNat 0))<x.2.2.2.length)/\
 (((Int.toNat (s.1.getD s.2.2.toNat 0))<x.2.2.2.length)/\
 (¬((az ((x.2.2.2.getD (Int.toNat (s.1.getD s.2.2.toNat 0)) ([],[],0,0)).2.2.1+(az (2*x.2.2.1))))>256)->
 (¬((az ((x.2.2.2.getD (Int.toNat (s.1.getD s.2.2.toNat 0)) ([],[],0,0)).2.2.2+(az (2*x.2.2.1))))>256)->
 ((s.2.1.length+1)<1099511627776))))))))))
def yF (x:(Int×Int×Int×List (List Int×List I6×I2))) (s:(List Int×List I2×Int)):Tr ((List Int×List I2×Int)⊕(Unit⊕(List Int×List I2))) true:=
 (.i10 (s.2.2<(nL s.1))
 (.gK s.2.2 s.1
 (.gK (gI s.1 s.2.2) x.2.2.2
 (.zu ((az ((gT x.2.2.2 (gI s.1 s.2.2) ([],[],iR)).2.2.1+(az (2*x.2.2.1))))>256)
 (.ret (.inr (Sum.inl ())))
 (.zu ((az ((gT x.2.2.2 (gI s.1 s.2.2) ([],[],iR)).2.2.2+(az (2*x.2.2.1))))>256)
 (.ret (.inr (Sum.inl ())))
 (.od ((s.2.1.length+1)<1099511627776)
 (.ret (.inl (s.1,(s.2.1++ [((az ((gT x.2.2.2 (gI s.1 s.2.2) ([],[],iR)).2.2.1+(az (2*x.2.2.1)))),(az ((gT x.2.2.2 (gI s.1 s.2.2) ([],[],iR)).2.2.2+(az (2*x.2.2.1)))))]),(w1 s.2.2)))))))))
 (.ret (.inr (Sum.inr ((s.1,s.2.1))))))
def Eh (x:(Int×Int×Int×List (List Int×List I6×I2))):aB:=⟨[],⟨bB 126 0 [(3,.v (.one (.full 0))),(8,.v (.one (.ptr 1 0))),(10,.v (.one (.full 2))),(14,.v (.one (.full 3))),(16,.v (.one (.ptr 4 0))),(17,.v (.one (.i .i64)))],[.row (Ty.prod (Ty.sl yi) (Ty.prod (Ty.sl aV) aS)) 0,.cells [.i .i64,.i .i64,.i .i64,.raw,.raw] 25,.row yi 2,.row (Ty.prod yi cq) 2,.cells [.i .i64,.i .i64,.i .i64,.full 5,.full 6] 25,.row (Ty.prod (Ty.sl yi) (Ty.prod (Ty.sl aV) aS)) 2,.row (Ty.prod yi cq) 2],0,none,[],[1,2,3,4,5,6,9,10,11,13],[7,8,12,0],[(.l yi),(.l (Ty.prod yi cq)),(.l (Ty.prod (Ty.sl yi) (Ty.prod (Ty.sl aV) aS))),.i],[.l (Ty.prod (Ty.sl yi) (Ty.prod (Ty.sl aV) aS)) x.2.2.2,.i 0,.i 0,.i 0,.v (.slice none 0 0),.v (.slice none 0 0),.i x.1,.i x.2.1,.i x.2.2.1,.l (Ty.prod yi cq) (List.replicate x.2.2.2.length ((0:Int),(0:Int),(0:Int),(0:Int)))]⟩,[⟨(.exit 2),.normal,⟨bB 126 0 [(8,.v (.one (.ptr 0 0))),(10,.v (.one (.full 1))),(14,.v (.one (.full 2))),(16,.v (.one (.ptr 3 0)))],[.cells [.i .i64,.i .i64,.i .i64,.raw,.raw] 25,.row yi 2,.row (Ty.prod yi cq) 2,.cells [.i .i64,.i .i64,.i .i64,.full 4,.full 5] 25,.row (Ty.prod (Ty.sl yi) (Ty.prod (Ty.sl aV) aS)) 2,.row (Ty.prod yi cq) 2],0,none,[],[0,1,2,3,4,7,8,9,11],[5,6,10],[(.l yi),(.l (Ty.prod yi cq)),(.l (Ty.prod (Ty.sl yi) (Ty.prod (Ty.sl aV) aS)))],[.i 0,.i 0,.i 0,.v (.slice none 0 0),.v (.slice none 0 0),.i x.1,.i x.2.1,.i x.2.2.1,.l (Ty.prod yi cq) (List.replicate x.2.2.2.length ((0:Int),(0:Int),(0:Int),(0:Int)))]⟩⟩]⟩
def c9 (x:(Int×Int×Int×List (List Int×List I6×I2))) (s:(List Int×List (Int×I3)×List (List Int×List I6×I2)×Int)):(List Int×List (Int×I3)×List (List Int×List I6×I2)×Int)⊕(List Int×List (Int×I3)×List (List Int×List I6×I2)):=
 (if (s.2.2.2<(x.2.2.2.length:Int)) then
 (ai (wq (x.2.2.2.getD s.2.2.2.toNat ([],[],0,0))) fun y=>
 (Sum.inl (s.1,s.2.1,(s.2.2.1++ [y]),(az (s.2.2.2+1))))) else
 (Sum.inr ((s.1,s.2.1,s.2.2.1))))
def ke (x:(Int×Int×Int×List (List Int×List I6×I2))) (s:(List Int×List (Int×I3)×List (List Int×List I6×I2)×Int)):Prop:=
 ((s.2.2.2<(x.2.2.2.length:Int))->
 (((0<=s.2.2.2)/\ (s.2.2.2<(x.2.2.2.length:Int)))/\
 ((s.2.2.2.toNat<x.2.2.2.length)/\
 ((s.2.2.2.toNat<x.2.2.2.length)/\
 ((tV (x.2.2.2.getD s.2.2.2.toNat ([],[],0,0)))/\
 aA (wq (x.2.2.2.getD s.2.2.2.toNat ([],[],0,0))) fun y=>
 ((s.2.2.1.length+1)<1099511627776))))))
def yG (x:(Int×Int×Int×List (List Int×List I6×I2))) (s:(List Int×List (Int×I3)×List (List Int×List I6×I2)×Int)):Tr ((List Int×List (Int×I3)×List (List Int×List I6×I2)×Int)⊕(List Int×List (Int×I3)×List (List Int×List I6×I2))) true:=
 (.i10 (s.2.2.2<(nL x.2.2.2))
 (.gK s.2.2.2 x.2.2.2
 (.fn wu (gT x.2.2.2 s.2.2.2 ([],[],iR)) fun y=>
 (.od ((s.2.2.1.length+1)<1099511627776)
 (.ret (.inl (s.1,s.2.1,(s.2.2.1++ [y]),(w1 s.2.2.2)))))))
 (.ret (.inr ((s.1,s.2.1,s.2.2.1)))))
def Ei (x:(Int×Int×Int×List (List Int×List I6×I2))):aB:=⟨[],⟨bB 126 0 [(8,.v (.one (.ptr 0 0))),(10,.v (.one (.full 1))),(14,.v (.one (.full 2))),(16,.v (.one (.ptr 3 0))),(18,.v (.one (.i .i64)))],[.cells [.i .i64,.i .i64,.i .i64,.raw,.raw] 25,.row yi 2,.row (Ty.prod yi cq) 2,.cells [.i .i64,.i .i64,.i .i64,.full 4,.full 5] 25,.row (Ty.prod (Ty.sl yi) (Ty.prod (Ty.sl aV) aS)) 2,.row (Ty.prod yi cq) 2],0,none,[],[1,2,3,4,5,8,9,10],[6,7,11,12,0],[(.l yi),(.l (Ty.prod yi cq)),(.l (Ty.prod (Ty.sl yi) (Ty.prod (Ty.sl aV) aS))),(.l (Ty.prod yi cq)),.i],[.i 0,.i 0,.i 0,.v (.slice none 0 0),.v (.slice none 0 0),.i x.1,.i x.2.1,.i x.2.2.1]⟩,[⟨(.exit 4),.normal,⟨bB 126 0 [(8,.v (.one (.ptr 0 0))),(16,.v (.one (.ptr 1 0)))],[.cells [.i .i64,.i .i64,.i .i64,.raw,.raw] 25,.cells [.i .i64,.i .i64,.i .i64,.full 2,.full 3] 25,.row (Ty.prod (Ty.sl yi) (Ty.prod (Ty.sl aV) aS)) 2,.row (Ty.prod yi cq) 2],0,none,[],[0,1,2,3,4,5,6,7],[8,9],[(.l (Ty.prod (Ty.sl yi) (Ty.prod (Ty.sl aV) aS))),(.l (Ty.prod yi cq))],[.i 0,.i 0,.i 0,.v (.slice none 0 0),.v (.slice none 0 0),.i x.1,.i x.2.1,.i x.2.2.1]⟩⟩]⟩
def dc (x:(Int×Int×Int×List (List Int×List I6×I2))) (s:(List Int×List (Int×I3)×List (List Int×List I6×I2)×List (Int×I3)×Int)):(List Int×List (Int×I3)×List (List Int×List I6×I2)×List (Int×I3)×Int)⊕(List (List Int×List I6×I2)×List (Int×I3)):=
 (if (s.2.2.2.2<(s.1.length:Int)) then
 (ai (List.set s.2.2.2.1 (Int.toNat (s.1.getD s.2.2.2.2.toNat 0)) (s.2.1.getD s.2.2.2.2.toNat (0,0,0,0))) fun y=>
 (Sum.inl (s.1,s.2.1,s.2.2.1,y,(az (s.2.2.2.2+1))))) else
 (Sum.inr ((s.2.2.1,s.2.2.2.1))))
def kf (x:(Int×Int×Int×List (List Int×List I6×I2))) (s:(List Int×List (Int×I3)×List (List Int×List I6×I2)×List (Int×I3)×Int)):Prop:=
 ((s.2.2.2.2<(s.1.length:Int))->
 (((0<=s.2.2.2.2)/\ (s.2.2.2.2<(s.1.length:Int)))/\
 ((s.2.2.2.2.toNat<s.1.length)/\
 ((s.2.2.2.2.toNat<s.1.length)/\
 (((0<=s.2.2.2.2)/\ (s.2.2.2.2<(s.2.1.length:Int)))/\
 ((s.2.2.2.2.toNat<s.2.1.length)/\
 ((s.2.2.2.2.toNat<s.2.1.length)/\
 (((0<=(s.1.getD s.2.2.2.2.toNat 0))/\ ((s.1.getD s.2.2.2.2.toNat 0)<(s.2.2.2.1.length:Int)))/\
 (((Int.toNat (s.1.getD s.2.2.2.2.toNat 0))<s.2.2.2.1.length)/\
 ((Int.toNat (s.1.getD s.2.2.2.2.toNat 0))<s.2.2.2.1.length))))))))))
def yH (x:(Int×Int×Int×List (List Int×List I6×I2))) (s:(List Int×List (Int×I3)×List (List Int×List I6×I2)×List (Int×I3)×Int)):Tr ((List Int×List (Int×I3)×List (List Int×List I6×I2)×List (Int×I3)×Int)⊕(List (List Int×List I6×I2)×List (Int×I3))) true:=
 (.i10 (s.2.2.2.2<(nL s.1))
 (.gK s.2.2.2.2 s.1
 (.gK s.2.2.2.2 s.2.1
 (.gK (gI s.1 s.2.2.2.2) s.2.2.2.1
 (.lt (List.set s.2.2.2.1 (tN (gI s.1 s.2.2.2.2)) (gT s.2.1 s.2.2.2.2 (z0,rX))) fun y=>
 (.ret (.inl (s.1,s.2.1,s.2.2.1,y,(w1 s.2.2.2.2))))))))
 (.ret (.inr ((s.2.2.1,s.2.2.2.1)))))
def cL (x:(Int×Int×Int×List (List Int×List I6×I2))):((Int×Int×Int×List (List Int×List I6×I2)×List (Int×I3))×Int):=
 (ai (gN (x.1,x.2.1,x.2.2.1)) fun y=>
 (if ((!y)=true) then
 ((0,0,0,[],[]),1) else
 (ai (pA x.2.2.2) fun aO=>
 (if ((!aO)=true) then
 ((0,0,0,[],[]),1) else
 (ai (cT x.2.2.2) fun y_2=>
 (ai (run (ej x) (y_2,[],0)) fun r=>
 (Sum.elim (fun a=>
 ((0,0,0,[],[]),9)) (fun b=>
 (ai (nC (x.1,x.2.1,b.2)) fun bf=>
 (if ((bf.2 !=0)=true) then
 ((0,0,0,[],[]),bf.2) else
 (ai (run (c9 x) (b.1,bf.1,[],0)) fun r_1=>
 (ai (run (dc x) (r_1.1,r_1.2.1,r_1.2.2,(List.replicate x.2.2.2.length ((0:Int),(0:Int),(0:Int),(0:Int))),0)) fun r_2=>
 ((x.1,x.2.1,x.2.2.1,r_2),0)))))) r)))))))
def cR (x:(Int×Int×Int×List (List Int×List I6×I2))):Prop:=
 (aA (gN (x.1,x.2.1,x.2.2.1)) fun y=>
 (¬((!y)=true)->
 ((oh x.2.2.2)/\
 aA (pA x.2.2.2) fun aO=>
 (¬((!aO)=true)->
 ((dh x.2.2.2)/\
 aA (cT x.2.2.2) fun y_2=>
 (Term (ej x) (j9 x) (y_2,[],0)/\
 aA (run (ej x) (y_2,[],0)) fun r=>
 (cS r (fun a=>
 True) (fun b=>
 ((qS (x.1,x.2.1,b.2))/\
 aA (nC (x.1,x.2.1,b.2)) fun bf=>
 (¬((bf.2 !=0)=true)->
 ((((x.2.2.2.length:Int)<=(x.2.2.2.length:Int))/\ (x.2.2.2.length<1099511627776))/\
 (Term (c9 x) (ke x) (b.1,bf.1,[],0)/\
 aA (run (c9 x) (b.1,bf.1,[],0)) fun r_1=>
 (Term (dc x) (kf x) (r_1.1,r_1.2.1,r_1.2.2,(List.replicate x.2.2.2.length ((0:Int),(0:Int),(0:Int),(0:Int))),0))))))))))))))
def SD (x:(Int×Int×Int×List (List Int×List I6×I2))):Tr ((Int×Int×Int×List (List Int×List I6×I2)×List (Int×I3))×Int) true:=
 (.fn0 lU (x.1,x.2.1,x.2.2.1) trivial fun y=>
 (.iK (!y)
 (.ret ((z0,z0,z0,[],[]),z1))
 (.fn sO x.2.2.2 fun aO=>
 (.iK (!aO)
 (.ret ((z0,z0,z0,[],[]),z1))
 (.fn eF x.2.2.2 fun y_2=>
 (aB.lp (Eg x) (yF x) (y_2,[],z0) fun r=>
 (.s01 r (fun a=>
 (.ret ((z0,z0,z0,[],[]),9))) (fun b=>
 (.fn xL (x.1,x.2.1,b.2) fun bf=>
 (.iK (bf.2 !=z0)
 (.ret ((z0,z0,z0,[],[]),bf.2))
 (.og (((decide (z0<=(nL x.2.2.2)))&&(decide ((nL x.2.2.2)<=(nL x.2.2.2))))&&(decide (x.2.2.2.length<1099511627776))) (((nL x.2.2.2)<=(nL x.2.2.2))/\ (x.2.2.2.length<1099511627776)) (fun h=>(cX (cX rfl (decide_eq_true h.1)) (decide_eq_true h.2)))
 (aB.lp (Eh x) (yG x) (b.1,bf.1,[],z0) fun r_1=>
 (aB.lp (Ei x) (yH x) (r_1.1,r_1.2.1,r_1.2.2,(List.replicate x.2.2.2.length (z0,rX)),z0) fun r_2=>
 (.ret ((x.1,x.2.1,x.2.2.1,r_2),z0)))))))))))))))
abbrev eE:cC:=⟨(.pair (.one yi) (.pair (.one yi) (.pair (.one yi) (.one (Ty.sl (Ty.prod (Ty.sl yi) (Ty.prod (Ty.sl aV) aS))))))),(.pair (.agg (Ty.prod yi (Ty.prod yi (Ty.prod yi (Ty.prod (Ty.sl (Ty.prod (Ty.sl yi) (Ty.prod (Ty.sl aV) aS))) (Ty.sl (Ty.prod yi cq))))))) (.one yi)),cR,cL⟩
theorem PK:ah Tryz.prog 7 (aj eE):=ah.tr eE SD (fn:=Tryz.f7) ay ot mixed (by kernel_rfl) (av.nil _ _) (fun x=>(au.tr ay (ae.bS ot (av.nil _ _)) mixed 0 (Eg x) (yF x) (au.tr ay (ae.bS ot (av.nil _ _)) mixed 2 (Eh x) (yG x) (au.tr ay (ae.bS ot (av.nil _ _)) mixed 4 (Ei x) (yH x) au.nil (by kernel_rfl) fun g s Q=>(by kernel_rfl)) (by kernel_rfl) fun g s Q=>(by kernel_rfl)) (by kernel_rfl) fun g s Q=>(by kernel_rfl))) (fun x=>(by kernel_rfl)) fun x Q=>(by kernel_rfl)
def EN:List (Nat×Ev.Spec):=(7,aj eE)::Qs
theorem mq:ae Tryz.prog EN:=ae.add (fn:=Tryz.f7) (by kernel_rfl) PK ot
def Lc (x:(Int×Int×Int×List (List Int×List I6×I2)×List (Int×I3))):aB:=⟨[],⟨bB 66 0 [(1,.v (.one (.ptr 0 0))),(5,.v (.one (.full 3))),(6,.v (.one (.full 4))),(7,.v (.one (.i .i64))),(8,.v (.one (.full 5))),(10,.v (.one (.i .i64)))],[.cells [.i .i64,.i .i64,.i .i64,.full 1,.full 2] 25,.row (Ty.prod (Ty.sl yi) (Ty.prod (Ty.sl aV) aS)) 0,.row (Ty.prod yi cq) 0,.row aV 2,.row yi 2,.row aV 2],0,none,[],[2,3,4,5,6],[7,8,0,9,1],[(.l aV),(.l yi),.i,(.l aV),.i],[.i x.1,.i x.2.1,.i x.2.2.1,.l (Ty.prod (Ty.sl yi) (Ty.prod (Ty.sl aV) aS)) x.2.2.2.1,.l (Ty.prod yi cq) x.2.2.2.2]⟩,[⟨(.exit 2),.normal,⟨bB 66 0 [(1,.v (.one (.ptr 0 0))),(5,.v (.one (.full 3))),(6,.v (.one (.full 4))),(7,.v (.one (.i .i64)))],[.cells [.i .i64,.i .i64,.i .i64,.full 1,.full 2] 25,.row (Ty.prod (Ty.sl yi) (Ty.prod (Ty.sl aV) aS)) 0,.row (Ty.prod yi cq) 0,.row aV 2,.row yi 2],0,none,[],[1,2,3,4,5],[6,7,0],[(.l aV),(.l yi),.i],[.i x.1,.i x.2.1,.i x.2.2.1,.l (Ty.prod (Ty.sl yi) (Ty.prod (Ty.sl aV) aS)) x.2.2.2.1,.l (Ty.prod yi cq) x.2.2.2.2]⟩⟩]⟩
def jl (x:(Int×Int×Int×List (List Int×List I6×I2)×List (Int×I3))) (s:(List I6×List Int×Int×List I6×Int)):(List I6×List Int×Int×List I6×Int)⊕(List I6×List Int×Int):=
 (if (s.2.2.2.2<(s.2.2.2.1.length:Int)) then
 (Sum.inl (s.1,(s.2.1++ [s.2.2.1]),s.2.2.1,s.2.2.2.1,(az (s.2.2.2.2+1)))) else
 (Sum.inr ((s.1,s.2.1,s.2.2.1))))
def nF (x:(Int×Int×Int×List (List Int×List I6×I2)×List (Int×I3))) (s:(List I6×List Int×Int×List I6×Int)):Prop:=
 ((s.2.2.2.2<(s.2.2.2.1.length:Int))->
 ((s.2.1.length+1)<1099511627776))
def Ed (x:(Int×Int×Int×List (List Int×List I6×I2)×List (Int×I3))) (s:(List I6×List Int×Int×List I6×Int)):Tr ((List I6×List Int×Int×List I6×Int)⊕(List I6×List Int×Int)) true:=
 (.i10 (s.2.2.2.2<(nL s.2.2.2.1))
 (.od ((s.2.1.length+1)<1099511627776)
 (.ret (.inl (s.1,(s.2.1++ [s.2.2.1]),s.2.2.1,s.2.2.2.1,(w1 s.2.2.2.2)))))
 (.ret (.inr ((s.1,s.2.1,s.2.2.1)))))
def Lb (x:(Int×Int×Int×List (List Int×List I6×I2)×List (Int×I3))):aB:=⟨[],⟨bB 66 0 [(1,.v (.one (.ptr 0 0))),(5,.v (.one (.full 3))),(6,.v (.one (.full 4))),(7,.v (.one (.i .i64)))],[.cells [.i .i64,.i .i64,.i .i64,.full 1,.full 2] 25,.row (Ty.prod (Ty.sl yi) (Ty.prod (Ty.sl aV) aS)) 0,.row (Ty.prod yi cq) 0,.row aV 2,.row yi 2],0,none,[],[1,2,3,4,5],[6,7,0],[(.l aV),(.l yi),.i],[.i x.1,.i x.2.1,.i x.2.2.1,.l (Ty.prod (Ty.sl yi) (Ty.prod (Ty.sl aV) aS)) x.2.2.2.1,.l (Ty.prod yi cq) x.2.2.2.2]⟩,[⟨(.exit 0),.normal,⟨bB 66 0 [(5,.v (.one (.full 0))),(6,.v (.one (.full 1)))],[.row aV 2,.row yi 2],0,none,[],[],[0,1],[(.l aV),(.l yi)],[]⟩⟩]⟩
def jk (x:(Int×Int×Int×List (List Int×List I6×I2)×List (Int×I3))) (s:(List I6×List Int×Int)):(List I6×List Int×Int)⊕(List I6×List Int):=
 (if (s.2.2<(x.2.2.2.1.length:Int)) then
 (ai (xF ((x.2.2.2.1.getD s.2.2.toNat ([],[],0,0)),(az (16*(az ((x.2.2.2.2.getD s.2.2.toNat (0,0,0,0)).1+x.2.2.1)))),(az (16*(az ((x.2.2.2.2.getD s.2.2.toNat (0,0,0,0)).2.1+x.2.2.1)))))) fun y=>
 (ai (run (jl x) ((s.1++y.1),s.2.1,s.2.2,y.1,0)) fun r=>
 (Sum.inl (r.1,r.2.1,(az (r.2.2+1)))))) else
 (Sum.inr ((s.1,s.2.1))))
def nE (x:(Int×Int×Int×List (List Int×List I6×I2)×List (Int×I3))) (s:(List I6×List Int×Int)):Prop:=
 ((s.2.2<(x.2.2.2.1.length:Int))->
 (((0<=s.2.2)/\ (s.2.2<(x.2.2.2.1.length:Int)))/\
 ((s.2.2.toNat<x.2.2.2.1.length)/\
 ((s.2.2.toNat<x.2.2.2.1.length)/\
 (((0<=s.2.2)/\ (s.2.2<(x.2.2.2.2.length:Int)))/\
 ((s.2.2.toNat<x.2.2.2.2.length)/\
 ((s.2.2.toNat<x.2.2.2.2.length)/\
 ((s.2.2.toNat<x.2.2.2.2.length)/\
 (((0<=s.2.2)/\ (s.2.2<(x.2.2.2.2.length:Int)))/\
 ((s.2.2.toNat<x.2.2.2.2.length)/\
 ((s.2.2.toNat<x.2.2.2.2.length)/\
 ((s.2.2.toNat<x.2.2.2.2.length)/\
 ((qP ((x.2.2.2.1.getD s.2.2.toNat ([],[],0,0)),(az (16*(az ((x.2.2.2.2.getD s.2.2.toNat (0,0,0,0)).1+x.2.2.1)))),(az (16*(az ((x.2.2.2.2.getD s.2.2.toNat (0,0,0,0)).2.1+x.2.2.1))))))/\
 aA (xF ((x.2.2.2.1.getD s.2.2.toNat ([],[],0,0)),(az (16*(az ((x.2.2.2.2.getD s.2.2.toNat (0,0,0,0)).1+x.2.2.1)))),(az (16*(az ((x.2.2.2.2.getD s.2.2.toNat (0,0,0,0)).2.1+x.2.2.1)))))) fun y=>
 (((s.1.length+y.1.length)<1099511627776)/\
 (Term (jl x) (nF x) ((s.1++y.1),s.2.1,s.2.2,y.1,0))))))))))))))))
def Ec (x:(Int×Int×Int×List (List Int×List I6×I2)×List (Int×I3))) (s:(List I6×List Int×Int)):Tr ((List I6×List Int×Int)⊕(List I6×List Int)) true:=
 (.i10 (s.2.2<(nL x.2.2.2.1))
 (.gK s.2.2 x.2.2.2.1
 (.zF s.2.2 x.2.2.2.2
 (.zF s.2.2 x.2.2.2.2
 (.fn xG ((gT x.2.2.2.1 s.2.2 ([],[],iR)),(az (16*(az ((gT x.2.2.2.2 s.2.2 (z0,rX)).1+x.2.2.1)))),(az (16*(az ((gT x.2.2.2.2 s.2.2 (z0,rX)).2.1+x.2.2.1))))) fun y=>
 (.od ((s.1.length+y.1.length)<1099511627776)
 (aB.lp (Lc x) (Ed x) ((s.1++y.1),s.2.1,s.2.2,y.1,z0) fun r=>
 (.ret (.inl (r.1,r.2.1,(w1 r.2.2))))))))))
 (.ret (.inr ((s.1,s.2.1)))))
def uc (x:(Int×Int×Int×List (List Int×List I6×I2)×List (Int×I3))):(List I6×List Int×Int):=
 (ai (jT x) fun y=>
 (if ((!y)=true) then
 ([],[],1) else
 (ai (run (jk x) ([],[],0)) fun r=>
 (r.1,r.2,0))))
def qf (x:(Int×Int×Int×List (List Int×List I6×I2)×List (Int×I3))):Prop:=
 ((fW x)/\
 aA (jT x) fun y=>
 (¬((!y)=true)->
 (Term (jk x) (nE x) ([],[],0))))
def ZI (x:(Int×Int×Int×List (List Int×List I6×I2)×List (Int×I3))):Tr (List I6×List Int×Int) true:=
 (.fn lT x fun y=>
 (.iK (!y)
 (.ret ([],[],z1))
 (aB.lp (Lb x) (Ec x) ([],[],z0) fun r=>
 (.ret (r.1,r.2,z0)))))
abbrev wB:cC:=⟨(.agg (Ty.prod yi (Ty.prod yi (Ty.prod yi (Ty.prod (Ty.sl (Ty.prod (Ty.sl yi) (Ty.prod (Ty.sl aV) aS))) (Ty.sl (Ty.prod yi cq))))))),(.pair (.one (Ty.sl aV)) (.pair (.one (Ty.sl yi)) (.one yi))),qf,uc⟩
theorem WM:ah Tryz.prog 9 (aj wB):=ah.tr wB ZI (fn:=Tryz.f9) ay mq mixed (by kernel_rfl) (av.nil _ _) (fun x=>(au.tr ay (ae.bS mq (av.nil _ _)) mixed 0 (Lb x) (Ec x) (au.tr ay (ae.bS mq (av.nil _ _)) mixed 2 (Lc x) (Ed x) au.nil (by kernel_rfl) fun g s Q=>(by kernel_rfl)) (by kernel_rfl) fun g s Q=>(by kernel_rfl))) (fun x=>(by kernel_rfl)) fun x Q=>(by kernel_rfl)
def LZ:List (Nat×Ev.Spec):=(9,aj wB)::EN
theorem uI:ae Tryz.prog LZ:=ae.add (fn:=Tryz.f9) (by kernel_rfl) WM mq
def Bw (x:(Int×Int×Int×List (List Int×List I6×I2)×List (Int×I3))):aB:=⟨[],⟨bB 21 0 [(1,.v (.one (.ptr 0 0))),(3,.v (.one (.full 3))),(4,.v (.one (.i .i64)))],[.cells [.i .i64,.i .i64,.i .i64,.full 1,.full 2] 25,.row (Ty.prod (Ty.sl yi) (Ty.prod (Ty.sl aV) aS)) 0,.row (Ty.prod yi cq) 0,.row yi 2],0,none,[],[1,2,3,4,5],[6,0],[(.l yi),.i],[.i x.1,.i x.2.1,.i x.2.2.1,.l (Ty.prod (Ty.sl yi) (Ty.prod (Ty.sl aV) aS)) x.2.2.2.1,.l (Ty.prod yi cq) x.2.2.2.2]⟩,[⟨(.exit 0),.normal,⟨bB 21 0 [(3,.v (.one (.full 0)))],[.row yi 2],0,none,[],[],[0],[(.l yi)],[]⟩⟩]⟩
def fb (x:(Int×Int×Int×List (List Int×List I6×I2)×List (Int×I3))) (s:(List Int×Int)):(List Int×Int)⊕(List Int):=
 (if (s.2<(x.2.2.2.1.length:Int)) then
 (Sum.inl ((s.1++(x.2.2.2.1.getD s.2.toNat ([],[],0,0)).1),(az (s.2+1)))) else
 (Sum.inr (s.1)))
def jC (x:(Int×Int×Int×List (List Int×List I6×I2)×List (Int×I3))) (s:(List Int×Int)):Prop:=
 ((s.2<(x.2.2.2.1.length:Int))->
 (((0<=s.2)/\ (s.2<(x.2.2.2.1.length:Int)))/\
 ((s.2.toNat<x.2.2.2.1.length)/\
 ((s.2.toNat<x.2.2.2.1.length)/\
 ((s.2.toNat<x.2.2.2.1.length)/\
 ((s.1.length+(List.length (x.2.2.2.1.getD s.2.toNat ([],[],0,0)).1))<1099511627776))))))
def wE (x:(Int×Int×Int×List (List Int×List I6×I2)×List (Int×I3))) (s:(List Int×Int)):Tr ((List Int×Int)⊕(List Int)) true:=
 (.i10 (s.2<(nL x.2.2.2.1))
 (.zF s.2 x.2.2.2.1
 (.od ((s.1.length+(List.length (gT x.2.2.2.1 s.2 ([],[],iR)).1))<1099511627776)
 (.ret (.inl ((s.1++(gT x.2.2.2.1 s.2 ([],[],iR)).1),(w1 s.2))))))
 (.ret (.inr (s.1))))
def xQ (x:(Int×Int×Int×List (List Int×List I6×I2)×List (Int×I3))):(List Int):=
 (ai (run (fb x) ([],0)) fun r=>
 r)
def rL (x:(Int×Int×Int×List (List Int×List I6×I2)×List (Int×I3))):Prop:=
 (Term (fb x) (jC x) ([],0))
def PT (x:(Int×Int×Int×List (List Int×List I6×I2)×List (Int×I3))):Tr (List Int) true:=
 (aB.lp (Bw x) (wE x) ([],z0) fun r=>
 (.ret r))
abbrev qW:cC:=⟨(.agg (Ty.prod yi (Ty.prod yi (Ty.prod yi (Ty.prod (Ty.sl (Ty.prod (Ty.sl yi) (Ty.prod (Ty.sl aV) aS))) (Ty.sl (Ty.prod yi cq))))))),(.one (Ty.sl yi)),rL,xQ⟩
theorem NA:ah Tryz.prog 35 (aj qW):=ah.tr qW PT (fn:=Tryz.f35) ay uI mixed (by kernel_rfl) (av.nil _ _) (fun x=>(au.tr ay (ae.bS uI (av.nil _ _)) mixed 0 (Bw x) (wE x) au.nil (by kernel_rfl) fun g s Q=>(by kernel_rfl))) (fun x=>(by kernel_rfl)) fun x Q=>(by kernel_rfl)
def Cd:List (Nat×Ev.Spec):=(35,aj qW)::LZ
theorem oM:ae Tryz.prog Cd:=ae.add (fn:=Tryz.f35) (by kernel_rfl) NA uI
def HQ (x:((Int×Int×Int×List (List Int×List I6×I2)×List (Int×I3))×Int)):aB:=⟨[],⟨bB 39 0 [(1,.v (.one (.i .i64))),(4,.v (.one (.ptr 0 0))),(6,.v (.one (.full 1))),(9,.v (.one (.full 2))),(10,.v (.one (.i .i64)))],[.cells [.i .i64,.i .i64,.i .i64,.i .i64,.i .i64,.i .i64] 38,.row aV 2,.row yi 2],0,none,[],[0,2,3,4,5,6,7],[8,9,1],[(.l aV),(.l yi),.i],[.i x.2,.i 0,.i 0,.i 0,.i 0,.i 0,.i 0]⟩,[⟨.ret,.ret,⟨bB 39 0 [(4,.v (.one (.ptr 0 0))),(5,.v (.one (.b)))],[.cells [.i .i64,.i .i64,.i .i64,.i .i64,.i .i64,.i .i64] 38],0,none,[],[0],[1,2,3,4,5,6],[.i,.i,.i,.i,.i,.i],[.b true]⟩⟩,⟨(.exit 0),.normal,⟨bB 39 0 [(4,.v (.one (.ptr 0 0)))],[.cells [.i .i64,.i .i64,.i .i64,.i .i64,.i .i64,.i .i64] 38],0,none,[],[0,1,2,3,4,5],[],[],[.i 0,.i 0,.i 0,.i 0,.i 0,.i 0]⟩⟩]⟩
def ie (x:((Int×Int×Int×List (List Int×List I6×I2)×List (Int×I3))×Int)) (s:(List I6×List Int×Int)):(List I6×List Int×Int)⊕((Int×Int×Int×I3)⊕Unit):=
 (if (s.2.2<(s.2.1.length:Int)) then
 (if (((s.2.1.getD s.2.2.toNat 0)==x.2)=true) then
 (Sum.inr (Sum.inl ((s.1.getD s.2.2.toNat ((0,0),(0,0),0,0)).1.1,(s.1.getD s.2.2.toNat ((0,0),(0,0),0,0)).1.2,(s.1.getD s.2.2.toNat ((0,0),(0,0),0,0)).2.1.1,(s.1.getD s.2.2.toNat ((0,0),(0,0),0,0)).2.1.2,(s.1.getD s.2.2.toNat ((0,0),(0,0),0,0)).2.2.1,(s.1.getD s.2.2.toNat ((0,0),(0,0),0,0)).2.2.2))) else
 (Sum.inl (s.1,s.2.1,(az (s.2.2+1))))) else
 (Sum.inr (Sum.inr (()))))
def lS (x:((Int×Int×Int×List (List Int×List I6×I2)×List (Int×I3))×Int)) (s:(List I6×List Int×Int)):Prop:=
 ((s.2.2<(s.2.1.length:Int))->
 (((0<=s.2.2)/\ (s.2.2<(s.2.1.length:Int)))/\
 ((s.2.2.toNat<s.2.1.length)/\
 ((s.2.2.toNat<s.2.1.length)/\
 ((((s.2.1.getD s.2.2.toNat 0)==x.2)=true)->
 (((0<=s.2.2)/\ (s.2.2<(s.1.length:Int)))/\
 ((s.2.2.toNat<s.1.length)/\
 (s.2.2.toNat<s.1.length))))))))
def Bq (x:((Int×Int×Int×List (List Int×List I6×I2)×List (Int×I3))×Int)) (s:(List I6×List Int×Int)):Tr ((List I6×List Int×Int)⊕((Int×Int×Int×I3)⊕Unit)) true:=
 (.i10 (s.2.2<(nL s.2.1))
 (.gK s.2.2 s.2.1
 (.jL ((gI s.2.1 s.2.2)==x.2)
 (.gK s.2.2 s.1
 (.ret (.inr (Sum.inl ((gT s.1 s.2.2 aW).1.1,(gT s.1 s.2.2 aW).1.2,(gT s.1 s.2.2 aW).2.1.1,(gT s.1 s.2.2 aW).2.1.2,(gT s.1 s.2.2 aW).2.2.1,(gT s.1 s.2.2 aW).2.2.2)))))
 (.ret (.inl (s.1,s.2.1,(w1 s.2.2))))))
 (.ret (.inr (Sum.inr (())))))
def ug (x:((Int×Int×Int×List (List Int×List I6×I2)×List (Int×I3))×Int)):(I6×Bool):=
 (ai (uc x.1) fun y=>
 (if ((y.2.2 !=0)=true) then
 (((0,0),(0,0),0,0),false) else
 (ai (xQ x.1) fun aO=>
 (ai (run (ie x) (y.1,aO,0)) fun r=>
 (Sum.elim (fun a=>
 (((a.1,a.2.1),(a.2.2.1,a.2.2.2.1),a.2.2.2.2),true)) (fun b=>
 (((0,0),(0,0),0,0),false)) r)))))
def qV (x:((Int×Int×Int×List (List Int×List I6×I2)×List (Int×I3))×Int)):Prop:=
 ((qf x.1)/\
 aA (uc x.1) fun y=>
 (¬((y.2.2 !=0)=true)->
 ((rL x.1)/\
 aA (xQ x.1) fun aO=>
 (Term (ie x) (lS x) (y.1,aO,0)))))
def WO (x:((Int×Int×Int×List (List Int×List I6×I2)×List (Int×I3))×Int)):Tr (I6×Bool) true:=
 (.fn wB x.1 fun y=>
 (.iK (y.2.2 !=z0)
 (.ret (aW,false))
 (.fn qW x.1 fun aO=>
 (aB.lp (HQ x) (Bq x) (y.1,aO,z0) fun r=>
 (.xW r (fun a=>
 (.ret (((a.1,a.2.1),(a.2.2.1,a.2.2.2.1),a.2.2.2.2),true))) (fun b=>
 (.ret (aW,false))))))))
abbrev xP:cC:=⟨(.pair (.agg (Ty.prod yi (Ty.prod yi (Ty.prod yi (Ty.prod (Ty.sl (Ty.prod (Ty.sl yi) (Ty.prod (Ty.sl aV) aS))) (Ty.sl (Ty.prod yi cq))))))) (.one yi)),(.pair (.agg aV) (.one Ty.bool)),qV,ug⟩
theorem SE:ah Tryz.prog 11 (aj xP):=ah.tr xP WO (fn:=Tryz.f11) ay oM mixed (by kernel_rfl) (av.nil _ _) (fun x=>(au.tr ay (ae.bS oM (av.nil _ _)) mixed 0 (HQ x) (Bq x) au.nil (by kernel_rfl) fun g s Q=>(by kernel_rfl))) (fun x=>(by kernel_rfl)) fun x Q=>(by kernel_rfl)
def IT:List (Nat×Ev.Spec):=(11,aj xP)::Cd
theorem rT:ae Tryz.prog IT:=ae.add (fn:=Tryz.f11) (by kernel_rfl) SE oM
def Lf (x:(Int×Int×Int×List (List Int×List I6×I2)×List (Int×I3))):aB:=⟨[],⟨bB 34 0 [(1,.v (.one (.ptr 0 0))),(2,.v (.one (.ptr 3 0))),(3,.v (.one (.ptr 4 0))),(4,.v (.one (.i .i64)))],[.cells [.i .i64,.i .i64,.i .i64,.full 1,.full 2] 25,.row (Ty.prod (Ty.sl yi) (Ty.prod (Ty.sl aV) aS)) 0,.row (Ty.prod yi cq) 0,.cells [.i .i64,.i .i64,.i .i64,.raw,.raw] 25,.cells [.i .i64,.i .i64,.i .i64,.full 5,.full 6] 25,.row (Ty.prod (Ty.sl yi) (Ty.prod (Ty.sl aV) aS)) 2,.row (Ty.prod yi cq) 2],0,none,[],[1,2,3,4,5,6,7,8,9,10,11,12,13],[14,15,0],[(.l (Ty.prod (Ty.sl yi) (Ty.prod (Ty.sl aV) aS))),(.l (Ty.prod yi cq)),.i],[.i x.1,.i x.2.1,.i x.2.2.1,.l (Ty.prod (Ty.sl yi) (Ty.prod (Ty.sl aV) aS)) x.2.2.2.1,.l (Ty.prod yi cq) x.2.2.2.2,.i 0,.i 0,.i 0,.v (.slice none 0 0),.v (.slice none 0 0),.i x.1,.i x.2.1,.i x.2.2.1]⟩,[⟨(.exit 0),.normal,⟨bB 34 0 [(2,.v (.one (.ptr 0 0))),(3,.v (.one (.ptr 1 0)))],[.cells [.i .i64,.i .i64,.i .i64,.raw,.raw] 25,.cells [.i .i64,.i .i64,.i .i64,.full 2,.full 3] 25,.row (Ty.prod (Ty.sl yi) (Ty.prod (Ty.sl aV) aS)) 2,.row (Ty.prod yi cq) 2],0,none,[],[0,1,2,3,4,5,6,7],[8,9],[(.l (Ty.prod (Ty.sl yi) (Ty.prod (Ty.sl aV) aS))),(.l (Ty.prod yi cq))],[.i 0,.i 0,.i 0,.v (.slice none 0 0),.v (.slice none 0 0),.i x.1,.i x.2.1,.i x.2.2.1]⟩⟩]⟩
def jn (x:(Int×Int×Int×List (List Int×List I6×I2)×List (Int×I3))) (s:(List (List Int×List I6×I2)×List (Int×I3)×Int)):(List (List Int×List I6×I2)×List (Int×I3)×Int)⊕(List (List Int×List I6×I2)×List (Int×I3)):=
 (if (s.2.2<(x.2.2.2.1.length:Int)) then
 (ai (wq (x.2.2.2.1.getD s.2.2.toNat ([],[],0,0))) fun y=>
 (Sum.inl ((s.1++ [y]),s.2.1,(az (s.2.2+1))))) else
 (Sum.inr ((s.1,s.2.1))))
def nG (x:(Int×Int×Int×List (List Int×List I6×I2)×List (Int×I3))) (s:(List (List Int×List I6×I2)×List (Int×I3)×Int)):Prop:=
 ((s.2.2<(x.2.2.2.1.length:Int))->
 (((0<=s.2.2)/\ (s.2.2<(x.2.2.2.1.length:Int)))/\
 ((s.2.2.toNat<x.2.2.2.1.length)/\
 ((s.2.2.toNat<x.2.2.2.1.length)/\
 ((tV (x.2.2.2.1.getD s.2.2.toNat ([],[],0,0)))/\
 aA (wq (x.2.2.2.1.getD s.2.2.toNat ([],[],0,0))) fun y=>
 ((s.1.length+1)<1099511627776))))))
def Em (x:(Int×Int×Int×List (List Int×List I6×I2)×List (Int×I3))) (s:(List (List Int×List I6×I2)×List (Int×I3)×Int)):Tr ((List (List Int×List I6×I2)×List (Int×I3)×Int)⊕(List (List Int×List I6×I2)×List (Int×I3))) true:=
 (.i10 (s.2.2<(nL x.2.2.2.1))
 (.gK s.2.2 x.2.2.2.1
 (.fn wu (gT x.2.2.2.1 s.2.2 ([],[],iR)) fun y=>
 (.od ((s.1.length+1)<1099511627776)
 (.ret (.inl ((s.1++ [y]),s.2.1,(w1 s.2.2)))))))
 (.ret (.inr ((s.1,s.2.1)))))
def HX (x:(Int×Int×Int×List (List Int×List I6×I2)×List (Int×I3))):(Int×Int×Int×List (List Int×List I6×I2)×List (Int×I3)):=
 (ai (Nv x.2.2.2.2) fun y=>
 (ai (run (jn x) ([],y,0)) fun r=>
 (x.1,x.2.1,x.2.2.1,r)))
def uh (x:(Int×Int×Int×List (List Int×List I6×I2)×List (Int×I3))):Prop:=
 ((HH x.2.2.2.2)/\
 aA (Nv x.2.2.2.2) fun y=>
 (Term (jn x) (nG x) ([],y,0)))
def ZL (x:(Int×Int×Int×List (List Int×List I6×I2)×List (Int×I3))):Tr (Int×Int×Int×List (List Int×List I6×I2)×List (Int×I3)) true:=
 (.fn Bk x.2.2.2.2 fun y=>
 (aB.lp (Lf x) (Em x) ([],y,z0) fun r=>
 (.ret (x.1,x.2.1,x.2.2.1,r))))
abbrev Bv:cC:=⟨(.agg (Ty.prod yi (Ty.prod yi (Ty.prod yi (Ty.prod (Ty.sl (Ty.prod (Ty.sl yi) (Ty.prod (Ty.sl aV) aS))) (Ty.sl (Ty.prod yi cq))))))),(.agg (Ty.prod yi (Ty.prod yi (Ty.prod yi (Ty.prod (Ty.sl (Ty.prod (Ty.sl yi) (Ty.prod (Ty.sl aV) aS))) (Ty.sl (Ty.prod yi cq))))))),uh,HX⟩
theorem WR:ah Tryz.prog 5 (aj Bv):=ah.tr Bv ZL (fn:=Tryz.f5) ay rT mixed (by kernel_rfl) (av.nil _ _) (fun x=>(au.tr ay (ae.bS rT (av.nil _ _)) mixed 0 (Lf x) (Em x) au.nil (by kernel_rfl) fun g s Q=>(by kernel_rfl))) (fun x=>(by kernel_rfl)) fun x Q=>(by kernel_rfl)
def L0:List (Nat×Ev.Spec):=(5,aj Bv)::IT
theorem uK:ae Tryz.prog L0:=ae.add (fn:=Tryz.f5) (by kernel_rfl) WR rT
def HY (x:((Int×Int×Int×List (List Int×List I6×I2)×List (Int×I3))×Int×Int×Int×List (List Int×List I6×I2)×List (Int×I3))):aB:=⟨[],⟨bB 61 0 [(2,.v (.one (.ptr 0 0))),(3,.v (.one (.ptr 3 0))),(5,.v (.one (.i .i64)))],[.cells [.i .i64,.i .i64,.i .i64,.full 1,.full 2] 25,.row (Ty.prod (Ty.sl yi) (Ty.prod (Ty.sl aV) aS)) 0,.row (Ty.prod yi cq) 0,.cells [.i .i64,.i .i64,.i .i64,.full 4,.full 5] 25,.row (Ty.prod (Ty.sl yi) (Ty.prod (Ty.sl aV) aS)) 0,.row (Ty.prod yi cq) 0],0,none,[],[1,2,3,4,5,6,7,8,9,10],[0],[.i],[.i x.1.1,.i x.1.2.1,.i x.1.2.2.1,.l (Ty.prod (Ty.sl yi) (Ty.prod (Ty.sl aV) aS)) x.1.2.2.2.1,.l (Ty.prod yi cq) x.1.2.2.2.2,.i x.2.1,.i x.2.2.1,.i x.2.2.2.1,.l (Ty.prod (Ty.sl yi) (Ty.prod (Ty.sl aV) aS)) x.2.2.2.2.1,.l (Ty.prod yi cq) x.2.2.2.2.2]⟩,[⟨.ret,.ret,⟨bB 61 0 [(4,.v (.one (.b)))],[],0,none,[],[0],[],[],[.b false]⟩⟩,⟨(.exit 0),.normal,⟨bB 61 0 [],[],0,none,[],[],[],[],[]⟩⟩]⟩
def ik (x:((Int×Int×Int×List (List Int×List I6×I2)×List (Int×I3))×Int×Int×Int×List (List Int×List I6×I2)×List (Int×I3))) (s:Int):Int⊕(Unit⊕Unit):=
 (if (s<(x.1.2.2.2.1.length:Int)) then
 (ai (xH ((x.1.2.2.2.1.getD s.toNat ([],[],0,0)),(x.2.2.2.2.1.getD s.toNat ([],[],0,0)))) fun y=>
 (if ((!y)=true) then
 (Sum.inr (Sum.inl ())) else
 (Sum.inl (az (s+1))))) else
 (Sum.inr (Sum.inr (()))))
def lW (x:((Int×Int×Int×List (List Int×List I6×I2)×List (Int×I3))×Int×Int×Int×List (List Int×List I6×I2)×List (Int×I3))) (s:Int):Prop:=
 ((s<(x.1.2.2.2.1.length:Int))->
 (((0<=s)/\ (s<(x.1.2.2.2.1.length:Int)))/\
 ((s.toNat<x.1.2.2.2.1.length)/\
 ((s.toNat<x.1.2.2.2.1.length)/\
 (((0<=s)/\ (s<(x.2.2.2.2.1.length:Int)))/\
 ((s.toNat<x.2.2.2.2.1.length)/\
 ((s.toNat<x.2.2.2.2.1.length)/\
 (n8 ((x.1.2.2.2.1.getD s.toNat ([],[],0,0)),(x.2.2.2.2.1.getD s.toNat ([],[],0,0)))))))))))
def Bx (x:((Int×Int×Int×List (List Int×List I6×I2)×List (Int×I3))×Int×Int×Int×List (List Int×List I6×I2)×List (Int×I3))) (s:Int):Tr (Int⊕(Unit⊕Unit)) true:=
 (.i10 (s<(nL x.1.2.2.2.1))
 (.gK s x.1.2.2.2.1
 (.gK s x.2.2.2.2.1
 (.fn xI ((gT x.1.2.2.2.1 s ([],[],iR)),(gT x.2.2.2.2.1 s ([],[],iR))) fun y=>
 (.nT (!y)
 (.ret (.inr (Sum.inl ())))
 (.ret (.inl (w1 s)))))))
 (.ret (.inr (Sum.inr (())))))
def cr (x:((Int×Int×Int×List (List Int×List I6×I2)×List (Int×I3))×Int×Int×Int×List (List Int×List I6×I2)×List (Int×I3))):Bool:=
 (if ((x.1.1 !=x.2.1)=true) then
 false else
 (if ((x.1.2.1 !=x.2.2.1)=true) then
 false else
 (if ((x.1.2.2.1 !=x.2.2.2.1)=true) then
 false else
 (if (((x.1.2.2.2.1.length:Int) !=(x.2.2.2.2.1.length:Int))=true) then
 false else
 (ai (Bo (x.1.2.2.2.2,x.2.2.2.2.2)) fun y=>
 (if ((!y)=true) then
 false else
 (ai (run (ik x) 0) fun r=>
 (Sum.elim (fun a=>
 false) (fun b=>
 true) r))))))))
def bP (x:((Int×Int×Int×List (List Int×List I6×I2)×List (Int×I3))×Int×Int×Int×List (List Int×List I6×I2)×List (Int×I3))):Prop:=
 (¬((x.1.1 !=x.2.1)=true)->
 (¬((x.1.2.1 !=x.2.2.1)=true)->
 (¬((x.1.2.2.1 !=x.2.2.2.1)=true)->
 (¬(((x.1.2.2.2.1.length:Int) !=(x.2.2.2.2.1.length:Int))=true)->
 ((qU (x.1.2.2.2.2,x.2.2.2.2.2))/\
 aA (Bo (x.1.2.2.2.2,x.2.2.2.2.2)) fun y=>
 (¬((!y)=true)->
 (Term (ik x) (lW x) 0)))))))
def WS (x:((Int×Int×Int×List (List Int×List I6×I2)×List (Int×I3))×Int×Int×Int×List (List Int×List I6×I2)×List (Int×I3))):Tr Bool true:=
 (.iK (x.1.1 !=x.2.1)
 (.ret false)
 (.iK (x.1.2.1 !=x.2.2.1)
 (.ret false)
 (.iK (x.1.2.2.1 !=x.2.2.2.1)
 (.ret false)
 (.iK ((nL x.1.2.2.2.1) !=(nL x.2.2.2.2.1))
 (.ret false)
 (.fn xO (x.1.2.2.2.2,x.2.2.2.2.2) fun y=>
 (.iK (!y)
 (.ret false)
 (aB.lp (HY x) (Bx x) z0 fun r=>
 (.xW r (fun a=>
 (.ret false)) (fun b=>
 (.ret true))))))))))
abbrev cE:cC:=⟨(.pair (.agg (Ty.prod yi (Ty.prod yi (Ty.prod yi (Ty.prod (Ty.sl (Ty.prod (Ty.sl yi) (Ty.prod (Ty.sl aV) aS))) (Ty.sl (Ty.prod yi cq))))))) (.agg (Ty.prod yi (Ty.prod yi (Ty.prod yi (Ty.prod (Ty.sl (Ty.prod (Ty.sl yi) (Ty.prod (Ty.sl aV) aS))) (Ty.sl (Ty.prod yi cq)))))))),(.one Ty.bool),bP,cr⟩
theorem SI:ah Tryz.prog 12 (aj cE):=ah.tr cE WS (fn:=Tryz.f12) ay uK mixed (by kernel_rfl) (av.nil _ _) (fun x=>(au.tr ay (ae.bS uK (av.nil _ _)) mixed 0 (HY x) (Bx x) au.nil (by kernel_rfl) fun g s Q=>(by kernel_rfl))) (fun x=>(by kernel_rfl)) fun x Q=>(by kernel_rfl)
def IV:List (Nat×Ev.Spec):=(12,aj cE)::L0
theorem JS:ae Tryz.prog IV:=ae.add (fn:=Tryz.f12) (by kernel_rfl) SI uK
end Go.Proofs.YtbjfokijjefoeaaGreat
