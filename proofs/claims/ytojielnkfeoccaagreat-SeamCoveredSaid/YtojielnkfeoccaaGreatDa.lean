/- Models of functions, and that the code does what they say. -/
import Derived.Test.YtojielnkfeoccaaGreatEvY
import Derived.Test.YtojielnkfeoccaaGreatTt
noncomputable section
set_option linter.unusedSectionVars false
set_option linter.unusedVariables false
set_option linter.unusedSimpArgs false
namespace Go.Proofs.YtojielnkfeoccaaGreat
open Go Go.Ev Go.Proofs
def FB (x:Int):Bool:=
 (x !=x)
def Qx (_:Int):Prop:=True
def Wb (x:Int):Tr Bool false:=
 (.ret (x !=x))
abbrev xe:fg:=⟨(.one yi),(.one Ty.bool),Qx,FB⟩
theorem Tg:ak Tryz.prog 77 (aq xe):=ak.tr xe Wb (fn:=Tryz.f77) aD (af.nil _) mixed (by kernel_rfl) (aA.nil _ _) (fun x=>ay.nil) (fun x=>(by kernel_rfl)) fun x Q=>(by kernel_rfl)
def KS:List (Nat×Ev.Spec):=(77,aq xe):: []
theorem AR:af Tryz.prog KS:=af.add (fn:=Tryz.f77) (by kernel_rfl) Tg (af.nil _)
def compare (x:I2):Int:=
 (au (FB x.1) fun y=>
 (au (FB x.2) fun bq=>
 (if (y=true) then
 (if (bq=true) then
 0 else
 (-1)) else
 (if (bq=true) then
 1 else
 (if (x.1<x.2) then
 (-1) else
 (if (x.1>x.2) then
 1 else
 0))))))
def Ji (_:I2):Prop:=True
def PG (x:I2):Tr Int false:=
 (.fn0 xe x.1 trivial fun y=>
 (.fn0 xe x.2 trivial fun bq=>
 (.jM y
 (.jM bq
 (.ret z0)
 (.ret (-1)))
 (.jM bq
 (.ret z1)
 (.tB (x.1<x.2)
 (.ret (-1))
 (.tB (x.1>x.2)
 (.ret z1)
 (.ret z0)))))))
abbrev mL:fg:=⟨(.pair (.one yi) (.one yi)),(.one yi),Ji,compare⟩
theorem LH:ak Tryz.prog 52 (aq mL):=ak.tr mL PG (fn:=Tryz.f52) aD AR mixed (by kernel_rfl) (aA.nil _ _) (fun x=>ay.nil) (fun x=>(by kernel_rfl)) fun x Q=>(by kernel_rfl)
def DW:List (Nat×Ev.Spec):=(52,aq mL)::KS
theorem pC:af Tryz.prog DW:=af.add (fn:=Tryz.f52) (by kernel_rfl) LH AR
def Om (x:(List Int)):aW:=⟨[],⟨dy 18 0 [(5,.v (.one (.full 0))),(6,.v (.one (.i .i64))),(7,.v (.one (.i .i64)))],[.row yi 0],0,none,[],[0,2],[1],[.i],[.i (x.length:Int),.l yi x]⟩,[⟨.ret,.ret,⟨dy 18 0 [(2,.v (.one (.b)))],[],0,none,[],[0],[],[],[.b false]⟩⟩,⟨(.exit 0),.normal,⟨dy 18 0 [],[],0,none,[],[],[],[],[]⟩⟩]⟩
def mz (x:(List Int)) (s:Int):Int⊕(Unit⊕Unit):=
 (if (s<(x.length:Int)) then
 (if ((x.getD s.toNat 0)<(-1048576)) then
 (Sum.inr (Sum.inl ())) else
 (if ((x.getD s.toNat 0)>1048576) then
 (Sum.inr (Sum.inl ())) else
 (Sum.inl (aj (s+1))))) else
 (Sum.inr (Sum.inr (()))))
def AE (x:(List Int)) (s:Int):Prop:=
 ((s<(x.length:Int))->
 (((0<=s)/\ (s<(x.length:Int)))/\
 ((s.toNat<x.length)/\
 (s.toNat<x.length))))
def FQ (x:(List Int)) (s:Int):Tr (Int⊕(Unit⊕Unit)) true:=
 (.i10 (s<(nL x))
 (.lA s x
 (.tB ((gI x s)<(-1048576))
 (.ret (.inr (Sum.inl ())))
 (.tB ((gI x s)>1048576)
 (.ret (.inr (Sum.inl ())))
 (.ret (.inl (w1 s))))))
 (.ret (.inr (Sum.inr (())))))
def near (x:(List Int)):Bool:=
 (au (run (mz x) 0) fun r=>
 (Sum.elim (fun a=>
 false) (fun b=>
 true) r))
def xC (x:(List Int)):Prop:=
 (Term (mz x) (AE x) 0)
def Y1 (x:(List Int)):Tr Bool true:=
 (aW.lp (Om x) (FQ x) z0 fun r=>
 (.Bq r (fun a=>
 (.ret false)) (fun b=>
 (.ret true))))
abbrev Ds:fg:=⟨(.one (Ty.sl yi)),(.one Ty.bool),xC,near⟩
theorem Wp:ak Tryz.prog 92 (aq Ds):=ak.tr Ds Y1 (fn:=Tryz.f92) aD pC mixed (by kernel_rfl) (aA.nil _ _) (fun x=>(ay.tr aD (af.eO pC (aA.nil _ _)) mixed 0 (Om x) (FQ x) ay.nil (by kernel_rfl) fun g s Q=>(by kernel_rfl))) (fun x=>(by kernel_rfl)) fun x Q=>(by kernel_rfl)
def O1:List (Nat×Ev.Spec):=(92,aq Ds)::DW
theorem vL:af Tryz.prog O1:=af.add (fn:=Tryz.f92) (by kernel_rfl) Wp pC
def GY (x:(Int×List Int)):aW:=⟨[],⟨dy 23 0 [(0,.v (.one (.i .i64))),(7,.v (.one (.full 0))),(8,.v (.one (.i .i64))),(9,.v (.one (.i .i64)))],[.row yi 0],0,none,[],[0,1,3],[2],[.i],[.i x.1,.i (x.2.length:Int),.l yi x.2]⟩,[⟨.ret,.ret,⟨dy 23 0 [(4,.v (.one (.b)))],[],0,none,[],[0],[],[],[.b false]⟩⟩,⟨(.exit 0),.normal,⟨dy 23 0 [],[],0,none,[],[],[],[],[]⟩⟩]⟩
def kA (x:(Int×List Int)) (s:Int):Int⊕(Unit⊕Unit):=
 (if (s<(x.2.length:Int)) then
 (if ((x.2.getD s.toNat 0)<(aj (0- x.1))) then
 (Sum.inr (Sum.inl ())) else
 (if ((x.2.getD s.toNat 0)>x.1) then
 (Sum.inr (Sum.inl ())) else
 (Sum.inl (aj (s+1))))) else
 (Sum.inr (Sum.inr (()))))
def uO (x:(Int×List Int)) (s:Int):Prop:=
 ((s<(x.2.length:Int))->
 (((0<=s)/\ (s<(x.2.length:Int)))/\
 ((s.toNat<x.2.length)/\
 (s.toNat<x.2.length))))
def A9 (x:(Int×List Int)) (s:Int):Tr (Int⊕(Unit⊕Unit)) true:=
 (.i10 (s<(nL x.2))
 (.lA s x.2
 (.tB ((gI x.2 s)<(aj (z0- x.1)))
 (.ret (.inr (Sum.inl ())))
 (.tB ((gI x.2 s)>x.1)
 (.ret (.inr (Sum.inl ())))
 (.ret (.inl (w1 s))))))
 (.ret (.inr (Sum.inr (())))))
def within (x:(Int×List Int)):Bool:=
 (au (run (kA x) 0) fun r=>
 (Sum.elim (fun a=>
 false) (fun b=>
 true) r))
def vV (x:(Int×List Int)):Prop:=
 (Term (kA x) (uO x) 0)
def U0 (x:(Int×List Int)):Tr Bool true:=
 (aW.lp (GY x) (A9 x) z0 fun r=>
 (.Bq r (fun a=>
 (.ret false)) (fun b=>
 (.ret true))))
abbrev yO:fg:=⟨(.pair (.one yi) (.one (Ty.sl yi))),(.one Ty.bool),vV,within⟩
theorem Rl:ak Tryz.prog 43 (aq yO):=ak.tr yO U0 (fn:=Tryz.f43) aD vL mixed (by kernel_rfl) (aA.nil _ _) (fun x=>(ay.tr aD (af.eO vL (aA.nil _ _)) mixed 0 (GY x) (A9 x) ay.nil (by kernel_rfl) fun g s Q=>(by kernel_rfl))) (fun x=>(by kernel_rfl)) fun x Q=>(by kernel_rfl)
def GN:List (Nat×Ev.Spec):=(43,aq yO)::O1
theorem qQ:af Tryz.prog GN:=af.add (fn:=Tryz.f43) (by kernel_rfl) Rl vL
def S8 (x:(List I2)):aW:=⟨[],⟨dy 19 0 [(5,.v (.one (.full 0))),(6,.v (.one (.i .i64))),(7,.v (.one (.i .i64)))],[.row aH 0],0,none,[],[0,2],[1],[.i],[.i (x.length:Int),.l aH x]⟩,[⟨.ret,.ret,⟨dy 19 0 [(2,.v (.one (.b)))],[],0,none,[],[0],[],[],[.b false]⟩⟩,⟨(.exit 0),.normal,⟨dy 19 0 [],[],0,none,[],[],[],[],[]⟩⟩]⟩
def oB (x:(List I2)) (s:Int):Int⊕(Unit⊕Unit):=
 (if (s<(x.length:Int)) then
 (au (near [(x.getD s.toNat (0,0)).1,(x.getD s.toNat (0,0)).2]) fun y=>
 (if ((!y)=true) then
 (Sum.inr (Sum.inl ())) else
 (Sum.inl (aj (s+1))))) else
 (Sum.inr (Sum.inr (()))))
def C7 (x:(List I2)) (s:Int):Prop:=
 ((s<(x.length:Int))->
 (((0<=s)/\ (s<(x.length:Int)))/\
 ((s.toNat<x.length)/\
 ((s.toNat<x.length)/\
 (xC [(x.getD s.toNat (0,0)).1,(x.getD s.toNat (0,0)).2])))))
def JR (x:(List I2)) (s:Int):Tr (Int⊕(Unit⊕Unit)) true:=
 (.i10 (s<(nL x))
 (.lA s x
 (.fn Ds [(gT x s aY).1,(gT x s aY).2] fun y=>
 (.jM (!y)
 (.ret (.inr (Sum.inl ())))
 (.ret (.inl (w1 s))))))
 (.ret (.inr (Sum.inr (())))))
def ZJ (x:(List I2)):Bool:=
 (au (run (oB x) 0) fun r=>
 (Sum.elim (fun a=>
 false) (fun b=>
 true) r))
def xd (x:(List I2)):Prop:=
 (Term (oB x) (C7 x) 0)
def abd (x:(List I2)):Tr Bool true:=
 (aW.lp (S8 x) (JR x) z0 fun r=>
 (.Bq r (fun a=>
 (.ret false)) (fun b=>
 (.ret true))))
abbrev Fz:fg:=⟨(.one (Ty.sl aH)),(.one Ty.bool),xd,ZJ⟩
theorem YK:ak Tryz.prog 72 (aq Fz):=ak.tr Fz abd (fn:=Tryz.f72) aD qQ mixed (by kernel_rfl) (aA.nil _ _) (fun x=>(ay.tr aD (af.eO qQ (aA.nil _ _)) mixed 0 (S8 x) (JR x) ay.nil (by kernel_rfl) fun g s Q=>(by kernel_rfl))) (fun x=>(by kernel_rfl)) fun x Q=>(by kernel_rfl)
def UF:List (Nat×Ev.Spec):=(72,aq Fz)::GN
theorem zO:af Tryz.prog UF:=af.add (fn:=Tryz.f72) (by kernel_rfl) YK qQ
def S9 (x:(List I3)):aW:=⟨[],⟨dy 21 0 [(5,.v (.one (.full 0))),(6,.v (.one (.i .i64))),(7,.v (.one (.i .i64)))],[.row cj 0],0,none,[],[0,2],[1],[.i],[.i (x.length:Int),.l cj x]⟩,[⟨.ret,.ret,⟨dy 21 0 [(2,.v (.one (.b)))],[],0,none,[],[0],[],[],[.b false]⟩⟩,⟨(.exit 0),.normal,⟨dy 21 0 [],[],0,none,[],[],[],[],[]⟩⟩]⟩
def oC (x:(List I3)) (s:Int):Int⊕(Unit⊕Unit):=
 (if (s<(x.length:Int)) then
 (au (near [(x.getD s.toNat (0,0,0)).1,(x.getD s.toNat (0,0,0)).2.1,(x.getD s.toNat (0,0,0)).2.2]) fun y=>
 (if ((!y)=true) then
 (Sum.inr (Sum.inl ())) else
 (Sum.inl (aj (s+1))))) else
 (Sum.inr (Sum.inr (()))))
def C8 (x:(List I3)) (s:Int):Prop:=
 ((s<(x.length:Int))->
 (((0<=s)/\ (s<(x.length:Int)))/\
 ((s.toNat<x.length)/\
 ((s.toNat<x.length)/\
 (xC [(x.getD s.toNat (0,0,0)).1,(x.getD s.toNat (0,0,0)).2.1,(x.getD s.toNat (0,0,0)).2.2])))))
def JT (x:(List I3)) (s:Int):Tr (Int⊕(Unit⊕Unit)) true:=
 (.i10 (s<(nL x))
 (.lA s x
 (.fn Ds [(gT x s EY).1,(gT x s EY).2.1,(gT x s EY).2.2] fun y=>
 (.jM (!y)
 (.ret (.inr (Sum.inl ())))
 (.ret (.inl (w1 s))))))
 (.ret (.inr (Sum.inr (())))))
def ZK (x:(List I3)):Bool:=
 (au (run (oC x) 0) fun r=>
 (Sum.elim (fun a=>
 false) (fun b=>
 true) r))
def BV (x:(List I3)):Prop:=
 (Term (oC x) (C8 x) 0)
def abe (x:(List I3)):Tr Bool true:=
 (aW.lp (S9 x) (JT x) z0 fun r=>
 (.Bq r (fun a=>
 (.ret false)) (fun b=>
 (.ret true))))
abbrev JS:fg:=⟨(.one (Ty.sl cj)),(.one Ty.bool),BV,ZK⟩
theorem YL:ak Tryz.prog 71 (aq JS):=ak.tr JS abe (fn:=Tryz.f71) aD zO mixed (by kernel_rfl) (aA.nil _ _) (fun x=>(ay.tr aD (af.eO zO (aA.nil _ _)) mixed 0 (S9 x) (JT x) ay.nil (by kernel_rfl) fun g s Q=>(by kernel_rfl))) (fun x=>(by kernel_rfl)) fun x Q=>(by kernel_rfl)
def UG:List (Nat×Ev.Spec):=(71,aq JS)::UF
theorem zS:af Tryz.prog UG:=af.add (fn:=Tryz.f71) (by kernel_rfl) YL zO
def Gh (x:(List I2)):aW:=⟨[],⟨dy 19 0 [(5,.v (.one (.full 0))),(6,.v (.one (.i .i64))),(7,.v (.one (.i .i64)))],[.row aH 0],0,none,[],[0,2],[1],[.i],[.i (x.length:Int),.l aH x]⟩,[⟨.ret,.ret,⟨dy 19 0 [(2,.v (.one (.b)))],[],0,none,[],[0],[],[],[.b false]⟩⟩,⟨(.exit 0),.normal,⟨dy 19 0 [],[],0,none,[],[],[],[],[]⟩⟩]⟩
def ko (x:(List I2)) (s:Int):Int⊕(Unit⊕Unit):=
 (if (s<(x.length:Int)) then
 (au (within (4096,[(x.getD s.toNat (0,0)).1,(x.getD s.toNat (0,0)).2])) fun y=>
 (if ((!y)=true) then
 (Sum.inr (Sum.inl ())) else
 (Sum.inl (aj (s+1))))) else
 (Sum.inr (Sum.inr (()))))
def uD (x:(List I2)) (s:Int):Prop:=
 ((s<(x.length:Int))->
 (((0<=s)/\ (s<(x.length:Int)))/\
 ((s.toNat<x.length)/\
 ((s.toNat<x.length)/\
 (vV (4096,[(x.getD s.toNat (0,0)).1,(x.getD s.toNat (0,0)).2]))))))
def AL (x:(List I2)) (s:Int):Tr (Int⊕(Unit⊕Unit)) true:=
 (.i10 (s<(nL x))
 (.lA s x
 (.fn yO (4096,[(gT x s aY).1,(gT x s aY).2]) fun y=>
 (.jM (!y)
 (.ret (.inr (Sum.inl ())))
 (.ret (.inl (w1 s))))))
 (.ret (.inr (Sum.inr (())))))
def fI (x:(List I2)):Bool:=
 (au (run (ko x) 0) fun r=>
 (Sum.elim (fun a=>
 false) (fun b=>
 true) r))
def ep (x:(List I2)):Prop:=
 (Term (ko x) (uD x) 0)
def UB (x:(List I2)):Tr Bool true:=
 (aW.lp (Gh x) (AL x) z0 fun r=>
 (.Bq r (fun a=>
 (.ret false)) (fun b=>
 (.ret true))))
abbrev nO:fg:=⟨(.one (Ty.sl aH)),(.one Ty.bool),ep,fI⟩
theorem Re:ak Tryz.prog 21 (aq nO):=ak.tr nO UB (fn:=Tryz.f21) aD zS mixed (by kernel_rfl) (aA.nil _ _) (fun x=>(ay.tr aD (af.eO zS (aA.nil _ _)) mixed 0 (Gh x) (AL x) ay.nil (by kernel_rfl) fun g s Q=>(by kernel_rfl))) (fun x=>(by kernel_rfl)) fun x Q=>(by kernel_rfl)
def GL:List (Nat×Ev.Spec):=(21,aq nO)::UG
theorem yA:af Tryz.prog GL:=af.add (fn:=Tryz.f21) (by kernel_rfl) Re zS
def Nz (x:(I2×I2)):I2:=
 (au (ZJ [x.1,x.2]) fun y=>
 (if ((!y)=true) then
 (0,0) else
 ((aj (x.1.1- x.2.1)),(aj (x.1.2- x.2.2)))))
def yI (x:(I2×I2)):Prop:=
 (xd [x.1,x.2])
def Zp (x:(I2×I2)):Tr I2 true:=
 (.fn Fz [x.1,x.2] fun y=>
 (.jM (!y)
 (.ret aY)
 (.ret ((aj (x.1.1- x.2.1)),(aj (x.1.2- x.2.2))))))
abbrev Ec:fg:=⟨(.pair (.agg aH) (.agg aH)),(.agg aH),yI,Nz⟩
theorem WY:ak Tryz.prog 111 (aq Ec):=ak.tr Ec Zp (fn:=Tryz.f111) aD yA mixed (by kernel_rfl) (aA.nil _ _) (fun x=>ay.nil) (fun x=>(by kernel_rfl)) fun x Q=>(by kernel_rfl)
def O6:List (Nat×Ev.Spec):=(111,aq Ec)::GL
theorem D6:af Tryz.prog O6:=af.add (fn:=Tryz.f111) (by kernel_rfl) WY yA
def Hs (x:(I2×I2)):I2:=
 (au (ZJ [x.1,x.2]) fun y=>
 (if ((!y)=true) then
 (0,5) else
 ((aj ((aj (x.1.1*x.2.2))- (aj (x.1.2*x.2.1)))),0)))
def Cx (x:(I2×I2)):Prop:=
 (xd [x.1,x.2])
def R2 (x:(I2×I2)):Tr I2 true:=
 (.fn Fz [x.1,x.2] fun y=>
 (.jM (!y)
 (.ret (z0,5))
 (.ret ((aj ((aj (x.1.1*x.2.2))- (aj (x.1.2*x.2.1)))),z0))))
abbrev wA:fg:=⟨(.pair (.agg aH) (.agg aH)),(.pair (.one yi) (.one yi)),Cx,Hs⟩
theorem PN:ak Tryz.prog 110 (aq wA):=ak.tr wA R2 (fn:=Tryz.f110) aD D6 mixed (by kernel_rfl) (aA.nil _ _) (fun x=>ay.nil) (fun x=>(by kernel_rfl)) fun x Q=>(by kernel_rfl)
def Gn:List (Nat×Ev.Spec):=(110,aq wA)::O6
theorem qP:af Tryz.prog Gn:=af.add (fn:=Tryz.f110) (by kernel_rfl) PN D6
def RW (x:(List Int)):aW:=⟨[],⟨dy 18 0 [(3,.v (.one (.i .i64))),(6,.v (.one (.full 0))),(7,.v (.one (.i .i64))),(8,.v (.one (.i .i64)))],[.row yi 0],0,none,[],[0,1,3],[2],[.i],[.i 0,.i (x.length:Int),.l yi x]⟩,[⟨.ret,.ret,⟨dy 18 0 [(2,.v (.one (.i .i64)))],[],0,none,[],[],[0],[.i],[]⟩⟩,⟨(.exit 0),.normal,⟨dy 18 0 [(3,.v (.one (.i .i64)))],[],0,none,[],[0],[],[],[.i 0]⟩⟩]⟩
def rQ (x:(List Int)) (s:Int):Int⊕(Int⊕Unit):=
 (if (s<(x.length:Int)) then
 (if (((x.getD s.toNat 0) !=0)=true) then
 (Sum.inr (Sum.inl (x.getD s.toNat 0))) else
 (Sum.inl (aj (s+1)))) else
 (Sum.inr (Sum.inr (()))))
def qh (x:(List Int)) (s:Int):Prop:=
 ((s<(x.length:Int))->
 (((0<=s)/\ (s<(x.length:Int)))/\
 ((s.toNat<x.length)/\
 (s.toNat<x.length))))
def Jm (x:(List Int)) (s:Int):Tr (Int⊕(Int⊕Unit)) true:=
 (.i10 (s<(nL x))
 (.lA s x
 (.jM ((gI x s) !=z0)
 (.ret (.inr (Sum.inl (gI x s))))
 (.ret (.inl (w1 s)))))
 (.ret (.inr (Sum.inr (())))))
def cor (x:(List Int)):Int:=
 (au (run (rQ x) 0) fun r=>
 (Sum.elim (fun a=>
 a) (fun b=>
 0) r))
def Hr (x:(List Int)):Prop:=
 (Term (rQ x) (qh x) 0)
def ZV (x:(List Int)):Tr Int true:=
 (aW.lp (RW x) (Jm x) z0 fun r=>
 (.Bq r (fun a=>
 (.ret a)) (fun b=>
 (.ret z0))))
abbrev NQ:fg:=⟨(.one (Ty.sl yi)),(.one yi),Hr,cor⟩
theorem X4:ak Tryz.prog 51 (aq NQ):=ak.tr NQ ZV (fn:=Tryz.f51) aD qP mixed (by kernel_rfl) (aA.nil _ _) (fun x=>(ay.tr aD (af.eO qP (aA.nil _ _)) mixed 0 (RW x) (Jm x) ay.nil (by kernel_rfl) fun g s Q=>(by kernel_rfl))) (fun x=>(by kernel_rfl)) fun x Q=>(by kernel_rfl)
def UC:List (Nat×Ev.Spec):=(51,aq NQ)::Gn
theorem Gl:af Tryz.prog UC:=af.add (fn:=Tryz.f51) (by kernel_rfl) X4 qP
def over (x:I2):Int:=
 (if ((x.2==0)=true) then
 3 else
 (if ((x.1==(-9223372036854775808))=true) then
 (if ((x.2==(-1))=true) then
 4 else
 0) else
 0))
def T8 (_:I2):Prop:=True
def Zb (x:I2):Tr Int false:=
 (.jM (x.2==z0)
 (.ret 3)
 (.jM (x.1==(-9223372036854775808))
 (.jM (x.2==(-1))
 (.ret 4)
 (.ret z0))
 (.ret z0)))
abbrev Ii:fg:=⟨(.pair (.one yi) (.one yi)),(.one yi),T8,over⟩
theorem Ww:ak Tryz.prog 44 (aq Ii):=ak.tr Ii Zb (fn:=Tryz.f44) aD Gl mixed (by kernel_rfl) (aA.nil _ _) (fun x=>ay.nil) (fun x=>(by kernel_rfl)) fun x Q=>(by kernel_rfl)
def O3:List (Nat×Ev.Spec):=(44,aq Ii)::UC
theorem D2:af Tryz.prog O3:=af.add (fn:=Tryz.f44) (by kernel_rfl) Ww Gl
def zY (x:I2):I3:=
 (au (over x) fun y=>
 (if ((y !=0)=true) then
 (0,0,y) else
 (if (((Int.tmod x.1 x.2) !=0)=true) then
 (if ((aj (((BitVec.toNat ((BitVec.ofInt 64 (Int.tmod x.1 x.2))^^^(BitVec.ofInt 64 x.2))):Nat):Int))<0) then
 ((aj ((aj (Int.tdiv x.1 x.2))- 1)),(aj ((Int.tmod x.1 x.2)+x.2)),0) else
 ((aj (Int.tdiv x.1 x.2)),(Int.tmod x.1 x.2),0)) else
 ((aj (Int.tdiv x.1 x.2)),(Int.tmod x.1 x.2),0))))
def nS (x:I2):Prop:=
 (aM (over x) fun y=>
 (¬((y !=0)=true)->
 ((x.2≠0)/\
 (x.2≠0))))
def UZ (x:I2):Tr I3 true:=
 (.fn0 Ii x trivial fun y=>
 (.n9 (y !=z0)
 (.ret (z0,z0,y))
 (.od (x.2≠z0)
 (.od (x.2≠z0)
 (.jM ((Int.tmod x.1 x.2) !=z0)
 (.tB ((aj (((BitVec.toNat ((BitVec.ofInt 64 (Int.tmod x.1 x.2))^^^(BitVec.ofInt 64 x.2))):Nat):Int))<z0)
 (.ret ((wm (aj (Int.tdiv x.1 x.2))),(aj ((Int.tmod x.1 x.2)+x.2)),z0))
 (.ret ((aj (Int.tdiv x.1 x.2)),(Int.tmod x.1 x.2),z0)))
 (.ret ((aj (Int.tdiv x.1 x.2)),(Int.tmod x.1 x.2),z0)))))))
abbrev s7:fg:=⟨(.pair (.one yi) (.one yi)),(.pair (.one yi) (.pair (.one yi) (.one yi))),nS,zY⟩
theorem Rk:ak Tryz.prog 22 (aq s7):=ak.tr s7 UZ (fn:=Tryz.f22) aD D2 mixed (by kernel_rfl) (aA.nil _ _) (fun x=>ay.nil) (fun x=>(by kernel_rfl)) fun x Q=>(by kernel_rfl)
def GM:List (Nat×Ev.Spec):=(22,aq s7)::O3
theorem yC:af Tryz.prog GM:=af.add (fn:=Tryz.f22) (by kernel_rfl) Rk D2
def OB (x:I6):I2:=
 (au (fI [x.1,x.2.1,x.2.2]) fun y=>
 (if ((!y)=true) then
 (0,5) else
 (au (Nz (x.2.1,x.1)) fun bq=>
 (au (Nz (x.2.2,x.1)) fun y_2=>
 (au (Hs (bq,y_2)) fun bJ=>
 bJ)))))
def FY (x:I6):Prop:=
 ((ep [x.1,x.2.1,x.2.2])/\
 aM (fI [x.1,x.2.1,x.2.2]) fun y=>
 (¬((!y)=true)->
 ((yI (x.2.1,x.1))/\
 aM (Nz (x.2.1,x.1)) fun bq=>
 ((yI (x.2.2,x.1))/\
 aM (Nz (x.2.2,x.1)) fun y_2=>
 (Cx (bq,y_2))))))
def Wy (x:I6):Tr I2 true:=
 (.fn nO [x.1,x.2.1,x.2.2] fun y=>
 (.n9 (!y)
 (.ret (z0,5))
 (.fn Ec (x.2.1,x.1) fun bq=>
 (.fn Ec (x.2.2,x.1) fun y_2=>
 (.fn wA (bq,y_2) fun bJ=>
 (.ret bJ))))))
abbrev B5:fg:=⟨(.agg bZ),(.pair (.one yi) (.one yi)),FY,OB⟩
theorem T9:ak Tryz.prog 89 (aq B5):=ak.tr B5 Wy (fn:=Tryz.f89) aD yC mixed (by kernel_rfl) (aA.nil _ _) (fun x=>ay.nil) (fun x=>(by kernel_rfl)) fun x Q=>(by kernel_rfl)
def KX:List (Nat×Ev.Spec):=(89,aq B5)::GM
theorem AY:af Tryz.prog KX:=af.add (fn:=Tryz.f89) (by kernel_rfl) T9 yC
def ON (x:I6):I2:=
 (au (OB x) fun y=>
 y)
def tS (x:I6):Prop:=
 (FY x)
def WS (x:I6):Tr I2 true:=
 (.fn B5 x fun y=>
 (.ret y))
abbrev xR:fg:=⟨(.pair (.agg aH) (.pair (.agg aH) (.agg aH))),(.pair (.one yi) (.one yi)),tS,ON⟩
theorem Us:ak Tryz.prog 64 (aq xR):=ak.tr xR WS (fn:=Tryz.f64) aD AY mixed (by kernel_rfl) (aA.nil _ _) (fun x=>ay.nil) (fun x=>(by kernel_rfl)) fun x Q=>(by kernel_rfl)
def KY:List (Nat×Ev.Spec):=(64,aq xR)::KX
theorem AZ:af Tryz.prog KY:=af.add (fn:=Tryz.f64) (by kernel_rfl) Us AY
def GO (x:I6):I2:=
 (au (ON x) fun y=>
 (au (compare (y.1,0)) fun bq=>
 (bq,y.2)))
def zW (x:I6):Prop:=
 (tS x)
def WW (x:I6):Tr I2 true:=
 (.fn xR x fun y=>
 (.fn0 mL (y.1,z0) trivial fun bq=>
 (.ret (bq,y.2))))
abbrev yD:fg:=⟨(.pair (.agg aH) (.pair (.agg aH) (.agg aH))),(.pair (.one yi) (.one yi)),zW,GO⟩
theorem UK:ak Tryz.prog 121 (aq yD):=ak.tr yD WW (fn:=Tryz.f121) aD AZ mixed (by kernel_rfl) (aA.nil _ _) (fun x=>ay.nil) (fun x=>(by kernel_rfl)) fun x Q=>(by kernel_rfl)
def K2:List (Nat×Ev.Spec):=(121,aq yD)::KY
theorem A3:af Tryz.prog K2:=af.add (fn:=Tryz.f121) (by kernel_rfl) UK AZ
def mright (x:I6):Bool:=
 (au (ON x) fun y=>
 (if ((y.2==0)=true) then
 (y.1 !=0) else
 false))
def gy (x:I6):Prop:=
 (tS x)
def TL (x:I6):Tr Bool true:=
 (.fn xR x fun y=>
 (.jM (y.2==z0)
 (.ret (y.1 !=z0))
 (.ret false)))
abbrev lU:fg:=⟨(.agg bZ),(.one Ty.bool),gy,mright⟩
theorem QG:ak Tryz.prog 35 (aq lU):=ak.tr lU TL (fn:=Tryz.f35) aD A3 mixed (by kernel_rfl) (aA.nil _ _) (fun x=>ay.nil) (fun x=>(by kernel_rfl)) fun x Q=>(by kernel_rfl)
def GD:List (Nat×Ev.Spec):=(35,aq lU)::K2
theorem yp:af Tryz.prog GD:=af.add (fn:=Tryz.f35) (by kernel_rfl) QG A3
def TG (x:(List I3×List I2×List I3×List I9)):Bool:=
 (if ((aS (aS (x.1.length:Int) (x.2.1.length:Int)) (x.2.2.1.length:Int))<=2000) then
 (decide ((x.2.2.2.length:Int)<=500)) else
 false)
def TJ (_:(List I3×List I2×List I3×List I9)):Prop:=True
def YY (x:(List I3×List I2×List I3×List I9)):Tr Bool false:=
 (.tB ((aS (aS (nL x.1) (nL x.2.1)) (nL x.2.2.1))<=2000)
 (.ret (decide ((nL x.2.2.2)<=500)))
 (.ret false))
abbrev H7:fg:=⟨(.agg (Ty.prod (Ty.sl cj) (Ty.prod (Ty.sl aH) (Ty.prod (Ty.sl cj) (Ty.sl kB))))),(.one Ty.bool),TJ,TG⟩
theorem Wm:ak Tryz.prog 70 (aq H7):=ak.tr H7 YY (fn:=Tryz.f70) aD yp mixed (by kernel_rfl) (aA.nil _ _) (fun x=>ay.nil) (fun x=>(by kernel_rfl)) fun x Q=>(by kernel_rfl)
def O0:List (Nat×Ev.Spec):=(70,aq H7)::GD
theorem D1:af Tryz.prog O0:=af.add (fn:=Tryz.f70) (by kernel_rfl) Wm yp
def among (x:(Int×Int×Bool)):Bool:=
 (if (x.1>=0) then
 (if (x.1<x.2.1) then
 true else
 (if (x.2.2=true) then
 (x.1==(-1)) else
 false)) else
 (if (x.2.2=true) then
 (x.1==(-1)) else
 false))
def Pq (_:(Int×Int×Bool)):Prop:=True
def Vx (x:(Int×Int×Bool)):Tr Bool false:=
 (.tB (x.1>=z0)
 (.tB (x.1<x.2.1)
 (.ret true)
 (.jM x.2.2
 (.ret (x.1==(-1)))
 (.ret false)))
 (.jM x.2.2
 (.ret (x.1==(-1)))
 (.ret false)))
abbrev ji:fg:=⟨(.pair (.one yi) (.pair (.one yi) (.one Ty.bool))),(.one Ty.bool),Pq,among⟩
theorem RD:ak Tryz.prog 73 (aq ji):=ak.tr ji Vx (fn:=Tryz.f73) aD D1 mixed (by kernel_rfl) (aA.nil _ _) (fun x=>ay.nil) (fun x=>(by kernel_rfl)) fun x Q=>(by kernel_rfl)
def KH:List (Nat×Ev.Spec):=(73,aq ji)::O0
theorem oN:af Tryz.prog KH:=af.add (fn:=Tryz.f73) (by kernel_rfl) RD D1
def FO (x:(List I3×List I2×List I3×List I9)):aW:=⟨[],⟨dy 86 0 [(1,.v (.one (.ptr 0 0))),(29,.v (.one (.full 4))),(30,.v (.one (.i .i64))),(31,.v (.one (.i .i64)))],[.cells [.full 1,.full 2,.full 3,.full 4] 41,.row cj 0,.row aH 0,.row cj 0,.row kB 0],0,none,[],[0,2,3,4,5],[1],[.i],[.i (x.2.2.2.length:Int),.l cj x.1,.l aH x.2.1,.l cj x.2.2.1,.l kB x.2.2.2]⟩,[⟨.ret,.ret,⟨dy 86 0 [(2,.v (.one (.b)))],[],0,none,[],[0],[],[],[.b false]⟩⟩,⟨(.exit 0),.normal,⟨dy 86 0 [],[],0,none,[],[],[],[],[]⟩⟩]⟩
def fW (x:(List I3×List I2×List I3×List I9)) (s:Int):Int⊕(Unit⊕Unit):=
 (if (s<(x.2.2.2.length:Int)) then
 (au (among ((x.2.2.2.getD s.toNat ((0,0,0),(0,0,0),0,0,0)).1.1,(x.1.length:Int),false)) fun y=>
 (if ((!y)=true) then
 (Sum.inr (Sum.inl ())) else
 (au (among ((x.2.2.2.getD s.toNat ((0,0,0),(0,0,0),0,0,0)).1.2.1,(x.2.1.length:Int),true)) fun bq=>
 (if ((!bq)=true) then
 (Sum.inr (Sum.inl ())) else
 (au (among ((x.2.2.2.getD s.toNat ((0,0,0),(0,0,0),0,0,0)).1.2.2,(x.2.2.1.length:Int),true)) fun y_2=>
 (if ((!y_2)=true) then
 (Sum.inr (Sum.inl ())) else
 (if ((!((decide ((x.2.2.2.getD s.toNat ((0,0,0),(0,0,0),0,0,0)).1.2.1<0))==(decide ((x.2.2.2.getD s.toNat ((0,0,0),(0,0,0),0,0,0)).1.2.1<0))))=true) then
 (Sum.inr (Sum.inl ())) else
 (if ((!((decide ((x.2.2.2.getD s.toNat ((0,0,0),(0,0,0),0,0,0)).1.2.2<0))==(decide ((x.2.2.2.getD s.toNat ((0,0,0),(0,0,0),0,0,0)).1.2.2<0))))=true) then
 (Sum.inr (Sum.inl ())) else
 (au (among ((x.2.2.2.getD s.toNat ((0,0,0),(0,0,0),0,0,0)).2.1.1,(x.1.length:Int),false)) fun bJ=>
 (if ((!bJ)=true) then
 (Sum.inr (Sum.inl ())) else
 (au (among ((x.2.2.2.getD s.toNat ((0,0,0),(0,0,0),0,0,0)).2.1.2.1,(x.2.1.length:Int),true)) fun bn=>
 (if ((!bn)=true) then
 (Sum.inr (Sum.inl ())) else
 (au (among ((x.2.2.2.getD s.toNat ((0,0,0),(0,0,0),0,0,0)).2.1.2.2,(x.2.2.1.length:Int),true)) fun bz=>
 (if ((!bz)=true) then
 (Sum.inr (Sum.inl ())) else
 (if ((!((decide ((x.2.2.2.getD s.toNat ((0,0,0),(0,0,0),0,0,0)).2.1.2.1<0))==(decide ((x.2.2.2.getD s.toNat ((0,0,0),(0,0,0),0,0,0)).1.2.1<0))))=true) then
 (Sum.inr (Sum.inl ())) else
 (if ((!((decide ((x.2.2.2.getD s.toNat ((0,0,0),(0,0,0),0,0,0)).2.1.2.2<0))==(decide ((x.2.2.2.getD s.toNat ((0,0,0),(0,0,0),0,0,0)).1.2.2<0))))=true) then
 (Sum.inr (Sum.inl ())) else
 (au (among ((x.2.2.2.getD s.toNat ((0,0,0),(0,0,0),0,0,0)).2.2.1,(x.1.length:Int),false)) fun bN=>
 (if ((!bN)=true) then
 (Sum.inr (Sum.inl ())) else
 (au (among ((x.2.2.2.getD s.toNat ((0,0,0),(0,0,0),0,0,0)).2.2.2.1,(x.2.1.length:Int),true)) fun cC=>
 (if ((!cC)=true) then
 (Sum.inr (Sum.inl ())) else
 (au (among ((x.2.2.2.getD s.toNat ((0,0,0),(0,0,0),0,0,0)).2.2.2.2,(x.2.2.1.length:Int),true)) fun Ln=>
 (if ((!Ln)=true) then
 (Sum.inr (Sum.inl ())) else
 (if ((!((decide ((x.2.2.2.getD s.toNat ((0,0,0),(0,0,0),0,0,0)).2.2.2.1<0))==(decide ((x.2.2.2.getD s.toNat ((0,0,0),(0,0,0),0,0,0)).1.2.1<0))))=true) then
 (Sum.inr (Sum.inl ())) else
 (if ((!((decide ((x.2.2.2.getD s.toNat ((0,0,0),(0,0,0),0,0,0)).2.2.2.2<0))==(decide ((x.2.2.2.getD s.toNat ((0,0,0),(0,0,0),0,0,0)).1.2.2<0))))=true) then
 (Sum.inr (Sum.inl ())) else
 (Sum.inl (aj (s+1))))))))))))))))))))))))))) else
 (Sum.inr (Sum.inr (()))))
def pg (x:(List I3×List I2×List I3×List I9)) (s:Int):Prop:=
 ((s<(x.2.2.2.length:Int))->
 (((0<=s)/\ (s<(x.2.2.2.length:Int)))/\
 ((s.toNat<x.2.2.2.length)/\
 (s.toNat<x.2.2.2.length))))
def AB (x:(List I3×List I2×List I3×List I9)) (s:Int):Tr (Int⊕(Unit⊕Unit)) true:=
 (.i10 (s<(nL x.2.2.2))
 (.lA s x.2.2.2
 (.fn0 ji ((gT x.2.2.2 s vW).1.1,(nL x.1),false) trivial fun y=>
 (.jM (!y)
 (.ret (.inr (Sum.inl ())))
 (.fn0 ji ((gT x.2.2.2 s vW).1.2.1,(nL x.2.1),true) trivial fun bq=>
 (.jM (!bq)
 (.ret (.inr (Sum.inl ())))
 (.fn0 ji ((gT x.2.2.2 s vW).1.2.2,(nL x.2.2.1),true) trivial fun y_2=>
 (.jM (!y_2)
 (.ret (.inr (Sum.inl ())))
 (.jM (!((decide ((gT x.2.2.2 s vW).1.2.1<z0))==(decide ((gT x.2.2.2 s vW).1.2.1<z0))))
 (.ret (.inr (Sum.inl ())))
 (.jM (!((decide ((gT x.2.2.2 s vW).1.2.2<z0))==(decide ((gT x.2.2.2 s vW).1.2.2<z0))))
 (.ret (.inr (Sum.inl ())))
 (.fn0 ji ((gT x.2.2.2 s vW).2.1.1,(nL x.1),false) trivial fun bJ=>
 (.jM (!bJ)
 (.ret (.inr (Sum.inl ())))
 (.fn0 ji ((gT x.2.2.2 s vW).2.1.2.1,(nL x.2.1),true) trivial fun bn=>
 (.jM (!bn)
 (.ret (.inr (Sum.inl ())))
 (.fn0 ji ((gT x.2.2.2 s vW).2.1.2.2,(nL x.2.2.1),true) trivial fun bz=>
 (.jM (!bz)
 (.ret (.inr (Sum.inl ())))
 (.jM (!((decide ((gT x.2.2.2 s vW).2.1.2.1<z0))==(decide ((gT x.2.2.2 s vW).1.2.1<z0))))
 (.ret (.inr (Sum.inl ())))
 (.jM (!((decide ((gT x.2.2.2 s vW).2.1.2.2<z0))==(decide ((gT x.2.2.2 s vW).1.2.2<z0))))
 (.ret (.inr (Sum.inl ())))
 (.fn0 ji ((gT x.2.2.2 s vW).2.2.1,(nL x.1),false) trivial fun bN=>
 (.jM (!bN)
 (.ret (.inr (Sum.inl ())))
 (.fn0 ji ((gT x.2.2.2 s vW).2.2.2.1,(nL x.2.1),true) trivial fun cC=>
 (.jM (!cC)
 (.ret (.inr (Sum.inl ())))
 (.fn0 ji ((gT x.2.2.2 s vW).2.2.2.2,(nL x.2.2.1),true) trivial fun Ln=>
 (.jM (!Ln)
 (.ret (.inr (Sum.inl ())))
 (.jM (!((decide ((gT x.2.2.2 s vW).2.2.2.1<z0))==(decide ((gT x.2.2.2 s vW).1.2.1<z0))))
 (.ret (.inr (Sum.inl ())))
 (.jM (!((decide ((gT x.2.2.2 s vW).2.2.2.2<z0))==(decide ((gT x.2.2.2 s vW).1.2.2<z0))))
 (.ret (.inr (Sum.inl ())))
 (.ret (.inl (w1 s))))))))))))))))))))))))))))
 (.ret (.inr (Sum.inr (())))))
def pe (x:(List I3×List I2×List I3×List I9)):Bool:=
 (au (TG x) fun y=>
 (if ((!y)=true) then
 false else
 (au (ZK x.1) fun bq=>
 (if ((!bq)=true) then
 false else
 (au (ZJ x.2.1) fun y_2=>
 (if ((!y_2)=true) then
 false else
 (au (ZK x.2.2.1) fun bJ=>
 (if ((!bJ)=true) then
 false else
 (au (run (fW x) 0) fun r=>
 (Sum.elim (fun a=>
 false) (fun b=>
 true) r))))))))))
def kL (x:(List I3×List I2×List I3×List I9)):Prop:=
 (aM (TG x) fun y=>
 (¬((!y)=true)->
 ((BV x.1)/\
 aM (ZK x.1) fun bq=>
 (¬((!bq)=true)->
 ((xd x.2.1)/\
 aM (ZJ x.2.1) fun y_2=>
 (¬((!y_2)=true)->
 ((BV x.2.2.1)/\
 aM (ZK x.2.2.1) fun bJ=>
 (¬((!bJ)=true)->
 (Term (fW x) (pg x) 0)))))))))
def TF (x:(List I3×List I2×List I3×List I9)):Tr Bool true:=
 (.fn0 H7 x trivial fun y=>
 (.n9 (!y)
 (.ret false)
 (.fn JS x.1 fun bq=>
 (.n9 (!bq)
 (.ret false)
 (.fn Fz x.2.1 fun y_2=>
 (.n9 (!y_2)
 (.ret false)
 (.fn JS x.2.2.1 fun bJ=>
 (.n9 (!bJ)
 (.ret false)
 (aW.lp (FO x) (AB x) z0 fun r=>
 (.Bq r (fun a=>
 (.ret false)) (fun b=>
 (.ret true))))))))))))
abbrev xy:fg:=⟨(.agg (Ty.prod (Ty.sl cj) (Ty.prod (Ty.sl aH) (Ty.prod (Ty.sl cj) (Ty.sl kB))))),(.one Ty.bool),kL,pe⟩
theorem QE:ak Tryz.prog 47 (aq xy):=ak.tr xy TF (fn:=Tryz.f47) aD oN mixed (by kernel_rfl) (aA.nil _ _) (fun x=>(ay.tr aD (af.eO oN (aA.nil _ _)) mixed 0 (FO x) (AB x) (ay.yM aD (af.eO oN (aA.nil _ _)) mixed 2 4 ay.nil (by kernel_rfl)) (by kernel_rfl) fun g s Q=>(by kernel_rfl))) (fun x=>(by kernel_rfl)) fun x Q=>(by kernel_rfl)
def GC:List (Nat×Ev.Spec):=(47,aq xy)::KH
theorem yo:af Tryz.prog GC:=af.add (fn:=Tryz.f47) (by kernel_rfl) QE oN
def Z9 (x:I3):Bool:=
 (if ((aS (aS x.1 x.2.1) x.2.2)>4096) then
 true else
 (decide ((aO (aO x.1 x.2.1) x.2.2)<(-4096))))
def VQ (_:I3):Prop:=True
def aac (x:I3):Tr Bool false:=
 (.tB ((aS (aS x.1 x.2.1) x.2.2)>4096)
 (.ret true)
 (.ret (decide ((aO (aO x.1 x.2.1) x.2.2)<(-4096)))))
abbrev NV:fg:=⟨(.agg cj),(.one Ty.bool),VQ,Z9⟩
theorem Ye:ak Tryz.prog 68 (aq NV):=ak.tr NV aac (fn:=Tryz.f68) aD yo mixed (by kernel_rfl) (aA.nil _ _) (fun x=>ay.nil) (fun x=>(by kernel_rfl)) fun x Q=>(by kernel_rfl)
def UD:List (Nat×Ev.Spec):=(68,aq NV)::GC
theorem Gt:af Tryz.prog UD:=af.add (fn:=Tryz.f68) (by kernel_rfl) Ye yo
def JG (x:Int):I2:=
 (if (x<0) then
 (0,5) else
 (if (x>4096) then
 (0,5) else
 ((aj ((aj (Int.tdiv x 16))+1)),0)))
def Qj (_:Int):Prop:=True
def VZ (x:Int):Tr I2 false:=
 (.tB (x<z0)
 (.ret (z0,5))
 (.tB (x>4096)
 (.ret (z0,5))
 (.ret ((w1 (aj (Int.tdiv x 16))),z0))))
abbrev wV:fg:=⟨(.one yi),(.pair (.one yi) (.one yi)),Qj,JG⟩
theorem SA:ak Tryz.prog 108 (aq wV):=ak.tr wV VZ (fn:=Tryz.f108) aD Gt mixed (by kernel_rfl) (aA.nil _ _) (fun x=>ay.nil) (fun x=>(by kernel_rfl)) fun x Q=>(by kernel_rfl)
def KR:List (Nat×Ev.Spec):=(108,aq wV)::UD
theorem AQ:af Tryz.prog KR:=af.add (fn:=Tryz.f108) (by kernel_rfl) SA Gt
def CU (x:I2):I2:=
 (au (JG x.1) fun y=>
 (au (JG x.2) fun bq=>
 (y.1,bq.1)))
def L4 (_:I2):Prop:=True
def SB (x:I2):Tr I2 false:=
 (.fn0 wV x.1 trivial fun y=>
 (.fn0 wV x.2 trivial fun bq=>
 (.ret (y.1,bq.1))))
abbrev wW:fg:=⟨(.agg aH),(.pair (.one yi) (.one yi)),L4,CU⟩
theorem Qk:ak Tryz.prog 84 (aq wW):=ak.tr wW SB (fn:=Tryz.f84) aD AQ mixed (by kernel_rfl) (aA.nil _ _) (fun x=>ay.nil) (fun x=>(by kernel_rfl)) fun x Q=>(by kernel_rfl)
def Gv:List (Nat×Ev.Spec):=(84,aq wW)::KR
theorem yh:af Tryz.prog Gv:=af.add (fn:=Tryz.f84) (by kernel_rfl) Qk AQ
def FP (x:(I2×I2×I2×Int)):Int:=
 (au (GO (x.2.1,x.2.2.1,x.1)) fun y=>
 (aj (x.2.2.2*y.1)))
def pU (x:(I2×I2×I2×Int)):Prop:=
 (zW (x.2.1,x.2.2.1,x.1))
def Wo (x:(I2×I2×I2×Int)):Tr Int true:=
 (.fn yD (x.2.1,x.2.2.1,x.1) fun y=>
 (.ret (aj (x.2.2.2*y.1))))
abbrev tM:fg:=⟨(.pair (.agg aH) (.pair (.ptr (.prod (.int .i64) (.int .i64))) (.pair (.ptr (.prod (.int .i64) (.int .i64))) (.ptr (.int .i64))))),(.one yi),pU,FP⟩
theorem TM:ak Tryz.prog 122 (aq tM):=ak.tr tM Wo (fn:=Tryz.f122) aD yh mixed (by kernel_rfl) (aA.nil _ _) (fun x=>ay.nil) (fun x=>(by kernel_rfl)) fun x Q=>(by kernel_rfl)
def KW:List (Nat×Ev.Spec):=(122,aq tM)::Gv
theorem sX:af Tryz.prog KW:=af.add (fn:=Tryz.f122) (by kernel_rfl) TM yh
end Go.Proofs.YtojielnkfeoccaaGreat
