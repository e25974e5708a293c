/- Models of functions of layer 17. -/
import Derived.Test.YtojielnkfeoccaaGreatEvY
import Derived.Test.YtojielnkfeoccaaGreatTt
noncomputable section
set_option linter.unusedSectionVars false
set_option linter.unusedVariables false
set_option linter.unusedSimpArgs false
namespace Go.Proofs.YtojielnkfeoccaaGreat
open Go Go.Ev Go.Proofs
def behind (x:I3):Bool:=
 (if (x.2.2>=x.1) then
 (decide ((IntKind.wrap IntKind.u64 ((IntKind.wrap IntKind.u64 x.2.2)- (IntKind.wrap IntKind.u64 x.1)))>=(IntKind.wrap IntKind.u64 x.2.1))) else
 false)
def Ly (_:I3):Prop:=True
def RG (x:I3):Tr Bool false:=
 (.tB (x.2.2>=x.1)
 (.ret (decide ((IntKind.wrap IntKind.u64 ((IntKind.wrap IntKind.u64 x.2.2)- (IntKind.wrap IntKind.u64 x.1)))>=(IntKind.wrap IntKind.u64 x.2.1))))
 (.ret false))
abbrev rK:fg:=⟨(.pair (.one yi) (.pair (.one yi) (.one yi))),(.one Ty.bool),Ly,behind⟩
theorem Pt:ak Tryz.prog 105 (aq rK):=ak.tr rK RG (fn:=Tryz.f105) aD (af.nil _) mixed (by kernel_rfl) (aA.nil _ _) (fun x=>ay.nil) (fun x=>(by kernel_rfl)) fun x Q=>(by kernel_rfl)
def Gi:List (Nat×Ev.Spec):=(105,aq rK):: []
theorem xY:af Tryz.prog Gi:=af.add (fn:=Tryz.f105) (by kernel_rfl) Pt (af.nil _)
def OP (x:(Int×I3)):Bool:=
 (if (x.2.1<=0) then
 true else
 (if (x.2.2.2<=0) then
 true else
 (au (behind (x.1,x.2.1,x.2.2.1)) fun y=>
 (if (y=true) then
 true else
 (au (behind (x.2.2.1,x.2.2.2,x.1)) fun bq=>
 bq)))))
def Ra (_:(Int×I3)):Prop:=True
def WU (x:(Int×I3)):Tr Bool false:=
 (.tB (x.2.1<=z0)
 (.ret true)
 (.tB (x.2.2.2<=z0)
 (.ret true)
 (.fn0 rK (x.1,x.2.1,x.2.2.1) trivial fun y=>
 (.jM y
 (.ret true)
 (.fn0 rK (x.2.2.1,x.2.2.2,x.1) trivial fun bq=>
 (.ret bq))))))
abbrev xX:fg:=⟨(.pair (.one yi) (.pair (.one yi) (.pair (.one yi) (.one yi)))),(.one Ty.bool),Ra,OP⟩
theorem Ux:ak Tryz.prog 104 (aq xX):=ak.tr xX WU (fn:=Tryz.f104) aD xY mixed (by kernel_rfl) (aA.nil _ _) (fun x=>ay.nil) (fun x=>(by kernel_rfl)) fun x Q=>(by kernel_rfl)
def K0:List (Nat×Ev.Spec):=(104,aq xX)::Gi
theorem A2:af Tryz.prog K0:=af.add (fn:=Tryz.f104) (by kernel_rfl) Ux xY
def Iw (x:((Int×I3)×Int×I3)):Bool:=
 (au (OP (x.1.1,x.1.2.2.1,x.2.1,x.2.2.2.1)) fun y=>
 (if (y=true) then
 true else
 (au (OP (x.1.2.1,x.1.2.2.2,x.2.2.1,x.2.2.2.2)) fun bq=>
 bq)))
def Nd (_:((Int×I3)×Int×I3)):Prop:=True
def Ur (x:((Int×I3)×Int×I3)):Tr Bool false:=
 (.fn0 xX (x.1.1,x.1.2.2.1,x.2.1,x.2.2.2.1) trivial fun y=>
 (.jM y
 (.ret true)
 (.fn0 xX (x.1.2.1,x.1.2.2.2,x.2.2.1,x.2.2.2.2) trivial fun bq=>
 (.ret bq))))
abbrev xQ:fg:=⟨(.pair (.agg (Ty.prod yi cj)) (.agg (Ty.prod yi cj))),(.one Ty.bool),Nd,Iw⟩
theorem Q7:ak Tryz.prog 80 (aq xQ):=ak.tr xQ Ur (fn:=Tryz.f80) aD A2 mixed (by kernel_rfl) (aA.nil _ _) (fun x=>ay.nil) (fun x=>(by kernel_rfl)) fun x Q=>(by kernel_rfl)
def GK:List (Nat×Ev.Spec):=(80,aq xQ)::K0
theorem yz:af Tryz.prog GK:=af.add (fn:=Tryz.f80) (by kernel_rfl) Q7 A2
def Kh (x:((Int×I3)×Int×I3)):Bool:=
 (au (Iw x) fun y=>
 (!y))
def TX (_:((Int×I3)×Int×I3)):Prop:=True
def Y5 (x:((Int×I3)×Int×I3)):Tr Bool false:=
 (.fn0 xQ x trivial fun y=>
 (.ret (!y)))
abbrev Ia:fg:=⟨(.pair (.agg (Ty.prod yi cj)) (.ptr (.prod (.int .i64) (.prod (.int .i64) (.prod (.int .i64) (.int .i64)))))),(.one Ty.bool),TX,Kh⟩
theorem Wq:ak Tryz.prog 79 (aq Ia):=ak.tr Ia Y5 (fn:=Tryz.f79) aD yz mixed (by kernel_rfl) (aA.nil _ _) (fun x=>ay.nil) (fun x=>(by kernel_rfl)) fun x Q=>(by kernel_rfl)
def O2:List (Nat×Ev.Spec):=(79,aq Ia)::GK
theorem vM:af Tryz.prog O2:=af.add (fn:=Tryz.f79) (by kernel_rfl) Wq yz
def Fw (x:(List (Int×I3)×Int×I3)):aW:=⟨[],⟨dy 19 0 [(0,.v (.one (.full 0))),(1,.v (.one (.eN 79 0 [.elem 1]))),(7,.v (.one (.i .i64))),(8,.v (.one (.i .i64)))],[.row (Ty.prod yi cj) 0,.row (Ty.prod yi cj) 0],0,none,[],[0,1,3,4],[2],[.i],[.n 0,.i (x.1.length:Int),.l (Ty.prod yi cj) x.1,.l (Ty.prod yi cj) [x.2]]⟩,[⟨.ret,.ret,⟨dy 19 0 [(4,.v (.one (.i .i64)))],[],0,none,[],[],[0],[.i],[]⟩⟩,⟨(.exit 0),.normal,⟨dy 19 0 [],[],0,none,[],[],[],[],[]⟩⟩]⟩
def iG (x:(List (Int×I3)×Int×I3)) (s:Int):Int⊕(Int⊕Unit):=
 (if (s<(x.1.length:Int)) then
 (au (Kh ((x.1.getD s.toNat (0,0,0,0)),x.2)) fun y=>
 (if (y=true) then
 (Sum.inr (Sum.inl s)) else
 (Sum.inl (aj (s+1))))) else
 (Sum.inr (Sum.inr (()))))
def pb (x:(List (Int×I3)×Int×I3)) (s:Int):Prop:=
 ((s<(x.1.length:Int))->
 (((0<=s)/\ (s<(x.1.length:Int)))/\
 ((s.toNat<x.1.length)/\
 (s.toNat<x.1.length))))
def Ax (x:(List (Int×I3)×Int×I3)) (s:Int):Tr (Int⊕(Int⊕Unit)) true:=
 (.i10 (s<(nL x.1))
 (.lA s x.1
 (.fn0 Ia ((gT x.1 s (z0,EY)),x.2) trivial fun y=>
 (.jM y
 (.ret (.inr (Sum.inl s)))
 (.ret (.inl (w1 s))))))
 (.ret (.inr (Sum.inr (())))))
def Ms (x:(List (Int×I3)×Int×I3)):Int:=
 (au (run (iG x) 0) fun r=>
 (Sum.elim (fun a=>
 a) (fun b=>
 (-1)) r))
def C2 (x:(List (Int×I3)×Int×I3)):Prop:=
 (Term (iG x) (pb x) 0)
def S6 (x:(List (Int×I3)×Int×I3)):Tr Int true:=
 (aW.lp (Fw x) (Ax x) z0 fun r=>
 (.Bq r (fun a=>
 (.ret a)) (fun b=>
 (.ret (-1)))))
abbrev w6:fg:=⟨(.pair (.one (Ty.sl (Ty.prod yi cj))) (.eN 79 (.ptr (.prod (.int .i64) (.prod (.int .i64) (.prod (.int .i64) (.int .i64))))))),(.one yi),C2,Ms⟩
theorem Qt:ak Tryz.prog 103 (aq w6):=ak.tr w6 S6 (fn:=Tryz.f103) aD vM mixed (by kernel_rfl) (aA.nil _ _) (fun x=>(ay.tr aD (af.eO vM (aA.nil _ _)) mixed 0 (Fw x) (Ax x) ay.nil (by kernel_rfl) fun g s Q=>(by kernel_rfl))) (fun x=>(by kernel_rfl)) fun x Q=>(by kernel_rfl)
def Gx:List (Nat×Ev.Spec):=(103,aq w6)::O2
theorem yl:af Tryz.prog Gx:=af.add (fn:=Tryz.f103) (by kernel_rfl) Qt vM
def tf (x:(List (Int×I3)×Int×I3)):Bool:=
 (au (Ms x) fun y=>
 (decide (y>=0)))
def oT (x:(List (Int×I3)×Int×I3)):Prop:=
 (C2 x)
def Jk (x:(List (Int×I3)×Int×I3)):Tr Bool true:=
 (.fn w6 x fun y=>
 (.ret (decide (y>=z0))))
abbrev oq:fg:=⟨(.pair (.one (Ty.sl (Ty.prod yi cj))) (.eN 79 (.ptr (.prod (.int .i64) (.prod (.int .i64) (.prod (.int .i64) (.int .i64))))))),(.one Ty.bool),oT,tf⟩
theorem Hl:ak Tryz.prog 78 (aq oq):=ak.tr oq Jk (fn:=Tryz.f78) aD yl mixed (by kernel_rfl) (aA.nil _ _) (fun x=>ay.nil) (fun x=>(by kernel_rfl)) fun x Q=>(by kernel_rfl)
def yd:List (Nat×Ev.Spec):=(78,aq oq)::Gx
theorem mc:af Tryz.prog yd:=af.add (fn:=Tryz.f78) (by kernel_rfl) Hl yl
def OQ (x:(Int×Int×List (Int×I3))):aW:=⟨[],⟨dy 66 0 [(0,.v (.one (.i .i64))),(1,.v (.one (.i .i64))),(2,.v (.one (.full 0))),(9,.v (.one (.full 0))),(10,.v (.one (.i .i64))),(11,.v (.one (.i .i64)))],[.row (Ty.prod yi cj) 0],0,none,[],[0,1,2,4],[3],[.i],[.i x.1,.i x.2.1,.i (x.2.2.length:Int),.l (Ty.prod yi cj) x.2.2]⟩,[⟨.ret,.ret,⟨dy 66 0 [(6,.v (.one (.b)))],[],0,none,[],[0],[],[],[.b false]⟩⟩,⟨(.exit 0),.normal,⟨dy 66 0 [],[],0,none,[],[],[],[],[]⟩⟩]⟩
def kj (x:(Int×Int×List (Int×I3))) (s:Int):Int⊕(Unit⊕Unit):=
 (if (s<(x.2.2.length:Int)) then
 (if ((aO (x.2.2.getD s.toNat (0,0,0,0)).2.2.1 (x.2.2.getD s.toNat (0,0,0,0)).2.2.2)<1) then
 (Sum.inr (Sum.inl ())) else
 (if ((aO (x.2.2.getD s.toNat (0,0,0,0)).1 (x.2.2.getD s.toNat (0,0,0,0)).2.1)<0) then
 (Sum.inr (Sum.inl ())) else
 (if ((x.2.2.getD s.toNat (0,0,0,0)).2.2.1>x.1) then
 (Sum.inr (Sum.inl ())) else
 (if ((x.2.2.getD s.toNat (0,0,0,0)).2.2.2>x.2.1) then
 (Sum.inr (Sum.inl ())) else
 (if ((x.2.2.getD s.toNat (0,0,0,0)).1>(aj (x.1- (x.2.2.getD s.toNat (0,0,0,0)).2.2.1))) then
 (Sum.inr (Sum.inl ())) else
 (if ((x.2.2.getD s.toNat (0,0,0,0)).2.1>(aj (x.2.1- (x.2.2.getD s.toNat (0,0,0,0)).2.2.2))) then
 (Sum.inr (Sum.inl ())) else
 (au (tf ((List.take s.toNat x.2.2),(x.2.2.getD s.toNat (0,0,0,0)))) fun y=>
 (if (y=true) then
 (Sum.inr (Sum.inl ())) else
 (Sum.inl (aj (s+1))))))))))) else
 (Sum.inr (Sum.inr (()))))
def oM (x:(Int×Int×List (Int×I3))) (s:Int):Prop:=
 ((s<(x.2.2.length:Int))->
 (((0<=s)/\ (s<(x.2.2.length:Int)))/\
 ((s.toNat<x.2.2.length)/\
 ((s.toNat<x.2.2.length)/\
 (¬((aO (x.2.2.getD s.toNat (0,0,0,0)).2.2.1 (x.2.2.getD s.toNat (0,0,0,0)).2.2.2)<1)->
 (¬((aO (x.2.2.getD s.toNat (0,0,0,0)).1 (x.2.2.getD s.toNat (0,0,0,0)).2.1)<0)->
 (¬((x.2.2.getD s.toNat (0,0,0,0)).2.2.1>x.1)->
 (¬((x.2.2.getD s.toNat (0,0,0,0)).2.2.2>x.2.1)->
 (¬((x.2.2.getD s.toNat (0,0,0,0)).1>(aj (x.1- (x.2.2.getD s.toNat (0,0,0,0)).2.2.1)))->
 (¬((x.2.2.getD s.toNat (0,0,0,0)).2.1>(aj (x.2.1- (x.2.2.getD s.toNat (0,0,0,0)).2.2.2)))->
 (((0<=s)/\ (s<=(x.2.2.length:Int)))/\
 (oT ((List.take s.toNat x.2.2),(x.2.2.getD s.toNat (0,0,0,0)))))))))))))))
def Gg (x:(Int×Int×List (Int×I3))) (s:Int):Tr (Int⊕(Unit⊕Unit)) true:=
 (.i10 (s<(nL x.2.2))
 (.lA s x.2.2
 (.uu ((aO (gT x.2.2 s (z0,EY)).2.2.1 (gT x.2.2 s (z0,EY)).2.2.2)<z1)
 (.ret (.inr (Sum.inl ())))
 (.uu ((aO (gT x.2.2 s (z0,EY)).1 (gT x.2.2 s (z0,EY)).2.1)<z0)
 (.ret (.inr (Sum.inl ())))
 (.uu ((gT x.2.2 s (z0,EY)).2.2.1>x.1)
 (.ret (.inr (Sum.inl ())))
 (.uu ((gT x.2.2 s (z0,EY)).2.2.2>x.2.1)
 (.ret (.inr (Sum.inl ())))
 (.uu ((gT x.2.2 s (z0,EY)).1>(aj (x.1- (gT x.2.2 s (z0,EY)).2.2.1)))
 (.ret (.inr (Sum.inl ())))
 (.uu ((gT x.2.2 s (z0,EY)).2.1>(aj (x.2.1- (gT x.2.2 s (z0,EY)).2.2.2)))
 (.ret (.inr (Sum.inl ())))
 (.og ((decide (z0<=s))&&(decide (s<=(nL x.2.2)))) ((z0<=s)/\ (s<=(nL x.2.2))) (fun h=>(jR (decide_eq_true h.1) (decide_eq_true h.2)))
 (.fn oq ((List.take (tN s) x.2.2),(gT x.2.2 s (z0,EY))) fun y=>
 (.jM y
 (.ret (.inr (Sum.inl ())))
 (.ret (.inl (w1 s)))))))))))))
 (.ret (.inr (Sum.inr (())))))
def Uy (x:(Int×Int×List (Int×I3))):Bool:=
 (au (run (kj x) 0) fun r=>
 (Sum.elim (fun a=>
 false) (fun b=>
 true) r))
def DR (x:(Int×Int×List (Int×I3))):Prop:=
 (Term (kj x) (oM x) 0)
def Zl (x:(Int×Int×List (Int×I3))):Tr Bool true:=
 (aW.lp (OQ x) (Gg x) z0 fun r=>
 (.Bq r (fun a=>
 (.ret false)) (fun b=>
 (.ret true))))
abbrev DQ:fg:=⟨(.pair (.one yi) (.pair (.one yi) (.one (Ty.sl (Ty.prod yi cj))))),(.one Ty.bool),DR,Uy⟩
theorem OS:ak Tryz.prog 58 (aq DQ):=ak.tr DQ Zl (fn:=Tryz.f58) aD mc mixed (by kernel_rfl) (aA.nil _ _) (fun x=>(ay.tr aD (af.eO mc (aA.nil _ _)) mixed 0 (OQ x) (Gg x) ay.nil (by kernel_rfl) fun g s Q=>(by kernel_rfl))) (fun x=>(by kernel_rfl)) fun x Q=>(by kernel_rfl)
def O5:List (Nat×Ev.Spec):=(58,aq DQ)::yd
theorem D5:af Tryz.prog O5:=af.add (fn:=Tryz.f58) (by kernel_rfl) OS mc
def Y0 (x:I2):I2:=
 ((IntKind.wrap IntKind.u32 (Int.fdiv (IntKind.wrap IntKind.u64 ((IntKind.wrap IntKind.u64 x.1)*(IntKind.wrap IntKind.u64 x.2))) 4294967296)),(IntKind.wrap IntKind.u32 (IntKind.wrap IntKind.u64 ((IntKind.wrap IntKind.u64 x.1)*(IntKind.wrap IntKind.u64 x.2)))))
def MQ (_:I2):Prop:=True
def TN (x:I2):Tr I2 false:=
 (.ret ((IntKind.wrap IntKind.u32 (Int.fdiv (IntKind.wrap IntKind.u64 ((IntKind.wrap IntKind.u64 x.1)*(IntKind.wrap IntKind.u64 x.2))) 4294967296)),(IntKind.wrap IntKind.u32 (IntKind.wrap IntKind.u64 ((IntKind.wrap IntKind.u64 x.1)*(IntKind.wrap IntKind.u64 x.2))))))
abbrev Dr:fg:=⟨(.pair (.one (Ty.int IntKind.u32)) (.one (Ty.int IntKind.u32))),(.pair (.one (Ty.int IntKind.u32)) (.one (Ty.int IntKind.u32))),MQ,Y0⟩
theorem QI:ak Tryz.prog 87 (aq Dr):=ak.tr Dr TN (fn:=Tryz.f87) aD D5 mixed (by kernel_rfl) (aA.nil _ _) (fun x=>ay.nil) (fun x=>(by kernel_rfl)) fun x Q=>(by kernel_rfl)
def GF:List (Nat×Ev.Spec):=(87,aq Dr)::O5
theorem yq:af Tryz.prog GF:=af.add (fn:=Tryz.f87) (by kernel_rfl) QI D5
def MR (x:I2):I2:=
 ((IntKind.wrap IntKind.u64 ((IntKind.wrap IntKind.u64 ((IntKind.wrap IntKind.u64 ((Int.fdiv x.1 4294967296)*(Int.fdiv x.2 4294967296)))+(Int.fdiv (IntKind.wrap IntKind.u64 ((IntKind.wrap IntKind.u64 ((Int.fdiv x.1 4294967296)*(IntKind.wrap IntKind.u64 (((BitVec.toNat ((BitVec.ofInt 64 x.2)&&&(BitVec.ofInt 64 4294967295))):Nat):Int))))+(Int.fdiv (IntKind.wrap IntKind.u64 ((IntKind.wrap IntKind.u64 (((BitVec.toNat ((BitVec.ofInt 64 x.1)&&&(BitVec.ofInt 64 4294967295))):Nat):Int))*(IntKind.wrap IntKind.u64 (((BitVec.toNat ((BitVec.ofInt 64 x.2)&&&(BitVec.ofInt 64 4294967295))):Nat):Int)))) 4294967296))) 4294967296)))+(Int.fdiv (IntKind.wrap IntKind.u64 ((IntKind.wrap IntKind.u64 (((BitVec.toNat ((BitVec.ofInt 64 (IntKind.wrap IntKind.u64 ((IntKind.wrap IntKind.u64 ((Int.fdiv x.1 4294967296)*(IntKind.wrap IntKind.u64 (((BitVec.toNat ((BitVec.ofInt 64 x.2)&&&(BitVec.ofInt 64 4294967295))):Nat):Int))))+(Int.fdiv (IntKind.wrap IntKind.u64 ((IntKind.wrap IntKind.u64 (((BitVec.toNat ((BitVec.ofInt 64 x.1)&&&(BitVec.ofInt 64 4294967295))):Nat):Int))*(IntKind.wrap IntKind.u64 (((BitVec.toNat ((BitVec.ofInt 64 x.2)&&&(BitVec.ofInt 64 4294967295))):Nat):Int)))) 4294967296))))&&&(BitVec.ofInt 64 4294967295))):Nat):Int))+(IntKind.wrap IntKind.u64 ((IntKind.wrap IntKind.u64 (((BitVec.toNat ((BitVec.ofInt 64 x.1)&&&(BitVec.ofInt 64 4294967295))):Nat):Int))*(Int.fdiv x.2 4294967296))))) 4294967296))),(IntKind.wrap IntKind.u64 (x.1*x.2)))
def MS (_:I2):Prop:=True
def TP (x:I2):Tr I2 false:=
 (.ret ((IntKind.wrap IntKind.u64 ((IntKind.wrap IntKind.u64 ((IntKind.wrap IntKind.u64 ((Int.fdiv x.1 4294967296)*(Int.fdiv x.2 4294967296)))+(Int.fdiv (IntKind.wrap IntKind.u64 ((IntKind.wrap IntKind.u64 ((Int.fdiv x.1 4294967296)*(IntKind.wrap IntKind.u64 (((BitVec.toNat ((BitVec.ofInt 64 x.2)&&&(BitVec.ofInt 64 4294967295))):Nat):Int))))+(Int.fdiv (IntKind.wrap IntKind.u64 ((IntKind.wrap IntKind.u64 (((BitVec.toNat ((BitVec.ofInt 64 x.1)&&&(BitVec.ofInt 64 4294967295))):Nat):Int))*(IntKind.wrap IntKind.u64 (((BitVec.toNat ((BitVec.ofInt 64 x.2)&&&(BitVec.ofInt 64 4294967295))):Nat):Int)))) 4294967296))) 4294967296)))+(Int.fdiv (IntKind.wrap IntKind.u64 ((IntKind.wrap IntKind.u64 (((BitVec.toNat ((BitVec.ofInt 64 (IntKind.wrap IntKind.u64 ((IntKind.wrap IntKind.u64 ((Int.fdiv x.1 4294967296)*(IntKind.wrap IntKind.u64 (((BitVec.toNat ((BitVec.ofInt 64 x.2)&&&(BitVec.ofInt 64 4294967295))):Nat):Int))))+(Int.fdiv (IntKind.wrap IntKind.u64 ((IntKind.wrap IntKind.u64 (((BitVec.toNat ((BitVec.ofInt 64 x.1)&&&(BitVec.ofInt 64 4294967295))):Nat):Int))*(IntKind.wrap IntKind.u64 (((BitVec.toNat ((BitVec.ofInt 64 x.2)&&&(BitVec.ofInt 64 4294967295))):Nat):Int)))) 4294967296))))&&&(BitVec.ofInt 64 4294967295))):Nat):Int))+(IntKind.wrap IntKind.u64 ((IntKind.wrap IntKind.u64 (((BitVec.toNat ((BitVec.ofInt 64 x.1)&&&(BitVec.ofInt 64 4294967295))):Nat):Int))*(Int.fdiv x.2 4294967296))))) 4294967296))),(IntKind.wrap IntKind.u64 (x.1*x.2))))
abbrev xA:fg:=⟨(.pair (.one (Ty.int IntKind.u64)) (.one (Ty.int IntKind.u64))),(.pair (.one (Ty.int IntKind.u64)) (.one (Ty.int IntKind.u64))),MS,MR⟩
theorem QJ:ak Tryz.prog 88 (aq xA):=ak.tr xA TP (fn:=Tryz.f88) aD yq mixed (by kernel_rfl) (aA.nil _ _) (fun x=>ay.nil) (fun x=>(by kernel_rfl)) fun x Q=>(by kernel_rfl)
def GG:List (Nat×Ev.Spec):=(88,aq xA)::GF
theorem yu:af Tryz.prog GG:=af.add (fn:=Tryz.f88) (by kernel_rfl) QJ yq
def Je (x:I2):I2:=
 (au (MR x) fun y=>
 y)
def Pw (_:I2):Prop:=True
def VC (x:I2):Tr I2 false:=
 (.fn0 xA x trivial fun y=>
 (.ret y))
abbrev BK:fg:=⟨(.pair (.one (Ty.int IntKind.u64)) (.one (Ty.int IntKind.u64))),(.pair (.one (Ty.int IntKind.u64)) (.one (Ty.int IntKind.u64))),Pw,Je⟩
theorem RK:ak Tryz.prog 62 (aq BK):=ak.tr BK VC (fn:=Tryz.f62) aD yu mixed (by kernel_rfl) (aA.nil _ _) (fun x=>ay.nil) (fun x=>(by kernel_rfl)) fun x Q=>(by kernel_rfl)
def KK:List (Nat×Ev.Spec):=(62,aq BK)::GG
theorem sR:af Tryz.prog KK:=af.add (fn:=Tryz.f62) (by kernel_rfl) RK yu
def DF (x:(List Int×Int)):aW:=⟨[],⟨dy 48 0 [(7,.v (.one (.full 0))),(8,.v (.one (.i .i64)))],[.row yi 2],0,none,[],[],[1,0],[(.l yi),.i],[]⟩,[⟨(.exit 0),.normal,⟨dy 48 0 [(7,.v (.one (.full 0)))],[.row yi 2],0,none,[],[],[0],[(.l yi)],[]⟩⟩]⟩
def gJ (x:(List Int×Int)) (s:(List Int×Int)):(List Int×Int)⊕(List Int):=
 (if (s.2<(s.1.length:Int)) then
 (au (iV s.1 (s.2.toNat+0) (s.1.length- s.2.toNat) (List.take s.2.toNat s.1)) fun y=>
 (Sum.inl (y,(aj (s.2+(((ov (s.1.length- s.2.toNat) (List.length (List.take s.2.toNat s.1))):Nat):Int)))))) else
 (Sum.inr (s.1)))
def j7 (x:(List Int×Int)) (s:(List Int×Int)):Prop:=
 ((s.2<(s.1.length:Int))->
 (((0<=s.2)/\ (s.2<=(s.1.length:Int)))/\
 ((0<=s.2)/\ (s.2<=(s.1.length:Int)))))
def xO (x:(List Int×Int)) (s:(List Int×Int)):Tr ((List Int×Int)⊕(List Int)) true:=
 (.i10 (s.2<(nL s.1))
 (.og ((decide (z0<=s.2))&&(decide (s.2<=(nL s.1)))) ((z0<=s.2)/\ (s.2<=(nL s.1))) (fun h=>(jR (decide_eq_true h.1) (decide_eq_true h.2)))
 (.og ((decide (z0<=s.2))&&(decide (s.2<=(nL s.1)))) ((z0<=s.2)/\ (s.2<=(nL s.1))) (fun h=>(jR (decide_eq_true h.1) (decide_eq_true h.2)))
 (.lt (iV s.1 ((tN s.2)+0) (s.1.length- (tN s.2)) (List.take (tN s.2) s.1)) fun y=>
 (.ret (.inl (y,(aj (s.2+(((ov (s.1.length- (tN s.2)) (List.length (List.take (tN s.2) s.1))):Nat):Int)))))))))
 (.ret (.inr (s.1))))
def repeatM (x:(List Int×Int)):(List Int):=
 (if (x.2<0) then
 default else
 (au (Je ((IntKind.wrap IntKind.u64 (x.1.length:Int)),(IntKind.wrap IntKind.u64 x.2))) fun y=>
 (if (y.1>0) then
 default else
 (if (y.2>9223372036854775807) then
 default else
 (au (iV (List.replicate (Int.toNat (aj y.2)) (0:Int)) 0 (List.length (List.replicate (Int.toNat (aj y.2)) (0:Int))) x.1) fun bq=>
 (au (run (gJ x) (bq,(((ov (List.length (List.replicate (Int.toNat (aj y.2)) (0:Int))) x.1.length):Nat):Int))) fun r=>
 r))))))
def jH (x:(List Int×Int)):Prop:=
 (((x.2<0)->
 False)/\
 (¬(x.2<0)->
 (aM (Je ((IntKind.wrap IntKind.u64 (x.1.length:Int)),(IntKind.wrap IntKind.u64 x.2))) fun y=>
 (((y.1>0)->
 False)/\
 (¬(y.1>0)->
 (((y.2>9223372036854775807)->
 False)/\
 (¬(y.2>9223372036854775807)->
 ((((0<=(aj y.2))/\ ((aj y.2)<=(aj y.2)))/\ ((Int.toNat (aj y.2))<1099511627776))/\
 (aM (iV (List.replicate (Int.toNat (aj y.2)) (0:Int)) 0 (List.length (List.replicate (Int.toNat (aj y.2)) (0:Int))) x.1) fun bq=>
 (Term (gJ x) (j7 x) (bq,(((ov (List.length (List.replicate (Int.toNat (aj y.2)) (0:Int))) x.1.length):Nat):Int))))))))))))
def QZ (x:(List Int×Int)):Tr (List Int) true:=
 (.i11 (x.2<z0)
 (.og false False False.elim (.ret default))
 (.fn0 BK ((IntKind.wrap IntKind.u64 (nL x.1)),(IntKind.wrap IntKind.u64 x.2)) trivial fun y=>
 (.i11 (y.1>z0)
 (.og false False False.elim (.ret default))
 (.i11 (y.2>9223372036854775807)
 (.og false False False.elim (.ret default))
 (.og (((decide (z0<=(aj y.2)))&&(decide ((aj y.2)<=(aj y.2))))&&(decide ((tN (aj y.2))<1099511627776))) (((z0<=(aj y.2))/\ ((aj y.2)<=(aj y.2)))/\ ((tN (aj y.2))<1099511627776)) (fun h=>(jR (jR (decide_eq_true h.1.1) (decide_eq_true h.1.2)) (decide_eq_true h.2)))
 (.lt (iV (List.replicate (tN (aj y.2)) z0) 0 (List.length (List.replicate (tN (aj y.2)) z0)) x.1) fun bq=>
 (aW.lp (DF x) (xO x) (bq,(((ov (List.length (List.replicate (tN (aj y.2)) z0)) x.1.length):Nat):Int)) fun r=>
 (.ret r))))))))
abbrev pW:fg:=⟨(.pair (.one (Ty.sl yi)) (.one yi)),(.one (Ty.sl yi)),jH,repeatM⟩
theorem DG:ak Tryz.prog 32 (aq pW):=ak.tr pW QZ (fn:=Tryz.f32) aD sR mixed (by kernel_rfl) (aA.nil _ _) (fun x=>(ay.tr aD (af.eO sR (aA.nil _ _)) mixed 0 (DF x) (xO x) ay.nil (by kernel_rfl) fun g s Q=>(by kernel_rfl))) (fun x=>(by kernel_rfl)) fun x Q=>(by kernel_rfl)
def Ns:List (Nat×Ev.Spec):=(32,aq pW)::KK
theorem uI:af Tryz.prog Ns:=af.add (fn:=Tryz.f32) (by kernel_rfl) DG sR
def Fu (x:(List Int×Int)):aW:=⟨[],⟨dy 19 0 [(0,.v (.one (.full 0))),(1,.v (.one (.i .i64))),(7,.v (.one (.i .i64))),(8,.v (.one (.i .i64)))],[.row yi 0],0,none,[],[0,1,3],[2],[.i],[.i x.2,.i (x.1.length:Int),.l yi x.1]⟩,[⟨.ret,.ret,⟨dy 19 0 [(4,.v (.one (.i .i64)))],[],0,none,[],[],[0],[.i],[]⟩⟩,⟨(.exit 0),.normal,⟨dy 19 0 [],[],0,none,[],[],[],[],[]⟩⟩]⟩
def sr (x:(List Int×Int)) (s:Int):Int⊕(Int⊕Unit):=
 (if (s<(x.1.length:Int)) then
 (if ((x.2==(x.1.getD s.toNat 0))=true) then
 (Sum.inr (Sum.inl s)) else
 (Sum.inl (aj (s+1)))) else
 (Sum.inr (Sum.inr (()))))
def EE (x:(List Int×Int)) (s:Int):Prop:=
 ((s<(x.1.length:Int))->
 (((0<=s)/\ (s<(x.1.length:Int)))/\
 ((s.toNat<x.1.length)/\
 (s.toNat<x.1.length))))
def Av (x:(List Int×Int)) (s:Int):Tr (Int⊕(Int⊕Unit)) true:=
 (.i10 (s<(nL x.1))
 (.lA s x.1
 (.jM (x.2==(gI x.1 s))
 (.ret (.inr (Sum.inl s)))
 (.ret (.inl (w1 s)))))
 (.ret (.inr (Sum.inr (())))))
def YJ (x:(List Int×Int)):Int:=
 (au (run (sr x) 0) fun r=>
 (Sum.elim (fun a=>
 a) (fun b=>
 (-1)) r))
def Mq (x:(List Int×Int)):Prop:=
 (Term (sr x) (EE x) 0)
def S4 (x:(List Int×Int)):Tr Int true:=
 (aW.lp (Fu x) (Av x) z0 fun r=>
 (.Bq r (fun a=>
 (.ret a)) (fun b=>
 (.ret (-1)))))
abbrev C0:fg:=⟨(.pair (.one (Ty.sl yi)) (.one yi)),(.one yi),Mq,YJ⟩
theorem Qr:ak Tryz.prog 69 (aq C0):=ak.tr C0 S4 (fn:=Tryz.f69) aD uI mixed (by kernel_rfl) (aA.nil _ _) (fun x=>(ay.tr aD (af.eO uI (aA.nil _ _)) mixed 0 (Fu x) (Av x) ay.nil (by kernel_rfl) fun g s Q=>(by kernel_rfl))) (fun x=>(by kernel_rfl)) fun x Q=>(by kernel_rfl)
end Go.Proofs.YtojielnkfeoccaaGreat
