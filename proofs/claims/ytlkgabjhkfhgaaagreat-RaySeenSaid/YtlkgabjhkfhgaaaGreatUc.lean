/- Models: what is built; what is right. -/
import Derived.Test.YtlkgabjhkfhgaaaGreatUb
noncomputable section
set_option linter.unusedSectionVars false
set_option linter.unusedVariables false
set_option linter.unusedSimpArgs false
namespace Go.Proofs.YtlkgabjhkfhgaaaGreat
open Go Go.Ev Go.Proofs
def Jg:List (Nat×Ev.Spec):=(45,iq Gd)::wL
theorem r9:ah Tryz.prog Jg:=ah.add (fn:=Tryz.f45) (by kernel_rfl) Qs uQ
def D0 (x:(List I9)):aI:=⟨[],⟨cA 36 0 [(5,.v (.one (.ptr 0 0))),(6,.v (.one (.ptr 1 0))),(7,.v (.one (.full 4))),(15,.v (.one (.i .i64))),(16,.v (.one (.i .i64)))],[.cells [.raw] 23,.cells [.jS 45 0 [.loc 0 0,.loc 2 0,.loc 1 0]] 104,.cells [.full 3] 103,.row bP 0,.row yi 2],0,none,[],[0,2,3],[4,1],[(.l yi),.i],[.i ((List.replicate (List.length x) (0:Int)).length:Int),.v (.slice none 0 0),.l bP x]⟩,[⟨(.exit 1),.normal,⟨cA 36 0 [(5,.v (.one (.ptr 0 0))),(6,.v (.one (.ptr 1 0))),(7,.v (.one (.full 4)))],[.cells [.raw] 23,.cells [.jS 45 0 [.loc 0 0,.loc 2 0,.loc 1 0]] 104,.cells [.full 3] 103,.row bP 0,.row yi 2],0,none,[],[0,1],[2],[(.l yi)],[.v (.slice none 0 0),.l bP x]⟩⟩]⟩
def eY (x:(List I9)) (s:((List Int)×Int)):((List Int)×Int)⊕(List Int):=
 (if (s.2<((List.replicate (List.length x) (0:Int)).length:Int)) then
 (ai (List.set s.1 (Int.toNat s.2) s.2) fun y=>
 (Sum.inl (y,(ae (s.2+(1:Int)))))) else
 (Sum.inr (s.1)))
def kD (x:(List I9)) (s:((List Int)×Int)):Prop:=
 ((s.2<((List.replicate (List.length x) (0:Int)).length:Int))->
 ((((0:Int)<=s.2)/\ (s.2<(s.1.length:Int)))/\
 (((Int.toNat s.2)<(List.length s.1))/\
 ((Int.toNat s.2)<(List.length s.1)))))
def yC (x:(List I9)) (s:((List Int)×Int)):Tr (((List Int)×Int)⊕(List Int)) true:=
 (.i10 (s.2<(nL (List.replicate (List.length x) z0)))
 (.bO s.2 s.1
 (.lt (List.set s.1 (tN s.2) s.2) fun y=>
 (.ret (.inl (y,(w1 s.2))))))
 (.ret (.inr (s.1))))
def bY (x:(List I9)):((List ((I3×I3)×(Int×(Int×(List Int)))))×Int):=
 (if ((x.length:Int)>(500:Int)) then
 ([],(2:Int)) else
 (ai (yf x) fun y=>
 (if ((!y)=true) then
 ([],(5:Int)) else
 (ai (run (eY x) ((List.replicate (List.length x) (0:Int)),(0:Int))) fun r=>
 (ai (Qr (r,(x,[]))) fun aq=>
 (aq,(0:Int)))))))
def fF (x:(List I9)):Prop:=
 (¬((x.length:Int)>(500:Int))->
 ((uL x)/\
 az (yf x) fun y=>
 (¬((!y)=true)->
 ((((x.length:Int)<=(x.length:Int))/\ ((List.length x)<1099511627776))/\
 (Term (eY x) (kD x) ((List.replicate (List.length x) (0:Int)),(0:Int))/\
 az (run (eY x) ((List.replicate (List.length x) (0:Int)),(0:Int))) fun r=>
 (xQ (r,(x,[]))))))))
def P4 (x:(List I9)):Tr ((List ((I3×I3)×(Int×(Int×(List Int)))))×Int) true:=
 (.Di ((nL x)>(500:Int))
 (.ret ([],(2:Int)))
 (.fn wJ x fun y=>
 (.nY (!y)
 (.ret ([],(5:Int)))
 (.og (((decide (z0<=(nL x)))&&(decide ((nL x)<=(nL x))))&&(decide ((List.length x)<1099511627776))) (((nL x)<=(nL x))/\ ((List.length x)<1099511627776)) (fun h=>(c7 (c7 rfl (decide_eq_true h.1)) (decide_eq_true h.2)))
 (aI.lp (D0 x) (yC x) ((List.replicate (List.length x) z0),z0) fun r=>
 (.Yq Gd (r,(x,[])) fun aq=>
 (.ret (aq,z0))))))))
abbrev oL:dS:=⟨(.one (Ty.sl bP)),(.pair (.one (Ty.sl (Ty.prod (Ty.prod bz bz) (Ty.prod yi (Ty.prod yi (Ty.sl yi)))))) (.one yi)),fF,bY⟩
theorem No:ak Tryz.prog 24 (av oL):=ak.tr oL P4 (fn:=Tryz.f24) aC r9 mixed (by kernel_rfl) (aA.nil _ _) (fun x=>(aB.tr aC (ah.c8 r9 (aA.nil _ _)) mixed 1 (D0 x) (yC x) aB.nil (by kernel_rfl) fun g s Q=>(by kernel_rfl))) (fun x=>(by kernel_rfl)) fun x Q=>(by kernel_rfl)
def E6:List (Nat×Ev.Spec):=(24,av oL)::Jg
theorem wM:ah Tryz.prog E6:=ah.add (fn:=Tryz.f24) (by kernel_rfl) No r9
def Dx (x:((I3×I3)×I3)):Bool:=
 (ai (ov x.1) fun y=>
 (if (y=true) then
 (ai (hasB x) fun aq=>
 aq) else
 false))
def rf (x:((I3×I3)×I3)):Prop:=
 (m0 x.1)
def WL (x:((I3×I3)×I3)):Tr Bool true:=
 (.fn oU x.1 fun y=>
 (.fu y
 (.fn0 A8 x trivial fun aq=>
 (.ret aq))
 (.ret false)))
abbrev xR:dS:=⟨(.pair (.agg (Ty.prod bz bz)) (.agg bz)),(.one Ty.bool),rf,Dx⟩
theorem TS:ak Tryz.prog 85 (av xR):=ak.tr xR WL (fn:=Tryz.f85) aC wM mixed (by kernel_rfl) (aA.nil _ _) (fun x=>aB.nil) (fun x=>(by kernel_rfl)) fun x Q=>(by kernel_rfl)
def MP:List (Nat×Ev.Spec):=(85,av xR)::E6
theorem CB:ah Tryz.prog MP:=ah.add (fn:=Tryz.f85) (by kernel_rfl) TS wM
def rK (x:(((I3×I3)×(Int×(Int×(List Int))))×Int)):Bool:=
 (if ((x.1.2.1==(0:Int))=true) then
 (x.1.2.2.1==(0:Int)) else
 false)
def Ov (_:(((I3×I3)×(Int×(Int×(List Int))))×Int)):Prop:=True
def Us (x:(((I3×I3)×(Int×(Int×(List Int))))×Int)):Tr Bool false:=
 (.fu (x.1.2.1==z0)
 (.ret (x.1.2.2.1==z0))
 (.ret false))
abbrev Ab:dS:=⟨(.agg (Ty.prod (Ty.prod (Ty.prod bz bz) (Ty.prod yi (Ty.prod yi (Ty.sl yi)))) yi)),(.one Ty.bool),Ov,rK⟩
theorem Rq:ak Tryz.prog 83 (av Ab):=ak.tr Ab Us (fn:=Tryz.f83) aC CB mixed (by kernel_rfl) (aA.nil _ _) (fun x=>aB.nil) (fun x=>(by kernel_rfl)) fun x Q=>(by kernel_rfl)
def Jn:List (Nat×Ev.Spec):=(83,av Ab)::MP
theorem zn:ah Tryz.prog Jn:=ah.add (fn:=Tryz.f83) (by kernel_rfl) Rq CB
def NY (x:((((I3×I3)×(Int×(Int×(List Int))))×Int)×I9)):Bool:=
 (ai (Dx (x.1.1.1,x.2.1)) fun y=>
 (if (y=true) then
 (ai (Dx (x.1.1.1,x.2.2.1)) fun aq=>
 (if (aq=true) then
 (ai (Dx (x.1.1.1,x.2.2.2)) fun y_2=>
 y_2) else
 false)) else
 false))
def A9 (x:((((I3×I3)×(Int×(Int×(List Int))))×Int)×I9)):Prop:=
 ((rf (x.1.1.1,x.2.1))/\
 az (Dx (x.1.1.1,x.2.1)) fun y=>
 ((y=true)->
 ((rf (x.1.1.1,x.2.2.1))/\
 az (Dx (x.1.1.1,x.2.2.1)) fun aq=>
 ((aq=true)->
 (rf (x.1.1.1,x.2.2.2))))))
def WK (x:((((I3×I3)×(Int×(Int×(List Int))))×Int)×I9)):Tr Bool true:=
 (.fn xR (x.1.1.1,x.2.1) fun y=>
 (.XX y
 (.fn xR (x.1.1.1,x.2.2.1) fun aq=>
 (.XX aq
 (.fn xR (x.1.1.1,x.2.2.2) fun y_2=>
 (.ret y_2))
 (.ret false)))
 (.ret false)))
abbrev Ge:dS:=⟨(.pair (.agg (Ty.prod (Ty.prod (Ty.prod bz bz) (Ty.prod yi (Ty.prod yi (Ty.sl yi)))) yi)) (.agg bP)),(.one Ty.bool),A9,NY⟩
theorem TQ:ak Tryz.prog 55 (av Ge):=ak.tr Ge WK (fn:=Tryz.f55) aC zn mixed (by kernel_rfl) (aA.nil _ _) (fun x=>aB.nil) (fun x=>(by kernel_rfl)) fun x Q=>(by kernel_rfl)
def MO:List (Nat×Ev.Spec):=(55,av Ge)::Jn
theorem CA:ah Tryz.prog MO:=ah.add (fn:=Tryz.f55) (by kernel_rfl) TQ zn
def Xn (x:I2):I2:=
 ((IntKind.wrap IntKind.u32 (Int.fdiv (IntKind.wrap IntKind.u64 ((IntKind.wrap IntKind.u64 x.1)*(IntKind.wrap IntKind.u64 x.2))) (4294967296:Int))),(IntKind.wrap IntKind.u32 (IntKind.wrap IntKind.u64 ((IntKind.wrap IntKind.u64 x.1)*(IntKind.wrap IntKind.u64 x.2)))))
def KZ (_:I2):Prop:=True
def RB (x:I2):Tr I2 false:=
 (.ret ((IntKind.wrap IntKind.u32 (Int.fdiv (IntKind.wrap IntKind.u64 ((IntKind.wrap IntKind.u64 x.1)*(IntKind.wrap IntKind.u64 x.2))) (4294967296:Int))),(IntKind.wrap IntKind.u32 (IntKind.wrap IntKind.u64 ((IntKind.wrap IntKind.u64 x.1)*(IntKind.wrap IntKind.u64 x.2))))))
abbrev BN:dS:=⟨(.pair (.one (Ty.int IntKind.u32)) (.one (Ty.int IntKind.u32))),(.pair (.one (Ty.int IntKind.u32)) (.one (Ty.int IntKind.u32))),KZ,Xn⟩
theorem OG:ak Tryz.prog 144 (av BN):=ak.tr BN RB (fn:=Tryz.f144) aC CA mixed (by kernel_rfl) (aA.nil _ _) (fun x=>aB.nil) (fun x=>(by kernel_rfl)) fun x Q=>(by kernel_rfl)
def Fs:List (Nat×Ev.Spec):=(144,av BN)::MO
theorem xb:ah Tryz.prog Fs:=ah.add (fn:=Tryz.f144) (by kernel_rfl) OG CA
def K0 (x:I2):I2:=
 ((IntKind.wrap IntKind.u64 ((IntKind.wrap IntKind.u64 ((IntKind.wrap IntKind.u64 ((Int.fdiv x.1 (4294967296:Int))*(Int.fdiv x.2 (4294967296:Int))))+(Int.fdiv (IntKind.wrap IntKind.u64 ((IntKind.wrap IntKind.u64 ((Int.fdiv x.1 (4294967296:Int))*(IntKind.wrap IntKind.u64 (((BitVec.toNat ((BitVec.ofInt 64 x.2)&&&(BitVec.ofInt 64 (4294967295:Int)))):Nat):Int))))+(Int.fdiv (IntKind.wrap IntKind.u64 ((IntKind.wrap IntKind.u64 (((BitVec.toNat ((BitVec.ofInt 64 x.1)&&&(BitVec.ofInt 64 (4294967295:Int)))):Nat):Int))*(IntKind.wrap IntKind.u64 (((BitVec.toNat ((BitVec.ofInt 64 x.2)&&&(BitVec.ofInt 64 (4294967295:Int)))):Nat):Int)))) (4294967296:Int)))) (4294967296:Int))))+(Int.fdiv (IntKind.wrap IntKind.u64 ((IntKind.wrap IntKind.u64 (((BitVec.toNat ((BitVec.ofInt 64 (IntKind.wrap IntKind.u64 ((IntKind.wrap IntKind.u64 ((Int.fdiv x.1 (4294967296:Int))*(IntKind.wrap IntKind.u64 (((BitVec.toNat ((BitVec.ofInt 64 x.2)&&&(BitVec.ofInt 64 (4294967295:Int)))):Nat):Int))))+(Int.fdiv (IntKind.wrap IntKind.u64 ((IntKind.wrap IntKind.u64 (((BitVec.toNat ((BitVec.ofInt 64 x.1)&&&(BitVec.ofInt 64 (4294967295:Int)))):Nat):Int))*(IntKind.wrap IntKind.u64 (((BitVec.toNat ((BitVec.ofInt 64 x.2)&&&(BitVec.ofInt 64 (4294967295:Int)))):Nat):Int)))) (4294967296:Int)))))&&&(BitVec.ofInt 64 (4294967295:Int)))):Nat):Int))+(IntKind.wrap IntKind.u64 ((IntKind.wrap IntKind.u64 (((BitVec.toNat ((BitVec.ofInt 64 x.1)&&&(BitVec.ofInt 64 (4294967295:Int)))):Nat):Int))*(Int.fdiv x.2 (4294967296:Int)))))) (4294967296:Int)))),(IntKind.wrap IntKind.u64 (x.1*x.2)))
def K1 (_:I2):Prop:=True
def RC (x:I2):Tr I2 false:=
 (.ret ((IntKind.wrap IntKind.u64 ((IntKind.wrap IntKind.u64 ((IntKind.wrap IntKind.u64 ((Int.fdiv x.1 (4294967296:Int))*(Int.fdiv x.2 (4294967296:Int))))+(Int.fdiv (IntKind.wrap IntKind.u64 ((IntKind.wrap IntKind.u64 ((Int.fdiv x.1 (4294967296:Int))*(IntKind.wrap IntKind.u64 (((BitVec.toNat ((BitVec.ofInt 64 x.2)&&&(BitVec.ofInt 64 (4294967295:Int)))):Nat):Int))))+(Int.fdiv (IntKind.wrap IntKind.u64 ((IntKind.wrap IntKind.u64 (((BitVec.toNat ((BitVec.ofInt 64 x.1)&&&(BitVec.ofInt 64 (4294967295:Int)))):Nat):Int))*(IntKind.wrap IntKind.u64 (((BitVec.toNat ((BitVec.ofInt 64 x.2)&&&(BitVec.ofInt 64 (4294967295:Int)))):Nat):Int)))) (4294967296:Int)))) (4294967296:Int))))+(Int.fdiv (IntKind.wrap IntKind.u64 ((IntKind.wrap IntKind.u64 (((BitVec.toNat ((BitVec.ofInt 64 (IntKind.wrap IntKind.u64 ((IntKind.wrap IntKind.u64 ((Int.fdiv x.1 (4294967296:Int))*(IntKind.wrap IntKind.u64 (((BitVec.toNat ((BitVec.ofInt 64 x.2)&&&(BitVec.ofInt 64 (4294967295:Int)))):Nat):Int))))+(Int.fdiv (IntKind.wrap IntKind.u64 ((IntKind.wrap IntKind.u64 (((BitVec.toNat ((BitVec.ofInt 64 x.1)&&&(BitVec.ofInt 64 (4294967295:Int)))):Nat):Int))*(IntKind.wrap IntKind.u64 (((BitVec.toNat ((BitVec.ofInt 64 x.2)&&&(BitVec.ofInt 64 (4294967295:Int)))):Nat):Int)))) (4294967296:Int)))))&&&(BitVec.ofInt 64 (4294967295:Int)))):Nat):Int))+(IntKind.wrap IntKind.u64 ((IntKind.wrap IntKind.u64 (((BitVec.toNat ((BitVec.ofInt 64 x.1)&&&(BitVec.ofInt 64 (4294967295:Int)))):Nat):Int))*(Int.fdiv x.2 (4294967296:Int)))))) (4294967296:Int)))),(IntKind.wrap IntKind.u64 (x.1*x.2))))
abbrev vR:dS:=⟨(.pair (.one (Ty.int IntKind.u64)) (.one (Ty.int IntKind.u64))),(.pair (.one (Ty.int IntKind.u64)) (.one (Ty.int IntKind.u64))),K1,K0⟩
theorem OH:ak Tryz.prog 145 (av vR):=ak.tr vR RC (fn:=Tryz.f145) aC xb mixed (by kernel_rfl) (aA.nil _ _) (fun x=>aB.nil) (fun x=>(by kernel_rfl)) fun x Q=>(by kernel_rfl)
def Ft:List (Nat×Ev.Spec):=(145,av vR)::Fs
theorem xd:ah Tryz.prog Ft:=ah.add (fn:=Tryz.f145) (by kernel_rfl) OH xb
def Hz (x:I2):I2:=
 (ai (K0 x) fun y=>
 y)
def Nn (_:I2):Prop:=True
def Tv (x:I2):Tr I2 false:=
 (.fn0 vR x trivial fun y=>
 (.ret y))
abbrev zO:dS:=⟨(.pair (.one (Ty.int IntKind.u64)) (.one (Ty.int IntKind.u64))),(.pair (.one (Ty.int IntKind.u64)) (.one (Ty.int IntKind.u64))),Nn,Hz⟩
theorem PU:ak Tryz.prog 113 (av zO):=ak.tr zO Tv (fn:=Tryz.f113) aC xd mixed (by kernel_rfl) (aA.nil _ _) (fun x=>aB.nil) (fun x=>(by kernel_rfl)) fun x Q=>(by kernel_rfl)
def Jd:List (Nat×Ev.Spec):=(113,av zO)::Ft
theorem r7:ah Tryz.prog Jd:=ah.add (fn:=Tryz.f113) (by kernel_rfl) PU xd
def Ch (x:((List Int)×Int)):aI:=⟨[],⟨cA 48 0 [(7,.v (.one (.full 0))),(8,.v (.one (.i .i64)))],[.row yi 2],0,none,[],[],[1,0],[(.l yi),.i],[]⟩,[⟨(.exit 0),.normal,⟨cA 48 0 [(7,.v (.one (.full 0)))],[.row yi 2],0,none,[],[],[0],[(.l yi)],[]⟩⟩]⟩
def fY (x:((List Int)×Int)) (s:((List Int)×Int)):((List Int)×Int)⊕(List Int):=
 (if (s.2<(s.1.length:Int)) then
 (ai (iz s.1 ((Int.toNat s.2)+0) ((List.length s.1)- (Int.toNat s.2)) (List.take (Int.toNat s.2) s.1)) fun y=>
 (Sum.inl (y,(ae (s.2+(((nE ((List.length s.1)- (Int.toNat s.2)) (List.length (List.take (Int.toNat s.2) s.1))):Nat):Int)))))) else
 (Sum.inr (s.1)))
def jK (x:((List Int)×Int)) (s:((List Int)×Int)):Prop:=
 ((s.2<(s.1.length:Int))->
 ((((0:Int)<=s.2)/\ (s.2<=(s.1.length:Int)))/\
 (((0:Int)<=s.2)/\ (s.2<=(s.1.length:Int)))))
def wz (x:((List Int)×Int)) (s:((List Int)×Int)):Tr (((List Int)×Int)⊕(List Int)) true:=
 (.i10 (s.2<(nL s.1))
 (.og ((decide (z0<=s.2))&&(decide (s.2<=(nL s.1)))) ((z0<=s.2)/\ (s.2<=(nL s.1))) (fun h=>(c7 (decide_eq_true h.1) (decide_eq_true h.2)))
 (.og ((decide (z0<=s.2))&&(decide (s.2<=(nL s.1)))) ((z0<=s.2)/\ (s.2<=(nL s.1))) (fun h=>(c7 (decide_eq_true h.1) (decide_eq_true h.2)))
 (.lt (iz s.1 ((tN s.2)+0) ((List.length s.1)- (tN s.2)) (List.take (tN s.2) s.1)) fun y=>
 (.ret (.inl (y,(ae (s.2+(((nE ((List.length s.1)- (tN s.2)) (List.length (List.take (tN s.2) s.1))):Nat):Int)))))))))
 (.ret (.inr (s.1))))
def repeatM (x:((List Int)×Int)):(List Int):=
 (if (x.2<(0:Int)) then
 default else
 (ai (Hz ((IntKind.wrap IntKind.u64 (x.1.length:Int)),(IntKind.wrap IntKind.u64 x.2))) fun y=>
 (if (y.1>(0:Int)) then
 default else
 (if (y.2>(9223372036854775807:Int)) then
 default else
 (ai (iz (List.replicate (Int.toNat (ae y.2)) (0:Int)) 0 (List.length (List.replicate (Int.toNat (ae y.2)) (0:Int))) x.1) fun aq=>
 (ai (run (fY x) (aq,(((nE (List.length (List.replicate (Int.toNat (ae y.2)) (0:Int))) (List.length x.1)):Nat):Int))) fun r=>
 r))))))
def nQ (x:((List Int)×Int)):Prop:=
 (((x.2<(0:Int))->
 False)/\
 (¬(x.2<(0:Int))->
 (az (Hz ((IntKind.wrap IntKind.u64 (x.1.length:Int)),(IntKind.wrap IntKind.u64 x.2))) fun y=>
 (((y.1>(0:Int))->
 False)/\
 (¬(y.1>(0:Int))->
 (((y.2>(9223372036854775807:Int))->
 False)/\
 (¬(y.2>(9223372036854775807:Int))->
 (((((0:Int)<=(ae y.2))/\ ((ae y.2)<=(ae y.2)))/\ ((Int.toNat (ae y.2))<1099511627776))/\
 (az (iz (List.replicate (Int.toNat (ae y.2)) (0:Int)) 0 (List.length (List.replicate (Int.toNat (ae y.2)) (0:Int))) x.1) fun aq=>
 (Term (fY x) (jK x) (aq,(((nE (List.length (List.replicate (Int.toNat (ae y.2)) (0:Int))) (List.length x.1)):Nat):Int))))))))))))
def O0 (x:((List Int)×Int)):Tr (List Int) true:=
 (.i11 (x.2<z0)
 (.og false False False.elim (.ret default))
 (.fn0 zO ((IntKind.wrap IntKind.u64 (nL x.1)),(IntKind.wrap IntKind.u64 x.2)) trivial fun y=>
 (.i11 (y.1>z0)
 (.og false False False.elim (.ret default))
 (.i11 (y.2>(9223372036854775807:Int))
 (.og false False False.elim (.ret default))
 (.og (((decide (z0<=(ae y.2)))&&(decide ((ae y.2)<=(ae y.2))))&&(decide ((tN (ae y.2))<1099511627776))) (((z0<=(ae y.2))/\ ((ae y.2)<=(ae y.2)))/\ ((tN (ae y.2))<1099511627776)) (fun h=>(c7 (c7 (decide_eq_true h.1.1) (decide_eq_true h.1.2)) (decide_eq_true h.2)))
 (.lt (iz (List.replicate (tN (ae y.2)) z0) 0 (List.length (List.replicate (tN (ae y.2)) z0)) x.1) fun aq=>
 (aI.lp (Ch x) (wz x) (aq,(((nE (List.length (List.replicate (tN (ae y.2)) z0)) (List.length x.1)):Nat):Int)) fun r=>
 (.ret r))))))))
abbrev th:dS:=⟨(.pair (.one (Ty.sl yi)) (.one yi)),(.one (Ty.sl yi)),nQ,repeatM⟩
theorem Lh:ak Tryz.prog 82 (av th):=ak.tr th O0 (fn:=Tryz.f82) aC r7 mixed (by kernel_rfl) (aA.nil _ _) (fun x=>(aB.tr aC (ah.c8 r7 (aA.nil _ _)) mixed 0 (Ch x) (wz x) aB.nil (by kernel_rfl) fun g s Q=>(by kernel_rfl))) (fun x=>(by kernel_rfl)) fun x Q=>(by kernel_rfl)
def CO:List (Nat×Ev.Spec):=(82,av th)::Jd
theorem oA:ah Tryz.prog CO:=ah.add (fn:=Tryz.f82) (by kernel_rfl) Lh r7
def Ep (x:((List Int)×Int)):aI:=⟨[],⟨cA 19 0 [(0,.v (.one (.full 0))),(1,.v (.one (.i .i64))),(7,.v (.one (.i .i64))),(8,.v (.one (.i .i64)))],[.row yi 0],0,none,[],[0,1,3],[2],[.i],[.i x.2,.i (x.1.length:Int),.l yi x.1]⟩,[⟨.ret,.ret,⟨cA 19 0 [(4,.v (.one (.i .i64)))],[],0,none,[],[],[0],[.i],[]⟩⟩,⟨(.exit 0),.normal,⟨cA 19 0 [],[],0,none,[],[],[],[],[]⟩⟩]⟩
def gQ (x:((List Int)×Int)) (s:Int):Int⊕(Int⊕Unit):=
 (if (s<(x.1.length:Int)) then
 (if ((x.2==(List.getD x.1 (Int.toNat s) (0:Int)))=true) then
 (Sum.inr (Sum.inl s)) else
 (Sum.inl (ae (s+(1:Int))))) else
 (Sum.inr (Sum.inr (()))))
def om (x:((List Int)×Int)) (s:Int):Prop:=
 ((s<(x.1.length:Int))->
 ((((0:Int)<=s)/\ (s<(x.1.length:Int)))/\
 (((Int.toNat s)<(List.length x.1))/\
 ((Int.toNat s)<(List.length x.1)))))
def yP (x:((List Int)×Int)) (s:Int):Tr (Int⊕(Int⊕Unit)) true:=
 (.i10 (s<(nL x.1))
 (.bO s x.1
 (.fu (x.2==(gI x.1 s))
 (.ret (.inr (Sum.inl s)))
 (.ret (.inl (w1 s)))))
 (.ret (.inr (Sum.inr (())))))
def KF (x:((List Int)×Int)):Int:=
 (ai (run (gQ x) (0:Int)) fun r=>
 (Sum.elim (fun a=>
 a) (fun b=>
 (-1:Int)) r))
def ux (x:((List Int)×Int)):Prop:=
 (Term (gQ x) (om x) (0:Int))
def Q7 (x:((List Int)×Int)):Tr Int true:=
 (aI.lp (Ep x) (yP x) z0 fun r=>
 (.Hj r (fun a=>
 (.ret a)) (fun b=>
 (.ret (-1:Int)))))
abbrev vE:dS:=⟨(.pair (.one (Ty.sl yi)) (.one yi)),(.one yi),ux,KF⟩
theorem Oa:ak Tryz.prog 114 (av vE):=ak.tr vE Q7 (fn:=Tryz.f114) aC oA mixed (by kernel_rfl) (aA.nil _ _) (fun x=>(aB.tr aC (ah.c8 oA (aA.nil _ _)) mixed 0 (Ep x) (yP x) aB.nil (by kernel_rfl) fun g s Q=>(by kernel_rfl))) (fun x=>(by kernel_rfl)) fun x Q=>(by kernel_rfl)
def Fh:List (Nat×Ev.Spec):=(114,av vE)::CO
theorem wY:ah Tryz.prog Fh:=ah.add (fn:=Tryz.f114) (by kernel_rfl) Oa oA
def j5 (x:((List Int)×Int)):Bool:=
 (ai (KF x) fun y=>
 (decide (y>=(0:Int))))
def n7 (x:((List Int)×Int)):Prop:=
 (ux x)
def HL (x:((List Int)×Int)):Tr Bool true:=
 (.fn vE x fun y=>
 (.ret (decide (y>=z0))))
abbrev ny:dS:=⟨(.pair (.one (Ty.sl yi)) (.one yi)),(.one Ty.bool),n7,j5⟩
theorem FZ:ak Tryz.prog 84 (av ny):=ak.tr ny HL (fn:=Tryz.f84) aC wY mixed (by kernel_rfl) (aA.nil _ _) (fun x=>aB.nil) (fun x=>(by kernel_rfl)) fun x Q=>(by kernel_rfl)
def wR:List (Nat×Ev.Spec):=(84,av ny)::Fh
theorem lU:ah Tryz.prog wR:=ah.add (fn:=Tryz.f84) (by kernel_rfl) FZ wY
def y9 (x:(List ((I3×I3)×(Int×(Int×(List Int)))))):aI:=⟨[],⟨cA 84 0 [(0,.v (.one (.full 0))),(4,.v (.one (.full 1))),(11,.v (.one (.full 0))),(12,.v (.one (.i .i64))),(13,.v (.one (.i .i64)))],[.row (Ty.prod (Ty.prod bz bz) (Ty.prod yi (Ty.prod yi (Ty.sl yi)))) 0,.row yi 2],0,none,[],[0,2],[3,1],[(.l yi),.i],[.i (x.length:Int),.l (Ty.prod (Ty.prod bz bz) (Ty.prod yi (Ty.prod yi (Ty.sl yi)))) x]⟩,[⟨.ret,.ret,⟨cA 84 0 [(2,.v (.one (.raw))),(3,.v (.one (.b)))],[],0,none,[],[0,1],[],[],[.v (.slice none 0 0),.b false]⟩⟩,⟨(.exit 0),.normal,⟨cA 84 0 [(0,.v (.one (.full 0))),(4,.v (.one (.full 1)))],[.row (Ty.prod (Ty.prod bz bz) (Ty.prod yi (Ty.prod yi (Ty.sl yi)))) 0,.row yi 2],0,none,[],[0],[1],[(.l yi)],[.l (Ty.prod (Ty.prod bz bz) (Ty.prod yi (Ty.prod yi (Ty.sl yi)))) x]⟩⟩]⟩
def cZ (x:(List ((I3×I3)×(Int×(Int×(List Int)))))) (s:((List Int)×Int)):((List Int)×Int)⊕(Unit⊕(List Int)):=
 (if (s.2<(x.length:Int)) then
 (ai (rK ((List.getD x (Int.toNat s.2) ((((0:Int),((0:Int),(0:Int))),((0:Int),((0:Int),(0:Int)))),((0:Int),((0:Int),[])))),s.2)) fun y=>
 (if (y=true) then
 (Sum.inl (s.1,(ae (s.2+(1:Int))))) else
 (if (((List.getD x (Int.toNat s.2) ((((0:Int),((0:Int),(0:Int))),((0:Int),((0:Int),(0:Int)))),((0:Int),((0:Int),[])))).2.2.2.length:Int)>(0:Int)) then
 (Sum.inr (Sum.inl ())) else
 (if (((List.getD x (Int.toNat s.2) ((((0:Int),((0:Int),(0:Int))),((0:Int),((0:Int),(0:Int)))),((0:Int),((0:Int),[])))).2.1 !=(ae (s.2+(1:Int))))=true) then
 (Sum.inr (Sum.inl ())) else
 (if ((List.getD x (Int.toNat s.2) ((((0:Int),((0:Int),(0:Int))),((0:Int),((0:Int),(0:Int)))),((0:Int),((0:Int),[])))).2.2.1<=(List.getD x (Int.toNat s.2) ((((0:Int),((0:Int),(0:Int))),((0:Int),((0:Int),(0:Int)))),((0:Int),((0:Int),[])))).2.1) then
 (Sum.inr (Sum.inl ())) else
 (if ((List.getD x (Int.toNat s.2) ((((0:Int),((0:Int),(0:Int))),((0:Int),((0:Int),(0:Int)))),((0:Int),((0:Int),[])))).2.2.1>=(x.length:Int)) then
 (Sum.inr (Sum.inl ())) else
 (if ((List.getD s.1 (Int.toNat (List.getD x (Int.toNat s.2) ((((0:Int),((0:Int),(0:Int))),((0:Int),((0:Int),(0:Int)))),((0:Int),((0:Int),[])))).2.1) (0:Int))>=(0:Int)) then
 (Sum.inr (Sum.inl ())) else
 (if ((List.getD s.1 (Int.toNat (List.getD x (Int.toNat s.2) ((((0:Int),((0:Int),(0:Int))),((0:Int),((0:Int),(0:Int)))),((0:Int),((0:Int),[])))).2.2.1) (0:Int))>=(0:Int)) then
 (Sum.inr (Sum.inl ())) else
 (ai (List.set s.1 (Int.toNat (List.getD x (Int.toNat s.2) ((((0:Int),((0:Int),(0:Int))),((0:Int),((0:Int),(0:Int)))),((0:Int),((0:Int),[])))).2.1) s.2) fun aq=>
 (ai (List.set aq (Int.toNat (List.getD x (Int.toNat s.2) ((((0:Int),((0:Int),(0:Int))),((0:Int),((0:Int),(0:Int)))),((0:Int),((0:Int),[])))).2.2.1) s.2) fun y_2=>
 (Sum.inl (y_2,(ae (s.2+(1:Int))))))))))))))) else
 (Sum.inr (Sum.inr (s.1))))
def fW (x:(List ((I3×I3)×(Int×(Int×(List Int)))))) (s:((List Int)×Int)):Prop:=
 ((s.2<(x.length:Int))->
 ((((0:Int)<=s.2)/\ (s.2<(x.length:Int)))/\
 (((Int.toNat s.2)<(List.length x))/\
 (((Int.toNat s.2)<(List.length x))/\
 (az (rK ((List.getD x (Int.toNat s.2) ((((0:Int),((0:Int),(0:Int))),((0:Int),((0:Int),(0:Int)))),((0:Int),((0:Int),[])))),s.2)) fun y=>
 (¬(y=true)->
 (¬(((List.getD x (Int.toNat s.2) ((((0:Int),((0:Int),(0:Int))),((0:Int),((0:Int),(0:Int)))),((0:Int),((0:Int),[])))).2.2.2.length:Int)>(0:Int))->
 (¬(((List.getD x (Int.toNat s.2) ((((0:Int),((0:Int),(0:Int))),((0:Int),((0:Int),(0:Int)))),((0:Int),((0:Int),[])))).2.1 !=(ae (s.2+(1:Int))))=true)->
 (¬((List.getD x (Int.toNat s.2) ((((0:Int),((0:Int),(0:Int))),((0:Int),((0:Int),(0:Int)))),((0:Int),((0:Int),[])))).2.2.1<=(List.getD x (Int.toNat s.2) ((((0:Int),((0:Int),(0:Int))),((0:Int),((0:Int),(0:Int)))),((0:Int),((0:Int),[])))).2.1)->
 (¬((List.getD x (Int.toNat s.2) ((((0:Int),((0:Int),(0:Int))),((0:Int),((0:Int),(0:Int)))),((0:Int),((0:Int),[])))).2.2.1>=(x.length:Int))->
 ((((0:Int)<=(List.getD x (Int.toNat s.2) ((((0:Int),((0:Int),(0:Int))),((0:Int),((0:Int),(0:Int)))),((0:Int),((0:Int),[])))).2.1)/\ ((List.getD x (Int.toNat s.2) ((((0:Int),((0:Int),(0:Int))),((0:Int),((0:Int),(0:Int)))),((0:Int),((0:Int),[])))).2.1<(s.1.length:Int)))/\
 (((Int.toNat (List.getD x (Int.toNat s.2) ((((0:Int),((0:Int),(0:Int))),((0:Int),((0:Int),(0:Int)))),((0:Int),((0:Int),[])))).2.1)<(List.length s.1))/\
 (((Int.toNat (List.getD x (Int.toNat s.2) ((((0:Int),((0:Int),(0:Int))),((0:Int),((0:Int),(0:Int)))),((0:Int),((0:Int),[])))).2.1)<(List.length s.1))/\
 (¬((List.getD s.1 (Int.toNat (List.getD x (Int.toNat s.2) ((((0:Int),((0:Int),(0:Int))),((0:Int),((0:Int),(0:Int)))),((0:Int),((0:Int),[])))).2.1) (0:Int))>=(0:Int))->
 ((((0:Int)<=(List.getD x (Int.toNat s.2) ((((0:Int),((0:Int),(0:Int))),((0:Int),((0:Int),(0:Int)))),((0:Int),((0:Int),[])))).2.2.1)/\ ((List.getD x (Int.toNat s.2) ((((0:Int),((0:Int),(0:Int))),((0:Int),((0:Int),(0:Int)))),((0:Int),((0:Int),[])))).2.2.1<(s.1.length:Int)))/\
 (((Int.toNat (List.getD x (Int.toNat s.2) ((((0:Int),((0:Int),(0:Int))),((0:Int),((0:Int),(0:Int)))),((0:Int),((0:Int),[])))).2.2.1)<(List.length s.1))/\
 (((Int.toNat (List.getD x (Int.toNat s.2) ((((0:Int),((0:Int),(0:Int))),((0:Int),((0:Int),(0:Int)))),((0:Int),((0:Int),[])))).2.2.1)<(List.length s.1))/\
 (¬((List.getD s.1 (Int.toNat (List.getD x (Int.toNat s.2) ((((0:Int),((0:Int),(0:Int))),((0:Int),((0:Int),(0:Int)))),((0:Int),((0:Int),[])))).2.2.1) (0:Int))>=(0:Int))->
 ((((0:Int)<=(List.getD x (Int.toNat s.2) ((((0:Int),((0:Int),(0:Int))),((0:Int),((0:Int),(0:Int)))),((0:Int),((0:Int),[])))).2.1)/\ ((List.getD x (Int.toNat s.2) ((((0:Int),((0:Int),(0:Int))),((0:Int),((0:Int),(0:Int)))),((0:Int),((0:Int),[])))).2.1<(s.1.length:Int)))/\
 (((Int.toNat (List.getD x (Int.toNat s.2) ((((0:Int),((0:Int),(0:Int))),((0:Int),((0:Int),(0:Int)))),((0:Int),((0:Int),[])))).2.1)<(List.length s.1))/\
 (((Int.toNat (List.getD x (Int.toNat s.2) ((((0:Int),((0:Int),(0:Int))),((0:Int),((0:Int),(0:Int)))),((0:Int),((0:Int),[])))).2.1)<(List.length s.1))/\
 (az (List.set s.1 (Int.toNat (List.getD x (Int.toNat s.2) ((((0:Int),((0:Int),(0:Int))),((0:Int),((0:Int),(0:Int)))),((0:Int),((0:Int),[])))).2.1) s.2) fun aq=>
 ((((0:Int)<=(List.getD x (Int.toNat s.2) ((((0:Int),((0:Int),(0:Int))),((0:Int),((0:Int),(0:Int)))),((0:Int),((0:Int),[])))).2.2.1)/\ ((List.getD x (Int.toNat s.2) ((((0:Int),((0:Int),(0:Int))),((0:Int),((0:Int),(0:Int)))),((0:Int),((0:Int),[])))).2.2.1<(aq.length:Int)))/\
 (((Int.toNat (List.getD x (Int.toNat s.2) ((((0:Int),((0:Int),(0:Int))),((0:Int),((0:Int),(0:Int)))),((0:Int),((0:Int),[])))).2.2.1)<(List.length aq))/\
 ((Int.toNat (List.getD x (Int.toNat s.2) ((((0:Int),((0:Int),(0:Int))),((0:Int),((0:Int),(0:Int)))),((0:Int),((0:Int),[])))).2.2.1)<(List.length aq))))))))))))))))))))))))))
def tJ (x:(List ((I3×I3)×(Int×(Int×(List Int)))))) (s:((List Int)×Int)):Tr (((List Int)×Int)⊕(Unit⊕(List Int))) true:=
 (.i10 (s.2<(nL x))
 (.bO s.2 x
 (.fn0 Ab ((gT x s.2 ((eE,eE),(z0,(z0,[])))),s.2) trivial fun y=>
 (.nY y
 (.ret (.inl (s.1,(w1 s.2))))
 (.Di ((nL (gT x s.2 ((eE,eE),(z0,(z0,[])))).2.2.2)>z0)
 (.ret (.inr (Sum.inl ())))
 (.nY ((gT x s.2 ((eE,eE),(z0,(z0,[])))).2.1 !=(w1 s.2))
 (.ret (.inr (Sum.inl ())))
 (.Di ((gT x s.2 ((eE,eE),(z0,(z0,[])))).2.2.1<=(gT x s.2 ((eE,eE),(z0,(z0,[])))).2.1)
 (.ret (.inr (Sum.inl ())))
 (.Di ((gT x s.2 ((eE,eE),(z0,(z0,[])))).2.2.1>=(nL x))
 (.ret (.inr (Sum.inl ())))
 (.bO (gT x s.2 ((eE,eE),(z0,(z0,[])))).2.1 s.1
 (.Di ((gI s.1 (gT x s.2 ((eE,eE),(z0,(z0,[])))).2.1)>=z0)
 (.ret (.inr (Sum.inl ())))
 (.bO (gT x s.2 ((eE,eE),(z0,(z0,[])))).2.2.1 s.1
 (.Di ((gI s.1 (gT x s.2 ((eE,eE),(z0,(z0,[])))).2.2.1)>=z0)
 (.ret (.inr (Sum.inl ())))
 (.bO (gT x s.2 ((eE,eE),(z0,(z0,[])))).2.1 s.1
 (.lt (List.set s.1 (tN (gT x s.2 ((eE,eE),(z0,(z0,[])))).2.1) s.2) fun aq=>
 (.bO (gT x s.2 ((eE,eE),(z0,(z0,[])))).2.2.1 aq
 (.lt (List.set aq (tN (gT x s.2 ((eE,eE),(z0,(z0,[])))).2.2.1) s.2) fun y_2=>
 (.ret (.inl (y_2,(w1 s.2)))))))))))))))))))
 (.ret (.inr (Sum.inr (s.1)))))
def rU (x:(List ((I3×I3)×(Int×(Int×(List Int)))))):((List Int)×Bool):=
 (ai (repeatM ([(-1:Int)],(x.length:Int))) fun y=>
 (ai (run (cZ x) (y,(0:Int))) fun r=>
 (Sum.elim (fun a=>
 ([],false)) (fun b=>
 (if ((x.length:Int)>(0:Int)) then
 (ai (j5 ((List.drop 1 b),(-1:Int))) fun aq=>
 (b,(!aq))) else
 (b,false))) r)))
def mg (x:(List ((I3×I3)×(Int×(Int×(List Int)))))):Prop:=
 ((nQ ([(-1:Int)],(x.length:Int)))/\
 az (repeatM ([(-1:Int)],(x.length:Int))) fun y=>
 (Term (cZ x) (fW x) (y,(0:Int))/\
 az (run (cZ x) (y,(0:Int))) fun r=>
 (cS r (fun a=>
 True) (fun b=>
 (((x.length:Int)>(0:Int))->
 (((1:Int)<=(b.length:Int))/\
 (n7 ((List.drop 1 b),(-1:Int)))))))))
def K7 (x:(List ((I3×I3)×(Int×(Int×(List Int)))))):Tr ((List Int)×Bool) true:=
 (.fn th ([(-1:Int)],(nL x)) fun y=>
 (aI.lp (y9 x) (tJ x) (y,z0) fun r=>
 (.s01 r (fun a=>
 (.ret ([],false))) (fun b=>
 (.i10 ((nL x)>z0)
 (.og (true&&(decide (z1<=(nL b)))) (z1<=(nL b)) (fun h=>(c7 rfl (decide_eq_true h)))
 (.fn ny ((List.drop 1 b),(-1:Int)) fun aq=>
 (.ret (b,(!aq)))))
 (.ret (b,false)))))))
abbrev pZ:dS:=⟨(.one (Ty.sl (Ty.prod (Ty.prod bz bz) (Ty.prod yi (Ty.prod yi (Ty.sl yi)))))),(.pair (.one (Ty.sl yi)) (.one Ty.bool)),mg,rU⟩
theorem IJ:ak Tryz.prog 54 (av pZ):=ak.tr pZ K7 (fn:=Tryz.f54) aC lU mixed (by kernel_rfl) (aA.nil _ _) (fun x=>(aB.tr aC (ah.c8 lU (aA.nil _ _)) mixed 0 (y9 x) (tJ x) aB.nil (by kernel_rfl) fun g s Q=>(by kernel_rfl))) (fun x=>(by kernel_rfl)) fun x Q=>(by kernel_rfl)
def zw:List (Nat×Ev.Spec):=(54,av pZ)::wR
theorem nc:ah Tryz.prog zw:=ah.add (fn:=Tryz.f54) (by kernel_rfl) IJ lU
def El (x:((List Bool)×Bool)):aI:=⟨[],⟨cA 19 0 [(0,.v (.one (.full 0))),(1,.v (.one (.b))),(7,.v (.one (.i .i64))),(8,.v (.one (.i .i64)))],[.row Ty.bool 0],0,none,[],[0,1,3],[2],[.i],[.b x.2,.i (x.1.length:Int),.l Ty.bool x.1]⟩,[⟨.ret,.ret,⟨cA 19 0 [(4,.v (.one (.i .i64)))],[],0,none,[],[],[0],[.i],[]⟩⟩,⟨(.exit 0),.normal,⟨cA 19 0 [],[],0,none,[],[],[],[],[]⟩⟩]⟩
def gO (x:((List Bool)×Bool)) (s:Int):Int⊕(Int⊕Unit):=
 (if (s<(x.1.length:Int)) then
 (if ((x.2==(List.getD x.1 (Int.toNat s) false))=true) then
 (Sum.inr (Sum.inl s)) else
 (Sum.inl (ae (s+(1:Int))))) else
 (Sum.inr (Sum.inr (()))))
def oe (x:((List Bool)×Bool)) (s:Int):Prop:=
 ((s<(x.1.length:Int))->
 ((((0:Int)<=s)/\ (s<(x.1.length:Int)))/\
 (((Int.toNat s)<(List.length x.1))/\
 ((Int.toNat s)<(List.length x.1)))))
def yM (x:((List Bool)×Bool)) (s:Int):Tr (Int⊕(Int⊕Unit)) true:=
 (.i10 (s<(nL x.1))
 (.bO s x.1
 (.fu (x.2==(gT x.1 s false))
 (.ret (.inr (Sum.inl s)))
 (.ret (.inl (w1 s)))))
 (.ret (.inr (Sum.inr (())))))
def KB (x:((List Bool)×Bool)):Int:=
 (ai (run (gO x) (0:Int)) fun r=>
 (Sum.elim (fun a=>
 a) (fun b=>
 (-1:Int)) r))
def Bp (x:((List Bool)×Bool)):Prop:=
 (Term (gO x) (oe x) (0:Int))
def QZ (x:((List Bool)×Bool)):Tr Int true:=
 (aI.lp (El x) (yM x) z0 fun r=>
 (.Hj r (fun a=>
 (.ret a)) (fun b=>
 (.ret (-1:Int)))))
abbrev vD:dS:=⟨(.pair (.one (Ty.sl Ty.bool)) (.one Ty.bool)),(.one yi),Bp,KB⟩
theorem N8:ak Tryz.prog 86 (av vD):=ak.tr vD QZ (fn:=Tryz.f86) aC nc mixed (by kernel_rfl) (aA.nil _ _) (fun x=>(aB.tr aC (ah.c8 nc (aA.nil _ _)) mixed 0 (El x) (yM x) aB.nil (by kernel_rfl) fun g s Q=>(by kernel_rfl))) (fun x=>(by kernel_rfl)) fun x Q=>(by kernel_rfl)
def Fe:List (Nat×Ev.Spec):=(86,av vD)::zw
theorem wV:ah Tryz.prog Fe:=ah.add (fn:=Tryz.f86) (by kernel_rfl) N8 nc
def jZ (x:((List Bool)×Bool)):Bool:=
 (ai (KB x) fun y=>
 (decide (y>=(0:Int))))
def nZ (x:((List Bool)×Bool)):Prop:=
 (Bp x)
def HH (x:((List Bool)×Bool)):Tr Bool true:=
 (.fn vD x fun y=>
 (.ret (decide (y>=z0))))
abbrev nx:dS:=⟨(.pair (.one (Ty.sl Ty.bool)) (.one Ty.bool)),(.one Ty.bool),nZ,jZ⟩
theorem FX:ak Tryz.prog 56 (av nx):=ak.tr nx HH (fn:=Tryz.f56) aC wV mixed (by kernel_rfl) (aA.nil _ _) (fun x=>aB.nil) (fun x=>(by kernel_rfl)) fun x Q=>(by kernel_rfl)
def wO:List (Nat×Ev.Spec):=(56,av nx)::Fe
theorem fZ:ah Tryz.prog wO:=ah.add (fn:=Tryz.f56) (by kernel_rfl) FX wV
def Ri (x:((List ((I3×I3)×(Int×(Int×(List Int)))))×(List I9))):aI:=⟨[],⟨cA 78 0 [(0,.v (.one (.full 0))),(1,.v (.one (.full 1))),(5,.v (.one (.full 2))),(7,.v (.one (.full 3))),(8,.v (.one (.i .i64))),(11,.v (.one (.i .i64))),(12,.v (.one (.i .i64))),(23,.v (.one (.full 0))),(24,.v (.one (.i .i64))),(25,.v (.one (.i .i64))),(31,.v (.one (.full 4))),(32,.v (.one (.i .i64))),(33,.v (.one (.i .i64)))],[.row (Ty.prod (Ty.prod bz bz) (Ty.prod yi (Ty.prod yi (Ty.sl yi)))) 0,.row bP 0,.row yi 2,.row Ty.bool 2,.row yi 0],0,none,[],[3,7,8],[9,10,0,1,2,4,11,5,6],[(.l yi),(.l Ty.bool),.i,.i,.i,.i,(.l yi),.i,.i],[.i (x.1.length:Int),.l (Ty.prod (Ty.prod bz bz) (Ty.prod yi (Ty.prod yi (Ty.sl yi)))) x.1,.l bP x.2]⟩,[⟨.ret,.ret,⟨cA 78 0 [(4,.v (.one (.b)))],[],0,none,[],[0],[],[],[.b false]⟩⟩,⟨(.exit 4),.normal,⟨cA 78 0 [(0,.v (.one (.full 0))),(1,.v (.one (.full 1))),(5,.v (.one (.full 2))),(7,.v (.one (.full 3))),(8,.v (.one (.i .i64))),(23,.v (.one (.full 0))),(24,.v (.one (.i .i64))),(25,.v (.one (.i .i64))),(31,.v (.one (.full 4))),(32,.v (.one (.i .i64))),(33,.v (.one (.i .i64)))],[.row (Ty.prod (Ty.prod bz bz) (Ty.prod yi (Ty.prod yi (Ty.sl yi)))) 0,.row bP 0,.row yi 2,.row Ty.bool 2,.row yi 0],0,none,[],[1,5,6],[7,8,0,2,9,3,4],[(.l yi),(.l Ty.bool),.i,.i,(.l yi),.i,.i],[.i (x.1.length:Int),.l (Ty.prod (Ty.prod bz bz) (Ty.prod yi (Ty.prod yi (Ty.sl yi)))) x.1,.l bP x.2]⟩⟩]⟩
def lu (x:((List ((I3×I3)×(Int×(Int×(List Int)))))×(List I9))) (s:((List Int)×((List Bool)×(Int×(Int×(Int×(Int×((List Int)×I2)))))))):((List Int)×((List Bool)×(Int×(Int×(Int×(Int×((List Int)×I2)))))))⊕(Unit⊕((List Int)×((List Bool)×(Int×(Int×((List Int)×I2)))))):=
 (if (s.2.2.2.2.1>=(0:Int)) then
 (ai (NY (((List.getD x.1 (Int.toNat s.2.2.2.2.1) ((((0:Int),((0:Int),(0:Int))),((0:Int),((0:Int),(0:Int)))),((0:Int),((0:Int),[])))),s.2.2.2.2.1),(List.getD x.2 (Int.toNat s.2.2.2.1) (((0:Int),((0:Int),(0:Int))),(((0:Int),((0:Int),(0:Int))),((0:Int),((0:Int),(0:Int)))))))) fun y=>
 (if ((!y)=true) then
 (Sum.inr (Sum.inl ())) else
 (Sum.inl (s.1,(s.2.1,(s.2.2.1,(s.2.2.2.1,((List.getD s.1 (Int.toNat s.2.2.2.2.1) (0:Int)),(s.2.2.2.2.2.1,(s.2.2.2.2.2.2.1,(s.2.2.2.2.2.2.2.1,s.2.2.2.2.2.2.2.2))))))))))) else
 (Sum.inr (Sum.inr ((s.1,(s.2.1,(s.2.2.1,(s.2.2.2.2.2.1,(s.2.2.2.2.2.2.1,(s.2.2.2.2.2.2.2.1,s.2.2.2.2.2.2.2.2))))))))))
def pU (x:((List ((I3×I3)×(Int×(Int×(List Int)))))×(List I9))) (s:((List Int)×((List Bool)×(Int×(Int×(Int×(Int×((List Int)×I2)))))))):Prop:=
 ((s.2.2.2.2.1>=(0:Int))->
 ((((0:Int)<=s.2.2.2.2.1)/\ (s.2.2.2.2.1<(x.1.length:Int)))/\
 (((Int.toNat s.2.2.2.2.1)<(List.length x.1))/\
 (((Int.toNat s.2.2.2.2.1)<(List.length x.1))/\
 ((((0:Int)<=s.2.2.2.1)/\ (s.2.2.2.1<(x.2.length:Int)))/\
 (((Int.toNat s.2.2.2.1)<(List.length x.2))/\
 (((Int.toNat s.2.2.2.1)<(List.length x.2))/\
 ((A9 (((List.getD x.1 (Int.toNat s.2.2.2.2.1) ((((0:Int),((0:Int),(0:Int))),((0:Int),((0:Int),(0:Int)))),((0:Int),((0:Int),[])))),s.2.2.2.2.1),(List.getD x.2 (Int.toNat s.2.2.2.1) (((0:Int),((0:Int),(0:Int))),(((0:Int),((0:Int),(0:Int))),((0:Int),((0:Int),(0:Int))))))))/\
 az (NY (((List.getD x.1 (Int.toNat s.2.2.2.2.1) ((((0:Int),((0:Int),(0:Int))),((0:Int),((0:Int),(0:Int)))),((0:Int),((0:Int),[])))),s.2.2.2.2.1),(List.getD x.2 (Int.toNat s.2.2.2.1) (((0:Int),((0:Int),(0:Int))),(((0:Int),((0:Int),(0:Int))),((0:Int),((0:Int),(0:Int)))))))) fun y=>
 (¬((!y)=true)->
 ((((0:Int)<=s.2.2.2.2.1)/\ (s.2.2.2.2.1<(s.1.length:Int)))/\
 (((Int.toNat s.2.2.2.2.1)<(List.length s.1))/\
 ((Int.toNat s.2.2.2.2.1)<(List.length s.1)))))))))))))
def Iq (x:((List ((I3×I3)×(Int×(Int×(List Int)))))×(List I9))) (s:((List Int)×((List Bool)×(Int×(Int×(Int×(Int×((List Int)×I2)))))))):Tr (((List Int)×((List Bool)×(Int×(Int×(Int×(Int×((List Int)×I2)))))))⊕(Unit⊕((List Int)×((List Bool)×(Int×(Int×((List Int)×I2))))))) true:=
 (.i10 (s.2.2.2.2.1>=z0)
 (.bO s.2.2.2.2.1 x.1
 (.bO s.2.2.2.1 x.2
 (.fn Ge (((gT x.1 s.2.2.2.2.1 ((eE,eE),(z0,(z0,[])))),s.2.2.2.2.1),(gT x.2 s.2.2.2.1 G5)) fun y=>
 (.nY (!y)
 (.ret (.inr (Sum.inl ())))
 (.bO s.2.2.2.2.1 s.1
 (.ret (.inl (s.1,(s.2.1,(s.2.2.1,(s.2.2.2.1,((gI s.1 s.2.2.2.2.1),(s.2.2.2.2.2.1,(s.2.2.2.2.2.2.1,(s.2.2.2.2.2.2.2.1,s.2.2.2.2.2.2.2.2)))))))))))))))
 (.ret (.inr (Sum.inr ((s.1,(s.2.1,(s.2.2.1,(s.2.2.2.2.2.1,(s.2.2.2.2.2.2.1,(s.2.2.2.2.2.2.2.1,s.2.2.2.2.2.2.2.2)))))))))))
def Rh (x:((List ((I3×I3)×(Int×(Int×(List Int)))))×(List I9))):aI:=⟨[],⟨cA 78 0 [(0,.v (.one (.full 0))),(1,.v (.one (.full 1))),(5,.v (.one (.full 2))),(7,.v (.one (.full 3))),(8,.v (.one (.i .i64))),(23,.v (.one (.full 0))),(24,.v (.one (.i .i64))),(25,.v (.one (.i .i64))),(31,.v (.one (.full 4))),(32,.v (.one (.i .i64))),(33,.v (.one (.i .i64)))],[.row (Ty.prod (Ty.prod bz bz) (Ty.prod yi (Ty.prod yi (Ty.sl yi)))) 0,.row bP 0,.row yi 2,.row Ty.bool 2,.row yi 0],0,none,[],[1,5,6],[7,8,0,2,9,3,4],[(.l yi),(.l Ty.bool),.i,.i,(.l yi),.i,.i],[.i (x.1.length:Int),.l (Ty.prod (Ty.prod bz bz) (Ty.prod yi (Ty.prod yi (Ty.sl yi)))) x.1,.l bP x.2]⟩,[⟨.ret,.ret,⟨cA 78 0 [(4,.v (.one (.b)))],[],0,none,[],[0],[],[],[.b false]⟩⟩,⟨(.exit 2),.normal,⟨cA 78 0 [(0,.v (.one (.full 0))),(1,.v (.one (.full 1))),(5,.v (.one (.full 2))),(7,.v (.one (.full 3))),(23,.v (.one (.full 0))),(24,.v (.one (.i .i64))),(25,.v (.one (.i .i64)))],[.row (Ty.prod (Ty.prod bz bz) (Ty.prod yi (Ty.prod yi (Ty.sl yi)))) 0,.row bP 0,.row yi 2,.row Ty.bool 2],0,none,[],[0,2,3],[4,5,1],[(.l yi),(.l Ty.bool),.i],[.i (x.1.length:Int),.l (Ty.prod (Ty.prod bz bz) (Ty.prod yi (Ty.prod yi (Ty.sl yi)))) x.1,.l bP x.2]⟩⟩]⟩
def lq (x:((List ((I3×I3)×(Int×(Int×(List Int)))))×(List I9))) (s:((List Int)×((List Bool)×(Int×(Int×((List Int)×I2)))))):((List Int)×((List Bool)×(Int×(Int×((List Int)×I2)))))⊕(Unit⊕((List Int)×((List Bool)×Int))):=
 (if (s.2.2.2.2.2.2<s.2.2.2.2.2.1) then
 (if ((List.getD s.2.2.2.2.1 (Int.toNat s.2.2.2.2.2.2) (0:Int))<(0:Int)) then
 (Sum.inr (Sum.inl ())) else
 (if ((List.getD s.2.2.2.2.1 (Int.toNat s.2.2.2.2.2.2) (0:Int))>=(x.2.length:Int)) then
 (Sum.inr (Sum.inl ())) else
 (if ((List.getD s.2.1 (Int.toNat (List.getD s.2.2.2.2.1 (Int.toNat s.2.2.2.2.2.2) (0:Int))) false)=true) then
 (Sum.inr (Sum.inl ())) else
 (ai (List.set s.2.1 (Int.toNat (List.getD s.2.2.2.2.1 (Int.toNat s.2.2.2.2.2.2) (0:Int))) true) fun y=>
 (ai (run (lu x) (s.1,(y,(s.2.2.1,((List.getD s.2.2.2.2.1 (Int.toNat s.2.2.2.2.2.2) (0:Int)),(s.2.2.1,(s.2.2.2.1,(s.2.2.2.2.1,(s.2.2.2.2.2.1,s.2.2.2.2.2.2))))))))) fun r=>
 (Sum.elim (fun a=>
 (Sum.inr (Sum.inl ()))) (fun b=>
 (Sum.inl (b.1,(b.2.1,(b.2.2.1,(b.2.2.2.1,(b.2.2.2.2.1,(b.2.2.2.2.2.1,(ae (b.2.2.2.2.2.2+(1:Int))))))))))) r)))))) else
 (Sum.inr (Sum.inr ((s.1,(s.2.1,s.2.2.2.1))))))
def pT (x:((List ((I3×I3)×(Int×(Int×(List Int)))))×(List I9))) (s:((List Int)×((List Bool)×(Int×(Int×((List Int)×I2)))))):Prop:=
 ((s.2.2.2.2.2.2<s.2.2.2.2.2.1)->
 ((((0:Int)<=s.2.2.2.2.2.2)/\ (s.2.2.2.2.2.2<(s.2.2.2.2.1.length:Int)))/\
 (((Int.toNat s.2.2.2.2.2.2)<(List.length s.2.2.2.2.1))/\
 (((Int.toNat s.2.2.2.2.2.2)<(List.length s.2.2.2.2.1))/\
 (¬((List.getD s.2.2.2.2.1 (Int.toNat s.2.2.2.2.2.2) (0:Int))<(0:Int))->
 (¬((List.getD s.2.2.2.2.1 (Int.toNat s.2.2.2.2.2.2) (0:Int))>=(x.2.length:Int))->
 ((((0:Int)<=(List.getD s.2.2.2.2.1 (Int.toNat s.2.2.2.2.2.2) (0:Int)))/\ ((List.getD s.2.2.2.2.1 (Int.toNat s.2.2.2.2.2.2) (0:Int))<(s.2.1.length:Int)))/\
 (((Int.toNat (List.getD s.2.2.2.2.1 (Int.toNat s.2.2.2.2.2.2) (0:Int)))<(List.length s.2.1))/\
 (((Int.toNat (List.getD s.2.2.2.2.1 (Int.toNat s.2.2.2.2.2.2) (0:Int)))<(List.length s.2.1))/\
 (¬((List.getD s.2.1 (Int.toNat (List.getD s.2.2.2.2.1 (Int.toNat s.2.2.2.2.2.2) (0:Int))) false)=true)->
 ((((0:Int)<=(List.getD s.2.2.2.2.1 (Int.toNat s.2.2.2.2.2.2) (0:Int)))/\ ((List.getD s.2.2.2.2.1 (Int.toNat s.2.2.2.2.2.2) (0:Int))<(s.2.1.length:Int)))/\
 (((Int.toNat (List.getD s.2.2.2.2.1 (Int.toNat s.2.2.2.2.2.2) (0:Int)))<(List.length s.2.1))/\
 (((Int.toNat (List.getD s.2.2.2.2.1 (Int.toNat s.2.2.2.2.2.2) (0:Int)))<(List.length s.2.1))/\
 (az (List.set s.2.1 (Int.toNat (List.getD s.2.2.2.2.1 (Int.toNat s.2.2.2.2.2.2) (0:Int))) true) fun y=>
 (Term (lu x) (pU x) (s.1,(y,(s.2.2.1,((List.getD s.2.2.2.2.1 (Int.toNat s.2.2.2.2.2.2) (0:Int)),(s.2.2.1,(s.2.2.2.1,(s.2.2.2.2.1,(s.2.2.2.2.2.1,s.2.2.2.2.2.2)))))))))))))))))))))))
def Ip (x:((List ((I3×I3)×(Int×(Int×(List Int)))))×(List I9))) (s:((List Int)×((List Bool)×(Int×(Int×((List Int)×I2)))))):Tr (((List Int)×((List Bool)×(Int×(Int×((List Int)×I2)))))⊕(Unit⊕((List Int)×((List Bool)×Int)))) true:=
 (.i10 (s.2.2.2.2.2.2<s.2.2.2.2.2.1)
 (.bO s.2.2.2.2.2.2 s.2.2.2.2.1
 (.Di ((gI s.2.2.2.2.1 s.2.2.2.2.2.2)<z0)
 (.ret (.inr (Sum.inl ())))
 (.Di ((gI s.2.2.2.2.1 s.2.2.2.2.2.2)>=(nL x.2))
 (.ret (.inr (Sum.inl ())))
 (.bO (gI s.2.2.2.2.1 s.2.2.2.2.2.2) s.2.1
 (.nY (gT s.2.1 (gI s.2.2.2.2.1 s.2.2.2.2.2.2) false)
 (.ret (.inr (Sum.inl ())))
 (.bO (gI s.2.2.2.2.1 s.2.2.2.2.2.2) s.2.1
 (.lt (List.set s.2.1 (tN (gI s.2.2.2.2.1 s.2.2.2.2.2.2)) true) fun y=>
 (aI.lp (Ri x) (Iq x) (s.1,(y,(s.2.2.1,((gI s.2.2.2.2.1 s.2.2.2.2.2.2),(s.2.2.1,(s.2.2.2.1,(s.2.2.2.2.1,(s.2.2.2.2.2.1,s.2.2.2.2.2.2)))))))) fun r=>
 (.Hj r (fun a=>
 (.ret (.inr (Sum.inl ())))) (fun b=>
 (.ret (.inl (b.1,(b.2.1,(b.2.2.1,(b.2.2.2.1,(b.2.2.2.2.1,(b.2.2.2.2.2.1,(w1 b.2.2.2.2.2.2)))))))))))))))))))
 (.ret (.inr (Sum.inr ((s.1,(s.2.1,s.2.2.2.1)))))))
def Rg (x:((List ((I3×I3)×(Int×(Int×(List Int)))))×(List I9))):aI:=⟨[],⟨cA 78 0 [(0,.v (.one (.full 0))),(1,.v (.one (.full 1))),(5,.v (.one (.full 2))),(7,.v (.one (.full 3))),(23,.v (.one (.full 0))),(24,.v (.one (.i .i64))),(25,.v (.one (.i .i64)))],[.row (Ty.prod (Ty.prod bz bz) (Ty.prod yi (Ty.prod yi (Ty.sl yi)))) 0,.row bP 0,.row yi 2,.row Ty.bool 2],0,none,[],[0,2,3],[4,5,1],[(.l yi),(.l Ty.bool),.i],[.i (x.1.length:Int),.l (Ty.prod (Ty.prod bz bz) (Ty.prod yi (Ty.prod yi (Ty.sl yi)))) x.1,.l bP x.2]⟩,[⟨.ret,.ret,⟨cA 78 0 [(4,.v (.one (.b)))],[],0,none,[],[0],[],[],[.b false]⟩⟩,⟨(.exit 0),.normal,⟨cA 78 0 [(7,.v (.one (.full 0)))],[.row Ty.bool 2],0,none,[],[],[0],[(.l Ty.bool)],[]⟩⟩]⟩
def jc (x:((List ((I3×I3)×(Int×(Int×(List Int)))))×(List I9))) (s:((List Int)×((List Bool)×Int))):((List Int)×((List Bool)×Int))⊕(Unit⊕(List Bool)):=
 (if (s.2.2<(x.1.length:Int)) then
 (ai (run (lq x) (s.1,(s.2.1,(s.2.2,(s.2.2,((List.getD x.1 (Int.toNat s.2.2) ((((0:Int),((0:Int),(0:Int))),((0:Int),((0:Int),(0:Int)))),((0:Int),((0:Int),[])))).2.2.2,(((List.getD x.1 (Int.toNat s.2.2) ((((0:Int),((0:Int),(0:Int))),((0:Int),((0:Int),(0:Int)))),((0:Int),((0:Int),[])))).2.2.2.length:Int),(0:Int)))))))) fun r=>
 (Sum.elim (fun a=>
 (Sum.inr (Sum.inl ()))) (fun b=>
 (Sum.inl (b.1,(b.2.1,(ae (b.2.2+(1:Int))))))) r)) else
 (Sum.inr (Sum.inr (s.2.1))))
def pS (x:((List ((I3×I3)×(Int×(Int×(List Int)))))×(List I9))) (s:((List Int)×((List Bool)×Int))):Prop:=
 ((s.2.2<(x.1.length:Int))->
 ((((0:Int)<=s.2.2)/\ (s.2.2<(x.1.length:Int)))/\
 (((Int.toNat s.2.2)<(List.length x.1))/\
 (((Int.toNat s.2.2)<(List.length x.1))/\
 (Term (lq x) (pT x) (s.1,(s.2.1,(s.2.2,(s.2.2,((List.getD x.1 (Int.toNat s.2.2) ((((0:Int),((0:Int),(0:Int))),((0:Int),((0:Int),(0:Int)))),((0:Int),((0:Int),[])))).2.2.2,(((List.getD x.1 (Int.toNat s.2.2) ((((0:Int),((0:Int),(0:Int))),((0:Int),((0:Int),(0:Int)))),((0:Int),((0:Int),[])))).2.2.2.length:Int),(0:Int))))))))))))
def Io (x:((List ((I3×I3)×(Int×(Int×(List Int)))))×(List I9))) (s:((List Int)×((List Bool)×Int))):Tr (((List Int)×((List Bool)×Int))⊕(Unit⊕(List Bool))) true:=
 (.i10 (s.2.2<(nL x.1))
 (.bO s.2.2 x.1
 (aI.lp (Rh x) (Ip x) (s.1,(s.2.1,(s.2.2,(s.2.2,((gT x.1 s.2.2 ((eE,eE),(z0,(z0,[])))).2.2.2,((nL (gT x.1 s.2.2 ((eE,eE),(z0,(z0,[])))).2.2.2),z0)))))) fun r=>
 (.Hj r (fun a=>
 (.ret (.inr (Sum.inl ())))) (fun b=>
 (.ret (.inl (b.1,(b.2.1,(w1 b.2.2)))))))))
 (.ret (.inr (Sum.inr (s.2.1)))))
def Zj (x:((List ((I3×I3)×(Int×(Int×(List Int)))))×(List I9))):Bool:=
 (ai (rU x.1) fun y=>
 (if ((!y.2)=true) then
 false else
 (ai (run (jc x) (y.1,((List.replicate (List.length x.2) false),(0:Int)))) fun r=>
 (Sum.elim (fun a=>
 false) (fun b=>
 (ai (jZ (b,false)) fun aq=>
 (!aq))) r))))
def z9 (x:((List ((I3×I3)×(Int×(Int×(List Int)))))×(List I9))):Prop:=
 ((mg x.1)/\
 az (rU x.1) fun y=>
 (¬((!y.2)=true)->
 ((((x.2.length:Int)<=(x.2.length:Int))/\ ((List.length x.2)<1099511627776))/\
 (Term (jc x) (pS x) (y.1,((List.replicate (List.length x.2) false),(0:Int)))/\
 az (run (jc x) (y.1,((List.replicate (List.length x.2) false),(0:Int)))) fun r=>
 (cS r (fun a=>
 True) (fun b=>
 (nZ (b,false))))))))
def Zk (x:((List ((I3×I3)×(Int×(Int×(List Int)))))×(List I9))):Tr Bool true:=
 (.fn pZ x.1 fun y=>
 (.nY (!y.2)
 (.ret false)
 (.og (((decide (z0<=(nL x.2)))&&(decide ((nL x.2)<=(nL x.2))))&&(decide ((List.length x.2)<1099511627776))) (((nL x.2)<=(nL x.2))/\ ((List.length x.2)<1099511627776)) (fun h=>(c7 (c7 rfl (decide_eq_true h.1)) (decide_eq_true h.2)))
 (aI.lp (Rg x) (Io x) (y.1,((List.replicate (List.length x.2) false),z0)) fun r=>
 (.s01 r (fun a=>
 (.ret false)) (fun b=>
 (.fn nx (b,false) fun aq=>
 (.ret (!aq)))))))))
abbrev Mh:dS:=⟨(.pair (.one (Ty.sl (Ty.prod (Ty.prod bz bz) (Ty.prod yi (Ty.prod yi (Ty.sl yi)))))) (.one (Ty.sl bP))),(.one Ty.bool),z9,Zj⟩
theorem Xe:ak Tryz.prog 33 (av Mh):=ak.tr Mh Zk (fn:=Tryz.f33) aC fZ mixed (by kernel_rfl) (aA.nil _ _) (fun x=>(aB.tr aC (ah.c8 fZ (aA.nil _ _)) mixed 0 (Rg x) (Io x) (aB.tr aC (ah.c8 fZ (aA.nil _ _)) mixed 2 (Rh x) (Ip x) (aB.tr aC (ah.c8 fZ (aA.nil _ _)) mixed 4 (Ri x) (Iq x) aB.nil (by kernel_rfl) fun g s Q=>(by kernel_rfl)) (by kernel_rfl) fun g s Q=>(by kernel_rfl)) (by kernel_rfl) fun g s Q=>(by kernel_rfl))) (fun x=>(by kernel_rfl)) fun x Q=>(by kernel_rfl)
def SH:List (Nat×Ev.Spec):=(33,av Mh)::wO
theorem Fk:ah Tryz.prog SH:=ah.add (fn:=Tryz.f33) (by kernel_rfl) Xe fZ
end Go.Proofs.YtlkgabjhkfhgaaaGreat
