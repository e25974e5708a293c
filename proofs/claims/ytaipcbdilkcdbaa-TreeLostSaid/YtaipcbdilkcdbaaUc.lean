/- Models: what is built; what is right. -/
import Derived.Test.YtaipcbdilkcdbaaVd
noncomputable section
set_option linter.unusedSectionVars false
set_option linter.unusedVariables false
set_option linter.unusedSimpArgs false
namespace Go.Proofs.Ytaipcbdilkcdbaa
open Go Go.Ev Go.Proofs
def Lj:List (Nat×Ev.Spec):=(28,aH lF)::wL
theorem uR:ah Try.prog Lj:=ah.add (fn:=Try.f28) (by kernel_rfl) vf uN
def Nh:XU Try.prog:=⟨_,(aD.walk aQ uR mixed 19 (fn:=Try.f19) (by kernel_rfl) (aD.nil _ _) fun ys hy=>aB.nil)⟩
def ny (x:((List I9)×(List Int))):((List Int)×((List Int)×Int)):=
 (ai (l8 x.1) fun y=>
 (if ((!y)=true) then
 ([],([],(5:Int))) else
 (if ((x.2.length:Int)<(2:Int)) then
 ([],([],(1:Int))) else
 (ai (iD (x.2,x.1)) fun aq=>
 (if (aq=true) then
 ([],([],(1:Int))) else
 (ai (fT x) fun y_2=>
 (ai (fP y_2) fun au=>
 (ai (ji x.2) fun aR=>
 (ai (tS (aR,(x.1,au.1))) fun cA=>
 (ai (ji (List.drop (Int.toNat (ae (Int.tdiv (cA.2.1.length:Int) (2:Int)))) cA.2.1)) fun Ic=>
 ((List.take (Int.toNat (ae (Int.tdiv (cA.2.1.length:Int) (2:Int)))) cA.2.1),(Ic,(0:Int)))))))))))))
def nC (x:((List I9)×(List Int))):Prop:=
 ((kU x.1)/\
 ay (l8 x.1) fun y=>
 (¬((!y)=true)->
 (¬((x.2.length:Int)<(2:Int))->
 ((iX (x.2,x.1))/\
 ay (iD (x.2,x.1)) fun aq=>
 (¬(aq=true)->
 ((mQ x)/\
 ay (fT x) fun y_2=>
 ((ju y_2)/\
 ay (fP y_2) fun au=>
 ((eY x.2)/\
 ay (ji x.2) fun aR=>
 ((kV (aR,(x.1,au.1)))/\
 ay (tS (aR,(x.1,au.1))) fun cA=>
 ((((0:Int)<=(ae (Int.tdiv (cA.2.1.length:Int) (2:Int))))/\ ((ae (Int.tdiv (cA.2.1.length:Int) (2:Int)))<=(cA.2.1.length:Int)))/\
 ((((0:Int)<=(ae (Int.tdiv (cA.2.1.length:Int) (2:Int))))/\ ((ae (Int.tdiv (cA.2.1.length:Int) (2:Int)))<=(((Int.toNat (ae (Int.tdiv (cA.2.1.length:Int) (2:Int)))):Nat):Int)))/\
 ((((0:Int)<=(ae (Int.tdiv (cA.2.1.length:Int) (2:Int))))/\ ((ae (Int.tdiv (cA.2.1.length:Int) (2:Int)))<=(cA.2.1.length:Int)))/\
 (eY (List.drop (Int.toNat (ae (Int.tdiv (cA.2.1.length:Int) (2:Int)))) cA.2.1))))))))))))))
def Qp (x:((List I9)×(List Int))):Tr ((List Int)×((List Int)×Int)) true:=
 (.fn rY x.1 fun y=>
 (.zo (!y)
 (.ret ([],([],(5:Int))))
 (.Ja ((nL x.2)<(2:Int))
 (.ret ([],([],z1)))
 (.fn lF (x.2,x.1) fun aq=>
 (.zo aq
 (.ret ([],([],z1)))
 (.VG
 (.fn Ap x fun y_2=>
 (.fn sN y_2 fun au=>
 (.fn oY x.2 fun aR=>
 (.cV z8 (aR,(x.1,au.1)) fun cA=>
 (.og ((decide (z0<=(ae (Int.tdiv (nL cA.2.1) (2:Int)))))&&(decide ((ae (Int.tdiv (nL cA.2.1) (2:Int)))<=(nL cA.2.1)))) ((z0<=(ae (Int.tdiv (nL cA.2.1) (2:Int))))/\ ((ae (Int.tdiv (nL cA.2.1) (2:Int)))<=(nL cA.2.1))) (fun h=>(cj (decide_eq_true h.1) (decide_eq_true h.2)))
 (.og ((decide (z0<=(ae (Int.tdiv (nL cA.2.1) (2:Int)))))&&(decide ((ae (Int.tdiv (nL cA.2.1) (2:Int)))<=(((tN (ae (Int.tdiv (nL cA.2.1) (2:Int)))):Nat):Int)))) ((z0<=(ae (Int.tdiv (nL cA.2.1) (2:Int))))/\ ((ae (Int.tdiv (nL cA.2.1) (2:Int)))<=(((tN (ae (Int.tdiv (nL cA.2.1) (2:Int)))):Nat):Int))) (fun h=>(cj (decide_eq_true h.1) (decide_eq_true h.2)))
 (.og ((decide (z0<=(ae (Int.tdiv (nL cA.2.1) (2:Int)))))&&(decide ((ae (Int.tdiv (nL cA.2.1) (2:Int)))<=(nL cA.2.1)))) ((z0<=(ae (Int.tdiv (nL cA.2.1) (2:Int))))/\ ((ae (Int.tdiv (nL cA.2.1) (2:Int)))<=(nL cA.2.1))) (fun h=>(cj (decide_eq_true h.1) (decide_eq_true h.2)))
 (.pn 0 3
 (.fn oY (List.drop (tN (ae (Int.tdiv (nL cA.2.1) (2:Int)))) cA.2.1) fun Ic=>
 (.ret ((List.take (tN (ae (Int.tdiv (nL cA.2.1) (2:Int)))) cA.2.1),(Ic,z0))))))))))))))))))
abbrev si:jh:=⟨(.pair (.one (Ty.sl cH)) (.one (Ty.sl yi))),(.pair (.one (Ty.sl yi)) (.pair (.one (Ty.sl yi)) (.one yi))),nC,ny⟩
theorem Ni:av Try.prog 11 (vu si):=av.trN si Qp (fn:=Try.f11) aQ uR mixed (by kernel_rfl) Nh.ok (fun x=>aB.nil) (fun x=>(by kernel_rfl)) fun x Q=>(by kernel_rfl)
def Es:List (Nat×Ev.Spec):=(11,vu si)::Lj
theorem FB:ah Try.prog Es:=ah.add (fn:=Try.f11) (by kernel_rfl) Ni uR
def HG:List (Nat×Ev.Spec):=(16,iH EW)::Es
theorem r7:ah Try.prog HG:=ah.add (fn:=Try.f16) (by kernel_rfl) Oe FB
def C1 (x:(List I9)):aS:=⟨[],⟨ej 36 0 [(5,.v (.one (.ptr 0 0))),(6,.v (.one (.ptr 1 0))),(7,.v (.one (.full 4))),(15,.v (.one (.i .i64))),(16,.v (.one (.i .i64)))],[.cells [.raw] 23,.cells [.kq 16 0 [.loc 0 0,.loc 2 0,.loc 1 0]] 48,.cells [.full 3] 47,.row cH 0,.row yi 2],0,none,[],[0,2,3],[4,1],[(.l yi),.i],[.i ((List.replicate (List.length x) (0:Int)).length:Int),.v (.slice none 0 0),.l cH x]⟩,[⟨(.exit 1),.normal,⟨ej 36 0 [(5,.v (.one (.ptr 0 0))),(6,.v (.one (.ptr 1 0))),(7,.v (.one (.full 4)))],[.cells [.raw] 23,.cells [.kq 16 0 [.loc 0 0,.loc 2 0,.loc 1 0]] 48,.cells [.full 3] 47,.row cH 0,.row yi 2],0,none,[],[0,1],[2],[(.l yi)],[.v (.slice none 0 0),.l cH x]⟩⟩]⟩
def fm (x:(List I9)) (s:((List Int)×Int)):((List Int)×Int)⊕(List Int):=
 (if (s.2<((List.replicate (List.length x) (0:Int)).length:Int)) then
 (ai (List.set s.1 (Int.toNat s.2) s.2) fun y=>
 (Sum.inl (y,(ae (s.2+(1:Int)))))) else
 (Sum.inr (s.1)))
def kY (x:(List I9)) (s:((List Int)×Int)):Prop:=
 ((s.2<((List.replicate (List.length x) (0:Int)).length:Int))->
 ((((0:Int)<=s.2)/\ (s.2<(s.1.length:Int)))/\
 (((Int.toNat s.2)<(List.length s.1))/\
 ((Int.toNat s.2)<(List.length s.1)))))
def yl (x:(List I9)) (s:((List Int)×Int)):Tr (((List Int)×Int)⊕(List Int)) true:=
 (.i10 (s.2<(nL (List.replicate (List.length x) z0)))
 (.cf s.2 s.1
 (.lt (List.set s.1 (tN s.2) s.2) fun y=>
 (.ret (.inl (y,(w1 s.2))))))
 (.ret (.inr (s.1))))
def qW (x:(List I9)):((List ((I3×I3)×(Int×(Int×(List Int)))))×Int):=
 (if ((x.length:Int)>(500:Int)) then
 ([],(2:Int)) else
 (ai (l8 x) fun y=>
 (if ((!y)=true) then
 ([],(5:Int)) else
 (ai (run (fm x) ((List.replicate (List.length x) (0:Int)),(0:Int))) fun r=>
 (ai (Od (r,(x,[]))) fun aq=>
 (aq,(0:Int)))))))
def mR (x:(List I9)):Prop:=
 (¬((x.length:Int)>(500:Int))->
 ((kU x)/\
 ay (l8 x) fun y=>
 (¬((!y)=true)->
 ((((x.length:Int)<=(x.length:Int))/\ ((List.length x)<1099511627776))/\
 (Term (fm x) (kY x) ((List.replicate (List.length x) (0:Int)),(0:Int))/\
 ay (run (fm x) ((List.replicate (List.length x) (0:Int)),(0:Int))) fun r=>
 (xK (r,(x,[]))))))))
def NQ (x:(List I9)):Tr ((List ((I3×I3)×(Int×(Int×(List Int)))))×Int) true:=
 (.Ja ((nL x)>(500:Int))
 (.ret ([],(2:Int)))
 (.fn rY x fun y=>
 (.zo (!y)
 (.ret ([],(5:Int)))
 (.og (((decide (z0<=(nL x)))&&(decide ((nL x)<=(nL x))))&&(decide ((List.length x)<1099511627776))) (((nL x)<=(nL x))/\ ((List.length x)<1099511627776)) (fun h=>(cj (cj rfl (decide_eq_true h.1)) (decide_eq_true h.2)))
 (aS.lp (C1 x) (yl x) ((List.replicate (List.length x) z0),z0) fun r=>
 (.VO EW (r,(x,[])) fun aq=>
 (.ret (aq,z0))))))))
abbrev qX:jh:=⟨(.one (Ty.sl cH)),(.pair (.one (Ty.sl (Ty.prod (Ty.prod cr cr) (Ty.prod yi (Ty.prod yi (Ty.sl yi)))))) (.one yi)),mR,qW⟩
theorem LF:av Try.prog 7 (aH qX):=av.tr qX NQ (fn:=Try.f7) aQ r7 mixed (by kernel_rfl) (aD.nil _ _) (fun x=>(aB.tr aQ (ah.fe r7 (aD.nil _ _)) mixed 1 (C1 x) (yl x) aB.nil (by kernel_rfl) fun g s Q=>(by kernel_rfl))) (fun x=>(by kernel_rfl)) fun x Q=>(by kernel_rfl)
def D7:List (Nat×Ev.Spec):=(7,aH qX)::HG
theorem wM:ah Try.prog D7:=ah.add (fn:=Try.f7) (by kernel_rfl) LF r7
def CH (x:((I3×I3)×I3)):Bool:=
 (ai (kR x.1) fun y=>
 (if (y=true) then
 (ai (hasB x) fun aq=>
 aq) else
 false))
def rC (x:((I3×I3)×I3)):Prop:=
 (kS x.1)
def TV (x:((I3×I3)×I3)):Tr Bool true:=
 (.fn nn x.1 fun y=>
 (.CA y
 (.fn0 AR x trivial fun aq=>
 (.ret aq))
 (.ret false)))
abbrev xL:jh:=⟨(.pair (.agg (Ty.prod cr cr)) (.agg cr)),(.one Ty.bool),rC,CH⟩
theorem Rp:av Try.prog 13 (aH xL):=av.tr xL TV (fn:=Try.f13) aQ wM mixed (by kernel_rfl) (aD.nil _ _) (fun x=>aB.nil) (fun x=>(by kernel_rfl)) fun x Q=>(by kernel_rfl)
def K8:List (Nat×Ev.Spec):=(13,aH xL)::D7
theorem B8:ah Try.prog K8:=ah.add (fn:=Try.f13) (by kernel_rfl) Rp wM
def WV (x:((I3×I3)×(I3×I3))):((I3×I3)×Int):=
 (ai (kR x.1) fun y=>
 (if ((!y)=true) then
 ((((0:Int),((0:Int),(0:Int))),((0:Int),((0:Int),(0:Int)))),(1:Int)) else
 (ai (kR x.2) fun aq=>
 (if ((!aq)=true) then
 ((((0:Int),((0:Int),(0:Int))),((0:Int),((0:Int),(0:Int)))),(1:Int)) else
 (ai (qu [x.1.1,x.1.2,x.2.1,x.2.2]) fun y_2=>
 y_2)))))
def Mr (x:((I3×I3)×(I3×I3))):Prop:=
 ((kS x.1)/\
 ay (kR x.1) fun y=>
 (¬((!y)=true)->
 ((kS x.2)/\
 ay (kR x.2) fun aq=>
 (¬((!aq)=true)->
 (nr [x.1.1,x.1.2,x.2.1,x.2.2])))))
def RH (x:((I3×I3)×(I3×I3))):Tr ((I3×I3)×Int) true:=
 (.fn nn x.1 fun y=>
 (.zo (!y)
 (.ret ((bp,bp),z1))
 (.fn nn x.2 fun aq=>
 (.zo (!aq)
 (.ret ((bp,bp),z1))
 (.fn rX [x.1.1,x.1.2,x.2.1,x.2.2] fun y_2=>
 (.ret y_2))))))
abbrev E7:jh:=⟨(.pair (.agg (Ty.prod cr cr)) (.agg (Ty.prod cr cr))),(.pair (.agg (Ty.prod cr cr)) (.one yi)),Mr,WV⟩
theorem O5:av Try.prog 14 (aH E7):=av.tr E7 RH (fn:=Try.f14) aQ B8 mixed (by kernel_rfl) (aD.nil _ _) (fun x=>aB.nil) (fun x=>(by kernel_rfl)) fun x Q=>(by kernel_rfl)
def HK:List (Nat×Ev.Spec):=(14,aH E7)::K8
theorem y9:ah Try.prog HK:=ah.add (fn:=Try.f14) (by kernel_rfl) O5 B8
def iR (x:(((I3×I3)×(Int×(Int×(List Int))))×Int)):Bool:=
 (if ((x.1.2.1==(0:Int))=true) then
 (x.1.2.2.1==(0:Int)) else
 false)
def Dr (_:(((I3×I3)×(Int×(Int×(List Int))))×Int)):Prop:=True
def RJ (x:(((I3×I3)×(Int×(Int×(List Int))))×Int)):Tr Bool false:=
 (.CA (x.1.2.1==z0)
 (.ret (x.1.2.2.1==z0))
 (.ret false))
abbrev zS:jh:=⟨(.agg (Ty.prod (Ty.prod (Ty.prod cr cr) (Ty.prod yi (Ty.prod yi (Ty.sl yi)))) yi)),(.one Ty.bool),Dr,iR⟩
theorem O8:av Try.prog 26 (aH zS):=av.tr zS RJ (fn:=Try.f26) aQ y9 mixed (by kernel_rfl) (aD.nil _ _) (fun x=>aB.nil) (fun x=>(by kernel_rfl)) fun x Q=>(by kernel_rfl)
def HL:List (Nat×Ev.Spec):=(26,aH zS)::HK
theorem za:ah Try.prog HL:=ah.add (fn:=Try.f26) (by kernel_rfl) O8 y9
def IM (x:((((I3×I3)×(Int×(Int×(List Int))))×Int)×I9)):Bool:=
 (ai (CH (x.1.1.1,x.2.1)) fun y=>
 (if (y=true) then
 (ai (CH (x.1.1.1,x.2.2.1)) fun aq=>
 (if (aq=true) then
 (ai (CH (x.1.1.1,x.2.2.2)) fun y_2=>
 y_2) else
 false)) else
 false))
def AT (x:((((I3×I3)×(Int×(Int×(List Int))))×Int)×I9)):Prop:=
 ((rC (x.1.1.1,x.2.1))/\
 ay (CH (x.1.1.1,x.2.1)) fun y=>
 ((y=true)->
 ((rC (x.1.1.1,x.2.2.1))/\
 ay (CH (x.1.1.1,x.2.2.1)) fun aq=>
 ((aq=true)->
 (rC (x.1.1.1,x.2.2.2))))))
def TU (x:((((I3×I3)×(Int×(Int×(List Int))))×Int)×I9)):Tr Bool true:=
 (.fn xL (x.1.1.1,x.2.1) fun y=>
 (.FI y
 (.fn xL (x.1.1.1,x.2.2.1) fun aq=>
 (.FI aq
 (.fn xL (x.1.1.1,x.2.2.2) fun y_2=>
 (.ret y_2))
 (.ret false)))
 (.ret false)))
abbrev EX:jh:=⟨(.pair (.agg (Ty.prod (Ty.prod (Ty.prod cr cr) (Ty.prod yi (Ty.prod yi (Ty.sl yi)))) yi)) (.agg cH)),(.one Ty.bool),AT,IM⟩
theorem Ro:av Try.prog 23 (aH EX):=av.tr EX TU (fn:=Try.f23) aQ za mixed (by kernel_rfl) (aD.nil _ _) (fun x=>aB.nil) (fun x=>(by kernel_rfl)) fun x Q=>(by kernel_rfl)
def K7:List (Nat×Ev.Spec):=(23,aH EX)::HL
theorem B7:ah Try.prog K7:=ah.add (fn:=Try.f23) (by kernel_rfl) Ro za
def UD (x:I2):I2:=
 ((IntKind.wrap IntKind.u32 (Int.fdiv (IntKind.wrap IntKind.u64 ((IntKind.wrap IntKind.u64 x.1)*(IntKind.wrap IntKind.u64 x.2))) (4294967296:Int))),(IntKind.wrap IntKind.u32 (IntKind.wrap IntKind.u64 ((IntKind.wrap IntKind.u64 x.1)*(IntKind.wrap IntKind.u64 x.2)))))
def Jr (_:I2):Prop:=True
def Ph (x:I2):Tr I2 false:=
 (.ret ((IntKind.wrap IntKind.u32 (Int.fdiv (IntKind.wrap IntKind.u64 ((IntKind.wrap IntKind.u64 x.1)*(IntKind.wrap IntKind.u64 x.2))) (4294967296:Int))),(IntKind.wrap IntKind.u32 (IntKind.wrap IntKind.u64 ((IntKind.wrap IntKind.u64 x.1)*(IntKind.wrap IntKind.u64 x.2))))))
abbrev Bq:jh:=⟨(.pair (.one (Ty.int IntKind.u32)) (.one (Ty.int IntKind.u32))),(.pair (.one (Ty.int IntKind.u32)) (.one (Ty.int IntKind.u32))),Jr,UD⟩
theorem MC:av Try.prog 66 (aH Bq):=av.tr Bq Ph (fn:=Try.f66) aQ B7 mixed (by kernel_rfl) (aD.nil _ _) (fun x=>aB.nil) (fun x=>(by kernel_rfl)) fun x Q=>(by kernel_rfl)
def Eh:List (Nat×Ev.Spec):=(66,aH Bq)::K7
theorem wY:ah Try.prog Eh:=ah.add (fn:=Try.f66) (by kernel_rfl) MC B7
def Js (x:I2):I2:=
 ((IntKind.wrap IntKind.u64 ((IntKind.wrap IntKind.u64 ((IntKind.wrap IntKind.u64 ((Int.fdiv x.1 (4294967296:Int))*(Int.fdiv x.2 (4294967296:Int))))+(Int.fdiv (IntKind.wrap IntKind.u64 ((IntKind.wrap IntKind.u64 ((Int.fdiv x.1 (4294967296:Int))*(IntKind.wrap IntKind.u64 (((BitVec.toNat ((BitVec.ofInt 64 x.2)&&&(BitVec.ofInt 64 (4294967295:Int)))):Nat):Int))))+(Int.fdiv (IntKind.wrap IntKind.u64 ((IntKind.wrap IntKind.u64 (((BitVec.toNat ((BitVec.ofInt 64 x.1)&&&(BitVec.ofInt 64 (4294967295:Int)))):Nat):Int))*(IntKind.wrap IntKind.u64 (((BitVec.toNat ((BitVec.ofInt 64 x.2)&&&(BitVec.ofInt 64 (4294967295:Int)))):Nat):Int)))) (4294967296:Int)))) (4294967296:Int))))+(Int.fdiv (IntKind.wrap IntKind.u64 ((IntKind.wrap IntKind.u64 (((BitVec.toNat ((BitVec.ofInt 64 (IntKind.wrap IntKind.u64 ((IntKind.wrap IntKind.u64 ((Int.fdiv x.1 (4294967296:Int))*(IntKind.wrap IntKind.u64 (((BitVec.toNat ((BitVec.ofInt 64 x.2)&&&(BitVec.ofInt 64 (4294967295:Int)))):Nat):Int))))+(Int.fdiv (IntKind.wrap IntKind.u64 ((IntKind.wrap IntKind.u64 (((BitVec.toNat ((BitVec.ofInt 64 x.1)&&&(BitVec.ofInt 64 (4294967295:Int)))):Nat):Int))*(IntKind.wrap IntKind.u64 (((BitVec.toNat ((BitVec.ofInt 64 x.2)&&&(BitVec.ofInt 64 (4294967295:Int)))):Nat):Int)))) (4294967296:Int)))))&&&(BitVec.ofInt 64 (4294967295:Int)))):Nat):Int))+(IntKind.wrap IntKind.u64 ((IntKind.wrap IntKind.u64 (((BitVec.toNat ((BitVec.ofInt 64 x.1)&&&(BitVec.ofInt 64 (4294967295:Int)))):Nat):Int))*(Int.fdiv x.2 (4294967296:Int)))))) (4294967296:Int)))),(IntKind.wrap IntKind.u64 (x.1*x.2)))
def Jt (_:I2):Prop:=True
def Pj (x:I2):Tr I2 false:=
 (.ret ((IntKind.wrap IntKind.u64 ((IntKind.wrap IntKind.u64 ((IntKind.wrap IntKind.u64 ((Int.fdiv x.1 (4294967296:Int))*(Int.fdiv x.2 (4294967296:Int))))+(Int.fdiv (IntKind.wrap IntKind.u64 ((IntKind.wrap IntKind.u64 ((Int.fdiv x.1 (4294967296:Int))*(IntKind.wrap IntKind.u64 (((BitVec.toNat ((BitVec.ofInt 64 x.2)&&&(BitVec.ofInt 64 (4294967295:Int)))):Nat):Int))))+(Int.fdiv (IntKind.wrap IntKind.u64 ((IntKind.wrap IntKind.u64 (((BitVec.toNat ((BitVec.ofInt 64 x.1)&&&(BitVec.ofInt 64 (4294967295:Int)))):Nat):Int))*(IntKind.wrap IntKind.u64 (((BitVec.toNat ((BitVec.ofInt 64 x.2)&&&(BitVec.ofInt 64 (4294967295:Int)))):Nat):Int)))) (4294967296:Int)))) (4294967296:Int))))+(Int.fdiv (IntKind.wrap IntKind.u64 ((IntKind.wrap IntKind.u64 (((BitVec.toNat ((BitVec.ofInt 64 (IntKind.wrap IntKind.u64 ((IntKind.wrap IntKind.u64 ((Int.fdiv x.1 (4294967296:Int))*(IntKind.wrap IntKind.u64 (((BitVec.toNat ((BitVec.ofInt 64 x.2)&&&(BitVec.ofInt 64 (4294967295:Int)))):Nat):Int))))+(Int.fdiv (IntKind.wrap IntKind.u64 ((IntKind.wrap IntKind.u64 (((BitVec.toNat ((BitVec.ofInt 64 x.1)&&&(BitVec.ofInt 64 (4294967295:Int)))):Nat):Int))*(IntKind.wrap IntKind.u64 (((BitVec.toNat ((BitVec.ofInt 64 x.2)&&&(BitVec.ofInt 64 (4294967295:Int)))):Nat):Int)))) (4294967296:Int)))))&&&(BitVec.ofInt 64 (4294967295:Int)))):Nat):Int))+(IntKind.wrap IntKind.u64 ((IntKind.wrap IntKind.u64 (((BitVec.toNat ((BitVec.ofInt 64 x.1)&&&(BitVec.ofInt 64 (4294967295:Int)))):Nat):Int))*(Int.fdiv x.2 (4294967296:Int)))))) (4294967296:Int)))),(IntKind.wrap IntKind.u64 (x.1*x.2))))
abbrev vS:jh:=⟨(.pair (.one (Ty.int IntKind.u64)) (.one (Ty.int IntKind.u64))),(.pair (.one (Ty.int IntKind.u64)) (.one (Ty.int IntKind.u64))),Jt,Js⟩
theorem MD:av Try.prog 67 (aH vS):=av.tr vS Pj (fn:=Try.f67) aQ wY mixed (by kernel_rfl) (aD.nil _ _) (fun x=>aB.nil) (fun x=>(by kernel_rfl)) fun x Q=>(by kernel_rfl)
def Ei:List (Nat×Ev.Spec):=(67,aH vS)::Eh
theorem wZ:ah Try.prog Ei:=ah.add (fn:=Try.f67) (by kernel_rfl) MD wY
def FX (x:I2):I2:=
 (ai (Js x) fun y=>
 y)
def LD (_:I2):Prop:=True
def Q6 (x:I2):Tr I2 false:=
 (.fn0 vS x trivial fun y=>
 (.ret y))
abbrev zM:jh:=⟨(.pair (.one (Ty.int IntKind.u64)) (.one (Ty.int IntKind.u64))),(.pair (.one (Ty.int IntKind.u64)) (.one (Ty.int IntKind.u64))),LD,FX⟩
theorem NL:av Try.prog 53 (aH zM):=av.tr zM Q6 (fn:=Try.f53) aQ wZ mixed (by kernel_rfl) (aD.nil _ _) (fun x=>aB.nil) (fun x=>(by kernel_rfl)) fun x Q=>(by kernel_rfl)
def HC:List (Nat×Ev.Spec):=(53,aH zM)::Ei
theorem rZ:ah Try.prog HC:=ah.add (fn:=Try.f53) (by kernel_rfl) NL wZ
def BS (x:((List Int)×Int)):aS:=⟨[],⟨ej 48 0 [(7,.v (.one (.full 0))),(8,.v (.one (.i .i64)))],[.row yi 2],0,none,[],[],[1,0],[(.l yi),.i],[]⟩,[⟨(.exit 0),.normal,⟨ej 48 0 [(7,.v (.one (.full 0)))],[.row yi 2],0,none,[],[],[0],[(.l yi)],[]⟩⟩]⟩
def ga (x:((List Int)×Int)) (s:((List Int)×Int)):((List Int)×Int)⊕(List Int):=
 (if (s.2<(s.1.length:Int)) then
 (ai (iN s.1 ((Int.toNat s.2)+0) ((List.length s.1)- (Int.toNat s.2)) (List.take (Int.toNat s.2) s.1)) fun y=>
 (Sum.inl (y,(ae (s.2+(((nQ ((List.length s.1)- (Int.toNat s.2)) (List.length (List.take (Int.toNat s.2) s.1))):Nat):Int)))))) else
 (Sum.inr (s.1)))
def jW (x:((List Int)×Int)) (s:((List Int)×Int)):Prop:=
 ((s.2<(s.1.length:Int))->
 ((((0:Int)<=s.2)/\ (s.2<=(s.1.length:Int)))/\
 (((0:Int)<=s.2)/\ (s.2<=(s.1.length:Int)))))
def wB (x:((List Int)×Int)) (s:((List Int)×Int)):Tr (((List Int)×Int)⊕(List Int)) true:=
 (.i10 (s.2<(nL s.1))
 (.og ((decide (z0<=s.2))&&(decide (s.2<=(nL s.1)))) ((z0<=s.2)/\ (s.2<=(nL s.1))) (fun h=>(cj (decide_eq_true h.1) (decide_eq_true h.2)))
 (.og ((decide (z0<=s.2))&&(decide (s.2<=(nL s.1)))) ((z0<=s.2)/\ (s.2<=(nL s.1))) (fun h=>(cj (decide_eq_true h.1) (decide_eq_true h.2)))
 (.lt (iN s.1 ((tN s.2)+0) ((List.length s.1)- (tN s.2)) (List.take (tN s.2) s.1)) fun y=>
 (.ret (.inl (y,(ae (s.2+(((nQ ((List.length s.1)- (tN s.2)) (List.length (List.take (tN s.2) s.1))):Nat):Int)))))))))
 (.ret (.inr (s.1))))
def repeatM (x:((List Int)×Int)):(List Int):=
 (if (x.2<(0:Int)) then
 default else
 (ai (FX ((IntKind.wrap IntKind.u64 (x.1.length:Int)),(IntKind.wrap IntKind.u64 x.2))) fun y=>
 (if (y.1>(0:Int)) then
 default else
 (if (y.2>(9223372036854775807:Int)) then
 default else
 (ai (iN (List.replicate (Int.toNat (ae y.2)) (0:Int)) 0 (List.length (List.replicate (Int.toNat (ae y.2)) (0:Int))) x.1) fun aq=>
 (ai (run (ga x) (aq,(((nQ (List.length (List.replicate (Int.toNat (ae y.2)) (0:Int))) (List.length x.1)):Nat):Int))) fun r=>
 r))))))
def oh (x:((List Int)×Int)):Prop:=
 (((x.2<(0:Int))->
 False)/\
 (¬(x.2<(0:Int))->
 (ay (FX ((IntKind.wrap IntKind.u64 (x.1.length:Int)),(IntKind.wrap IntKind.u64 x.2))) fun y=>
 (((y.1>(0:Int))->
 False)/\
 (¬(y.1>(0:Int))->
 (((y.2>(9223372036854775807:Int))->
 False)/\
 (¬(y.2>(9223372036854775807:Int))->
 (((((0:Int)<=(ae y.2))/\ ((ae y.2)<=(ae y.2)))/\ ((Int.toNat (ae y.2))<1099511627776))/\
 (ay (iN (List.replicate (Int.toNat (ae y.2)) (0:Int)) 0 (List.length (List.replicate (Int.toNat (ae y.2)) (0:Int))) x.1) fun aq=>
 (Term (ga x) (jW x) (aq,(((nQ (List.length (List.replicate (Int.toNat (ae y.2)) (0:Int))) (List.length x.1)):Nat):Int))))))))))))
def MW (x:((List Int)×Int)):Tr (List Int) true:=
 (.i11 (x.2<z0)
 (.og false False False.elim (.ret default))
 (.fn0 zM ((IntKind.wrap IntKind.u64 (nL x.1)),(IntKind.wrap IntKind.u64 x.2)) trivial fun y=>
 (.i11 (y.1>z0)
 (.og false False False.elim (.ret default))
 (.i11 (y.2>(9223372036854775807:Int))
 (.og false False False.elim (.ret default))
 (.og (((decide (z0<=(ae y.2)))&&(decide ((ae y.2)<=(ae y.2))))&&(decide ((tN (ae y.2))<1099511627776))) (((z0<=(ae y.2))/\ ((ae y.2)<=(ae y.2)))/\ ((tN (ae y.2))<1099511627776)) (fun h=>(cj (cj (decide_eq_true h.1.1) (decide_eq_true h.1.2)) (decide_eq_true h.2)))
 (.lt (iN (List.replicate (tN (ae y.2)) z0) 0 (List.length (List.replicate (tN (ae y.2)) z0)) x.1) fun aq=>
 (aS.lp (BS x) (wB x) (aq,(((nQ (List.length (List.replicate (tN (ae y.2)) z0)) (List.length x.1)):Nat):Int)) fun r=>
 (.ret r))))))))
abbrev sY:jh:=⟨(.pair (.one (Ty.sl yi)) (.one yi)),(.one (Ty.sl yi)),oh,repeatM⟩
theorem JM:av Try.prog 39 (aH sY):=av.tr sY MW (fn:=Try.f39) aQ rZ mixed (by kernel_rfl) (aD.nil _ _) (fun x=>(aB.tr aQ (ah.fe rZ (aD.nil _ _)) mixed 0 (BS x) (wB x) aB.nil (by kernel_rfl) fun g s Q=>(by kernel_rfl))) (fun x=>(by kernel_rfl)) fun x Q=>(by kernel_rfl)
def Ch:List (Nat×Ev.Spec):=(39,aH sY)::HC
theorem oN:ah Try.prog Ch:=ah.add (fn:=Try.f39) (by kernel_rfl) JM rZ
def Dj (x:((List Int)×Int)):aS:=⟨[],⟨ej 19 0 [(0,.v (.one (.full 0))),(1,.v (.one (.i .i64))),(7,.v (.one (.i .i64))),(8,.v (.one (.i .i64)))],[.row yi 0],0,none,[],[0,1,3],[2],[.i],[.i x.2,.i (x.1.length:Int),.l yi x.1]⟩,[⟨.ret,.ret,⟨ej 19 0 [(4,.v (.one (.i .i64)))],[],0,none,[],[],[0],[.i],[]⟩⟩,⟨(.exit 0),.normal,⟨ej 19 0 [],[],0,none,[],[],[],[],[]⟩⟩]⟩
def gX (x:((List Int)×Int)) (s:Int):Int⊕(Int⊕Unit):=
 (if (s<(x.1.length:Int)) then
 (if ((x.2==(List.getD x.1 (Int.toNat s) (0:Int)))=true) then
 (Sum.inr (Sum.inl s)) else
 (Sum.inl (ae (s+(1:Int))))) else
 (Sum.inr (Sum.inr (()))))
def oH (x:((List Int)×Int)) (s:Int):Prop:=
 ((s<(x.1.length:Int))->
 ((((0:Int)<=s)/\ (s<(x.1.length:Int)))/\
 (((Int.toNat s)<(List.length x.1))/\
 ((Int.toNat s)<(List.length x.1)))))
def yC (x:((List Int)×Int)) (s:Int):Tr (Int⊕(Int⊕Unit)) true:=
 (.i10 (s<(nL x.1))
 (.cf s x.1
 (.CA (x.2==(gI x.1 s))
 (.ret (.inr (Sum.inl s)))
 (.ret (.inl (w1 s)))))
 (.ret (.inr (Sum.inr (())))))
def Jf (x:((List Int)×Int)):Int:=
 (ai (run (gX x) (0:Int)) fun r=>
 (Sum.elim (fun a=>
 a) (fun b=>
 (-1:Int)) r))
def uu (x:((List Int)×Int)):Prop:=
 (Term (gX x) (oH x) (0:Int))
def OT (x:((List Int)×Int)):Tr Int true:=
 (aS.lp (Dj x) (yC x) z0 fun r=>
 (.QT r (fun a=>
 (.ret a)) (fun b=>
 (.ret (-1:Int)))))
abbrev vF:jh:=⟨(.pair (.one (Ty.sl yi)) (.one yi)),(.one yi),uu,Jf⟩
theorem Mk:av Try.prog 54 (aH vF):=av.tr vF OT (fn:=Try.f54) aQ oN mixed (by kernel_rfl) (aD.nil _ _) (fun x=>(aB.tr aQ (ah.fe oN (aD.nil _ _)) mixed 0 (Dj x) (yC x) aB.nil (by kernel_rfl) fun g s Q=>(by kernel_rfl))) (fun x=>(by kernel_rfl)) fun x Q=>(by kernel_rfl)
def Ed:List (Nat×Ev.Spec):=(54,aH vF)::Ch
theorem wU:ah Try.prog Ed:=ah.add (fn:=Try.f54) (by kernel_rfl) Mk oN
def ku (x:((List Int)×Int)):Bool:=
 (ai (Jf x) fun y=>
 (decide (y>=(0:Int))))
def oC (x:((List Int)×Int)):Prop:=
 (uu x)
def F4 (x:((List Int)×Int)):Tr Bool true:=
 (.fn vF x fun y=>
 (.ret (decide (y>=z0))))
abbrev nO:jh:=⟨(.pair (.one (Ty.sl yi)) (.one yi)),(.one Ty.bool),oC,ku⟩
theorem EL:av Try.prog 40 (aH nO):=av.tr nO F4 (fn:=Try.f40) aQ wU mixed (by kernel_rfl) (aD.nil _ _) (fun x=>aB.nil) (fun x=>(by kernel_rfl)) fun x Q=>(by kernel_rfl)
def wP:List (Nat×Ev.Spec):=(40,aH nO)::Ed
theorem l9:ah Try.prog wP:=ah.add (fn:=Try.f40) (by kernel_rfl) EL wU
def yO (x:(List ((I3×I3)×(Int×(Int×(List Int)))))):aS:=⟨[],⟨ej 84 0 [(0,.v (.one (.full 0))),(4,.v (.one (.full 1))),(11,.v (.one (.full 0))),(12,.v (.one (.i .i64))),(13,.v (.one (.i .i64)))],[.row (Ty.prod (Ty.prod cr cr) (Ty.prod yi (Ty.prod yi (Ty.sl yi)))) 0,.row yi 2],0,none,[],[0,2],[3,1],[(.l yi),.i],[.i (x.length:Int),.l (Ty.prod (Ty.prod cr cr) (Ty.prod yi (Ty.prod yi (Ty.sl yi)))) x]⟩,[⟨.ret,.ret,⟨ej 84 0 [(2,.v (.one (.raw))),(3,.v (.one (.b)))],[],0,none,[],[0,1],[],[],[.v (.slice none 0 0),.b false]⟩⟩,⟨(.exit 0),.normal,⟨ej 84 0 [(0,.v (.one (.full 0))),(4,.v (.one (.full 1)))],[.row (Ty.prod (Ty.prod cr cr) (Ty.prod yi (Ty.prod yi (Ty.sl yi)))) 0,.row yi 2],0,none,[],[0],[1],[(.l yi)],[.l (Ty.prod (Ty.prod cr cr) (Ty.prod yi (Ty.prod yi (Ty.sl yi)))) x]⟩⟩]⟩
def aU (x:(List ((I3×I3)×(Int×(Int×(List Int)))))) (s:((List Int)×Int)):((List Int)×Int)⊕(Unit⊕(List Int)):=
 (if (s.2<(x.length:Int)) then
 (ai (iR ((List.getD x (Int.toNat s.2) ((((0:Int),((0:Int),(0:Int))),((0:Int),((0:Int),(0:Int)))),((0:Int),((0:Int),[])))),s.2)) fun y=>
 (if (y=true) then
 (Sum.inl (s.1,(ae (s.2+(1:Int))))) else
 (if (((List.getD x (Int.toNat s.2) ((((0:Int),((0:Int),(0:Int))),((0:Int),((0:Int),(0:Int)))),((0:Int),((0:Int),[])))).2.2.2.length:Int)>(0:Int)) then
 (Sum.inr (Sum.inl ())) else
 (if (((List.getD x (Int.toNat s.2) ((((0:Int),((0:Int),(0:Int))),((0:Int),((0:Int),(0:Int)))),((0:Int),((0:Int),[])))).2.1 !=(ae (s.2+(1:Int))))=true) then
 (Sum.inr (Sum.inl ())) else
 (if ((List.getD x (Int.toNat s.2) ((((0:Int),((0:Int),(0:Int))),((0:Int),((0:Int),(0:Int)))),((0:Int),((0:Int),[])))).2.2.1<=(List.getD x (Int.toNat s.2) ((((0:Int),((0:Int),(0:Int))),((0:Int),((0:Int),(0:Int)))),((0:Int),((0:Int),[])))).2.1) then
 (Sum.inr (Sum.inl ())) else
 (if ((List.getD x (Int.toNat s.2) ((((0:Int),((0:Int),(0:Int))),((0:Int),((0:Int),(0:Int)))),((0:Int),((0:Int),[])))).2.2.1>=(x.length:Int)) then
 (Sum.inr (Sum.inl ())) else
 (if ((List.getD s.1 (Int.toNat (List.getD x (Int.toNat s.2) ((((0:Int),((0:Int),(0:Int))),((0:Int),((0:Int),(0:Int)))),((0:Int),((0:Int),[])))).2.1) (0:Int))>=(0:Int)) then
 (Sum.inr (Sum.inl ())) else
 (if ((List.getD s.1 (Int.toNat (List.getD x (Int.toNat s.2) ((((0:Int),((0:Int),(0:Int))),((0:Int),((0:Int),(0:Int)))),((0:Int),((0:Int),[])))).2.2.1) (0:Int))>=(0:Int)) then
 (Sum.inr (Sum.inl ())) else
 (ai (List.set s.1 (Int.toNat (List.getD x (Int.toNat s.2) ((((0:Int),((0:Int),(0:Int))),((0:Int),((0:Int),(0:Int)))),((0:Int),((0:Int),[])))).2.1) s.2) fun aq=>
 (ai (List.set aq (Int.toNat (List.getD x (Int.toNat s.2) ((((0:Int),((0:Int),(0:Int))),((0:Int),((0:Int),(0:Int)))),((0:Int),((0:Int),[])))).2.2.1) s.2) fun y_2=>
 (Sum.inl (y_2,(ae (s.2+(1:Int))))))))))))))) else
 (Sum.inr (Sum.inr (s.1))))
def bw (x:(List ((I3×I3)×(Int×(Int×(List Int)))))) (s:((List Int)×Int)):Prop:=
 ((s.2<(x.length:Int))->
 ((((0:Int)<=s.2)/\ (s.2<(x.length:Int)))/\
 (((Int.toNat s.2)<(List.length x))/\
 (((Int.toNat s.2)<(List.length x))/\
 (ay (iR ((List.getD x (Int.toNat s.2) ((((0:Int),((0:Int),(0:Int))),((0:Int),((0:Int),(0:Int)))),((0:Int),((0:Int),[])))),s.2)) fun y=>
 (¬(y=true)->
 (¬(((List.getD x (Int.toNat s.2) ((((0:Int),((0:Int),(0:Int))),((0:Int),((0:Int),(0:Int)))),((0:Int),((0:Int),[])))).2.2.2.length:Int)>(0:Int))->
 (¬(((List.getD x (Int.toNat s.2) ((((0:Int),((0:Int),(0:Int))),((0:Int),((0:Int),(0:Int)))),((0:Int),((0:Int),[])))).2.1 !=(ae (s.2+(1:Int))))=true)->
 (¬((List.getD x (Int.toNat s.2) ((((0:Int),((0:Int),(0:Int))),((0:Int),((0:Int),(0:Int)))),((0:Int),((0:Int),[])))).2.2.1<=(List.getD x (Int.toNat s.2) ((((0:Int),((0:Int),(0:Int))),((0:Int),((0:Int),(0:Int)))),((0:Int),((0:Int),[])))).2.1)->
 (¬((List.getD x (Int.toNat s.2) ((((0:Int),((0:Int),(0:Int))),((0:Int),((0:Int),(0:Int)))),((0:Int),((0:Int),[])))).2.2.1>=(x.length:Int))->
 ((((0:Int)<=(List.getD x (Int.toNat s.2) ((((0:Int),((0:Int),(0:Int))),((0:Int),((0:Int),(0:Int)))),((0:Int),((0:Int),[])))).2.1)/\ ((List.getD x (Int.toNat s.2) ((((0:Int),((0:Int),(0:Int))),((0:Int),((0:Int),(0:Int)))),((0:Int),((0:Int),[])))).2.1<(s.1.length:Int)))/\
 (((Int.toNat (List.getD x (Int.toNat s.2) ((((0:Int),((0:Int),(0:Int))),((0:Int),((0:Int),(0:Int)))),((0:Int),((0:Int),[])))).2.1)<(List.length s.1))/\
 (((Int.toNat (List.getD x (Int.toNat s.2) ((((0:Int),((0:Int),(0:Int))),((0:Int),((0:Int),(0:Int)))),((0:Int),((0:Int),[])))).2.1)<(List.length s.1))/\
 (¬((List.getD s.1 (Int.toNat (List.getD x (Int.toNat s.2) ((((0:Int),((0:Int),(0:Int))),((0:Int),((0:Int),(0:Int)))),((0:Int),((0:Int),[])))).2.1) (0:Int))>=(0:Int))->
 ((((0:Int)<=(List.getD x (Int.toNat s.2) ((((0:Int),((0:Int),(0:Int))),((0:Int),((0:Int),(0:Int)))),((0:Int),((0:Int),[])))).2.2.1)/\ ((List.getD x (Int.toNat s.2) ((((0:Int),((0:Int),(0:Int))),((0:Int),((0:Int),(0:Int)))),((0:Int),((0:Int),[])))).2.2.1<(s.1.length:Int)))/\
 (((Int.toNat (List.getD x (Int.toNat s.2) ((((0:Int),((0:Int),(0:Int))),((0:Int),((0:Int),(0:Int)))),((0:Int),((0:Int),[])))).2.2.1)<(List.length s.1))/\
 (((Int.toNat (List.getD x (Int.toNat s.2) ((((0:Int),((0:Int),(0:Int))),((0:Int),((0:Int),(0:Int)))),((0:Int),((0:Int),[])))).2.2.1)<(List.length s.1))/\
 (¬((List.getD s.1 (Int.toNat (List.getD x (Int.toNat s.2) ((((0:Int),((0:Int),(0:Int))),((0:Int),((0:Int),(0:Int)))),((0:Int),((0:Int),[])))).2.2.1) (0:Int))>=(0:Int))->
 ((((0:Int)<=(List.getD x (Int.toNat s.2) ((((0:Int),((0:Int),(0:Int))),((0:Int),((0:Int),(0:Int)))),((0:Int),((0:Int),[])))).2.1)/\ ((List.getD x (Int.toNat s.2) ((((0:Int),((0:Int),(0:Int))),((0:Int),((0:Int),(0:Int)))),((0:Int),((0:Int),[])))).2.1<(s.1.length:Int)))/\
 (((Int.toNat (List.getD x (Int.toNat s.2) ((((0:Int),((0:Int),(0:Int))),((0:Int),((0:Int),(0:Int)))),((0:Int),((0:Int),[])))).2.1)<(List.length s.1))/\
 (((Int.toNat (List.getD x (Int.toNat s.2) ((((0:Int),((0:Int),(0:Int))),((0:Int),((0:Int),(0:Int)))),((0:Int),((0:Int),[])))).2.1)<(List.length s.1))/\
 (ay (List.set s.1 (Int.toNat (List.getD x (Int.toNat s.2) ((((0:Int),((0:Int),(0:Int))),((0:Int),((0:Int),(0:Int)))),((0:Int),((0:Int),[])))).2.1) s.2) fun aq=>
 ((((0:Int)<=(List.getD x (Int.toNat s.2) ((((0:Int),((0:Int),(0:Int))),((0:Int),((0:Int),(0:Int)))),((0:Int),((0:Int),[])))).2.2.1)/\ ((List.getD x (Int.toNat s.2) ((((0:Int),((0:Int),(0:Int))),((0:Int),((0:Int),(0:Int)))),((0:Int),((0:Int),[])))).2.2.1<(aq.length:Int)))/\
 (((Int.toNat (List.getD x (Int.toNat s.2) ((((0:Int),((0:Int),(0:Int))),((0:Int),((0:Int),(0:Int)))),((0:Int),((0:Int),[])))).2.2.1)<(List.length aq))/\
 ((Int.toNat (List.getD x (Int.toNat s.2) ((((0:Int),((0:Int),(0:Int))),((0:Int),((0:Int),(0:Int)))),((0:Int),((0:Int),[])))).2.2.1)<(List.length aq))))))))))))))))))))))))))
def tK (x:(List ((I3×I3)×(Int×(Int×(List Int)))))) (s:((List Int)×Int)):Tr (((List Int)×Int)⊕(Unit⊕(List Int))) true:=
 (.i10 (s.2<(nL x))
 (.cf s.2 x
 (.fn0 zS ((gT x s.2 ((bp,bp),(z0,(z0,[])))),s.2) trivial fun y=>
 (.zo y
 (.ret (.inl (s.1,(w1 s.2))))
 (.Ja ((nL (gT x s.2 ((bp,bp),(z0,(z0,[])))).2.2.2)>z0)
 (.ret (.inr (Sum.inl ())))
 (.zo ((gT x s.2 ((bp,bp),(z0,(z0,[])))).2.1 !=(w1 s.2))
 (.ret (.inr (Sum.inl ())))
 (.Ja ((gT x s.2 ((bp,bp),(z0,(z0,[])))).2.2.1<=(gT x s.2 ((bp,bp),(z0,(z0,[])))).2.1)
 (.ret (.inr (Sum.inl ())))
 (.Ja ((gT x s.2 ((bp,bp),(z0,(z0,[])))).2.2.1>=(nL x))
 (.ret (.inr (Sum.inl ())))
 (.cf (gT x s.2 ((bp,bp),(z0,(z0,[])))).2.1 s.1
 (.Ja ((gI s.1 (gT x s.2 ((bp,bp),(z0,(z0,[])))).2.1)>=z0)
 (.ret (.inr (Sum.inl ())))
 (.cf (gT x s.2 ((bp,bp),(z0,(z0,[])))).2.2.1 s.1
 (.Ja ((gI s.1 (gT x s.2 ((bp,bp),(z0,(z0,[])))).2.2.1)>=z0)
 (.ret (.inr (Sum.inl ())))
 (.cf (gT x s.2 ((bp,bp),(z0,(z0,[])))).2.1 s.1
 (.lt (List.set s.1 (tN (gT x s.2 ((bp,bp),(z0,(z0,[])))).2.1) s.2) fun aq=>
 (.cf (gT x s.2 ((bp,bp),(z0,(z0,[])))).2.2.1 aq
 (.lt (List.set aq (tN (gT x s.2 ((bp,bp),(z0,(z0,[])))).2.2.1) s.2) fun y_2=>
 (.ret (.inl (y_2,(w1 s.2)))))))))))))))))))
 (.ret (.inr (Sum.inr (s.1)))))
def fy (x:(List ((I3×I3)×(Int×(Int×(List Int)))))):((List Int)×Bool):=
 (ai (repeatM ([(-1:Int)],(x.length:Int))) fun y=>
 (ai (run (aU x) (y,(0:Int))) fun r=>
 (Sum.elim (fun a=>
 ([],false)) (fun b=>
 (if ((x.length:Int)>(0:Int)) then
 (ai (ku ((List.drop 1 b),(-1:Int))) fun aq=>
 (b,(!aq))) else
 (b,false))) r)))
def cM (x:(List ((I3×I3)×(Int×(Int×(List Int)))))):Prop:=
 ((oh ([(-1:Int)],(x.length:Int)))/\
 ay (repeatM ([(-1:Int)],(x.length:Int))) fun y=>
 (Term (aU x) (bw x) (y,(0:Int))/\
 ay (run (aU x) (y,(0:Int))) fun r=>
 (cS r (fun a=>
 True) (fun b=>
 (((x.length:Int)>(0:Int))->
 (((1:Int)<=(b.length:Int))/\
 (oC ((List.drop 1 b),(-1:Int)))))))))
def JB (x:(List ((I3×I3)×(Int×(Int×(List Int)))))):Tr ((List Int)×Bool) true:=
 (.fn sY ([(-1:Int)],(nL x)) fun y=>
 (aS.lp (yO x) (tK x) (y,z0) fun r=>
 (.s01 r (fun a=>
 (.ret ([],false))) (fun b=>
 (.i10 ((nL x)>z0)
 (.og (true&&(decide (z1<=(nL b)))) (z1<=(nL b)) (fun h=>(cj rfl (decide_eq_true h)))
 (.fn nO ((List.drop 1 b),(-1:Int)) fun aq=>
 (.ret (b,(!aq)))))
 (.ret (b,false)))))))
abbrev qh:jh:=⟨(.one (Ty.sl (Ty.prod (Ty.prod cr cr) (Ty.prod yi (Ty.prod yi (Ty.sl yi)))))),(.pair (.one (Ty.sl yi)) (.one Ty.bool)),cM,fy⟩
theorem G8:av Try.prog 22 (aH qh):=av.tr qh JB (fn:=Try.f22) aQ l9 mixed (by kernel_rfl) (aD.nil _ _) (fun x=>(aB.tr aQ (ah.fe l9 (aD.nil _ _)) mixed 0 (yO x) (tK x) aB.nil (by kernel_rfl) fun g s Q=>(by kernel_rfl))) (fun x=>(by kernel_rfl)) fun x Q=>(by kernel_rfl)
def zf:List (Nat×Ev.Spec):=(22,aH qh)::wP
theorem nx:ah Try.prog zf:=ah.add (fn:=Try.f22) (by kernel_rfl) G8 l9
def Dh (x:((List Bool)×Bool)):aS:=⟨[],⟨ej 19 0 [(0,.v (.one (.full 0))),(1,.v (.one (.b))),(7,.v (.one (.i .i64))),(8,.v (.one (.i .i64)))],[.row Ty.bool 0],0,none,[],[0,1,3],[2],[.i],[.b x.2,.i (x.1.length:Int),.l Ty.bool x.1]⟩,[⟨.ret,.ret,⟨ej 19 0 [(4,.v (.one (.i .i64)))],[],0,none,[],[],[0],[.i],[]⟩⟩,⟨(.exit 0),.normal,⟨ej 19 0 [],[],0,none,[],[],[],[],[]⟩⟩]⟩
def gV (x:((List Bool)×Bool)) (s:Int):Int⊕(Int⊕Unit):=
 (if (s<(x.1.length:Int)) then
 (if ((x.2==(List.getD x.1 (Int.toNat s) false))=true) then
 (Sum.inr (Sum.inl s)) else
 (Sum.inl (ae (s+(1:Int))))) else
 (Sum.inr (Sum.inr (()))))
def oF (x:((List Bool)×Bool)) (s:Int):Prop:=
 ((s<(x.1.length:Int))->
 ((((0:Int)<=s)/\ (s<(x.1.length:Int)))/\
 (((Int.toNat s)<(List.length x.1))/\
 ((Int.toNat s)<(List.length x.1)))))
def yA (x:((List Bool)×Bool)) (s:Int):Tr (Int⊕(Int⊕Unit)) true:=
 (.i10 (s<(nL x.1))
 (.cf s x.1
 (.CA (x.2==(gT x.1 s false))
 (.ret (.inr (Sum.inl s)))
 (.ret (.inl (w1 s)))))
 (.ret (.inr (Sum.inr (())))))
def Jb (x:((List Bool)×Bool)):Int:=
 (ai (run (gV x) (0:Int)) fun r=>
 (Sum.elim (fun a=>
 a) (fun b=>
 (-1:Int)) r))
def A8 (x:((List Bool)×Bool)):Prop:=
 (Term (gV x) (oF x) (0:Int))
def OR (x:((List Bool)×Bool)):Tr Int true:=
 (aS.lp (Dh x) (yA x) z0 fun r=>
 (.QT r (fun a=>
 (.ret a)) (fun b=>
 (.ret (-1:Int)))))
abbrev vD:jh:=⟨(.pair (.one (Ty.sl Ty.bool)) (.one Ty.bool)),(.one yi),A8,Jb⟩
theorem Mi:av Try.prog 41 (aH vD):=av.tr vD OR (fn:=Try.f41) aQ nx mixed (by kernel_rfl) (aD.nil _ _) (fun x=>(aB.tr aQ (ah.fe nx (aD.nil _ _)) mixed 0 (Dh x) (yA x) aB.nil (by kernel_rfl) fun g s Q=>(by kernel_rfl))) (fun x=>(by kernel_rfl)) fun x Q=>(by kernel_rfl)
def Eb:List (Nat×Ev.Spec):=(41,aH vD)::zf
theorem wS:ah Try.prog Eb:=ah.add (fn:=Try.f41) (by kernel_rfl) Mi nx
def jr (x:((List Bool)×Bool)):Bool:=
 (ai (Jb x) fun y=>
 (decide (y>=(0:Int))))
def oB (x:((List Bool)×Bool)):Prop:=
 (A8 x)
def F2 (x:((List Bool)×Bool)):Tr Bool true:=
 (.fn vD x fun y=>
 (.ret (decide (y>=z0))))
abbrev nN:jh:=⟨(.pair (.one (Ty.sl Ty.bool)) (.one Ty.bool)),(.one Ty.bool),oB,jr⟩
theorem EK:av Try.prog 24 (aH nN):=av.tr nN F2 (fn:=Try.f24) aQ wS mixed (by kernel_rfl) (aD.nil _ _) (fun x=>aB.nil) (fun x=>(by kernel_rfl)) fun x Q=>(by kernel_rfl)
def wO:List (Nat×Ev.Spec):=(24,aH nN)::Eb
theorem gg:ah Try.prog wO:=ah.add (fn:=Try.f24) (by kernel_rfl) EK wS
def O2 (x:((List ((I3×I3)×(Int×(Int×(List Int)))))×(List I9))):aS:=⟨[],⟨ej 78 0 [(0,.v (.one (.full 0))),(1,.v (.one (.full 1))),(5,.v (.one (.full 2))),(7,.v (.one (.full 3))),(8,.v (.one (.i .i64))),(11,.v (.one (.i .i64))),(12,.v (.one (.i .i64))),(23,.v (.one (.full 0))),(24,.v (.one (.i .i64))),(25,.v (.one (.i .i64))),(31,.v (.one (.full 4))),(32,.v (.one (.i .i64))),(33,.v (.one (.i .i64)))],[.row (Ty.prod (Ty.prod cr cr) (Ty.prod yi (Ty.prod yi (Ty.sl yi)))) 0,.row cH 0,.row yi 2,.row Ty.bool 2,.row yi 0],0,none,[],[3,7,8],[9,10,0,1,2,4,11,5,6],[(.l yi),(.l Ty.bool),.i,.i,.i,.i,(.l yi),.i,.i],[.i (x.1.length:Int),.l (Ty.prod (Ty.prod cr cr) (Ty.prod yi (Ty.prod yi (Ty.sl yi)))) x.1,.l cH x.2]⟩,[⟨.ret,.ret,⟨ej 78 0 [(4,.v (.one (.b)))],[],0,none,[],[0],[],[],[.b false]⟩⟩,⟨(.exit 4),.normal,⟨ej 78 0 [(0,.v (.one (.full 0))),(1,.v (.one (.full 1))),(5,.v (.one (.full 2))),(7,.v (.one (.full 3))),(8,.v (.one (.i .i64))),(23,.v (.one (.full 0))),(24,.v (.one (.i .i64))),(25,.v (.one (.i .i64))),(31,.v (.one (.full 4))),(32,.v (.one (.i .i64))),(33,.v (.one (.i .i64)))],[.row (Ty.prod (Ty.prod cr cr) (Ty.prod yi (Ty.prod yi (Ty.sl yi)))) 0,.row cH 0,.row yi 2,.row Ty.bool 2,.row yi 0],0,none,[],[1,5,6],[7,8,0,2,9,3,4],[(.l yi),(.l Ty.bool),.i,.i,(.l yi),.i,.i],[.i (x.1.length:Int),.l (Ty.prod (Ty.prod cr cr) (Ty.prod yi (Ty.prod yi (Ty.sl yi)))) x.1,.l cH x.2]⟩⟩]⟩
def eP (x:((List ((I3×I3)×(Int×(Int×(List Int)))))×(List I9))) (s:((List Int)×((List Bool)×(Int×(Int×(Int×(Int×((List Int)×I2)))))))):((List Int)×((List Bool)×(Int×(Int×(Int×(Int×((List Int)×I2)))))))⊕(Unit⊕((List Int)×((List Bool)×(Int×(Int×((List Int)×I2)))))):=
 (if (s.2.2.2.2.1>=(0:Int)) then
 (ai (IM (((List.getD x.1 (Int.toNat s.2.2.2.2.1) ((((0:Int),((0:Int),(0:Int))),((0:Int),((0:Int),(0:Int)))),((0:Int),((0:Int),[])))),s.2.2.2.2.1),(List.getD x.2 (Int.toNat s.2.2.2.1) (((0:Int),((0:Int),(0:Int))),(((0:Int),((0:Int),(0:Int))),((0:Int),((0:Int),(0:Int)))))))) fun y=>
 (if ((!y)=true) then
 (Sum.inr (Sum.inl ())) else
 (Sum.inl (s.1,(s.2.1,(s.2.2.1,(s.2.2.2.1,((List.getD s.1 (Int.toNat s.2.2.2.2.1) (0:Int)),(s.2.2.2.2.2.1,(s.2.2.2.2.2.2.1,(s.2.2.2.2.2.2.2.1,s.2.2.2.2.2.2.2.2))))))))))) else
 (Sum.inr (Sum.inr ((s.1,(s.2.1,(s.2.2.1,(s.2.2.2.2.2.1,(s.2.2.2.2.2.2.1,(s.2.2.2.2.2.2.2.1,s.2.2.2.2.2.2.2.2))))))))))
def ia (x:((List ((I3×I3)×(Int×(Int×(List Int)))))×(List I9))) (s:((List Int)×((List Bool)×(Int×(Int×(Int×(Int×((List Int)×I2)))))))):Prop:=
 ((s.2.2.2.2.1>=(0:Int))->
 ((((0:Int)<=s.2.2.2.2.1)/\ (s.2.2.2.2.1<(x.1.length:Int)))/\
 (((Int.toNat s.2.2.2.2.1)<(List.length x.1))/\
 (((Int.toNat s.2.2.2.2.1)<(List.length x.1))/\
 ((((0:Int)<=s.2.2.2.1)/\ (s.2.2.2.1<(x.2.length:Int)))/\
 (((Int.toNat s.2.2.2.1)<(List.length x.2))/\
 (((Int.toNat s.2.2.2.1)<(List.length x.2))/\
 ((AT (((List.getD x.1 (Int.toNat s.2.2.2.2.1) ((((0:Int),((0:Int),(0:Int))),((0:Int),((0:Int),(0:Int)))),((0:Int),((0:Int),[])))),s.2.2.2.2.1),(List.getD x.2 (Int.toNat s.2.2.2.1) (((0:Int),((0:Int),(0:Int))),(((0:Int),((0:Int),(0:Int))),((0:Int),((0:Int),(0:Int))))))))/\
 ay (IM (((List.getD x.1 (Int.toNat s.2.2.2.2.1) ((((0:Int),((0:Int),(0:Int))),((0:Int),((0:Int),(0:Int)))),((0:Int),((0:Int),[])))),s.2.2.2.2.1),(List.getD x.2 (Int.toNat s.2.2.2.1) (((0:Int),((0:Int),(0:Int))),(((0:Int),((0:Int),(0:Int))),((0:Int),((0:Int),(0:Int)))))))) fun y=>
 (¬((!y)=true)->
 ((((0:Int)<=s.2.2.2.2.1)/\ (s.2.2.2.2.1<(s.1.length:Int)))/\
 (((Int.toNat s.2.2.2.2.1)<(List.length s.1))/\
 ((Int.toNat s.2.2.2.2.1)<(List.length s.1)))))))))))))
def GF (x:((List ((I3×I3)×(Int×(Int×(List Int)))))×(List I9))) (s:((List Int)×((List Bool)×(Int×(Int×(Int×(Int×((List Int)×I2)))))))):Tr (((List Int)×((List Bool)×(Int×(Int×(Int×(Int×((List Int)×I2)))))))⊕(Unit⊕((List Int)×((List Bool)×(Int×(Int×((List Int)×I2))))))) true:=
 (.i10 (s.2.2.2.2.1>=z0)
 (.cf s.2.2.2.2.1 x.1
 (.cf s.2.2.2.1 x.2
 (.fn EX (((gT x.1 s.2.2.2.2.1 ((bp,bp),(z0,(z0,[])))),s.2.2.2.2.1),(gT x.2 s.2.2.2.1 Ls)) fun y=>
 (.zo (!y)
 (.ret (.inr (Sum.inl ())))
 (.cf s.2.2.2.2.1 s.1
 (.ret (.inl (s.1,(s.2.1,(s.2.2.1,(s.2.2.2.1,((gI s.1 s.2.2.2.2.1),(s.2.2.2.2.2.1,(s.2.2.2.2.2.2.1,(s.2.2.2.2.2.2.2.1,s.2.2.2.2.2.2.2.2)))))))))))))))
 (.ret (.inr (Sum.inr ((s.1,(s.2.1,(s.2.2.1,(s.2.2.2.2.2.1,(s.2.2.2.2.2.2.1,(s.2.2.2.2.2.2.2.1,s.2.2.2.2.2.2.2.2)))))))))))
def O1 (x:((List ((I3×I3)×(Int×(Int×(List Int)))))×(List I9))):aS:=⟨[],⟨ej 78 0 [(0,.v (.one (.full 0))),(1,.v (.one (.full 1))),(5,.v (.one (.full 2))),(7,.v (.one (.full 3))),(8,.v (.one (.i .i64))),(23,.v (.one (.full 0))),(24,.v (.one (.i .i64))),(25,.v (.one (.i .i64))),(31,.v (.one (.full 4))),(32,.v (.one (.i .i64))),(33,.v (.one (.i .i64)))],[.row (Ty.prod (Ty.prod cr cr) (Ty.prod yi (Ty.prod yi (Ty.sl yi)))) 0,.row cH 0,.row yi 2,.row Ty.bool 2,.row yi 0],0,none,[],[1,5,6],[7,8,0,2,9,3,4],[(.l yi),(.l Ty.bool),.i,.i,(.l yi),.i,.i],[.i (x.1.length:Int),.l (Ty.prod (Ty.prod cr cr) (Ty.prod yi (Ty.prod yi (Ty.sl yi)))) x.1,.l cH x.2]⟩,[⟨.ret,.ret,⟨ej 78 0 [(4,.v (.one (.b)))],[],0,none,[],[0],[],[],[.b false]⟩⟩,⟨(.exit 2),.normal,⟨ej 78 0 [(0,.v (.one (.full 0))),(1,.v (.one (.full 1))),(5,.v (.one (.full 2))),(7,.v (.one (.full 3))),(23,.v (.one (.full 0))),(24,.v (.one (.i .i64))),(25,.v (.one (.i .i64)))],[.row (Ty.prod (Ty.prod cr cr) (Ty.prod yi (Ty.prod yi (Ty.sl yi)))) 0,.row cH 0,.row yi 2,.row Ty.bool 2],0,none,[],[0,2,3],[4,5,1],[(.l yi),(.l Ty.bool),.i],[.i (x.1.length:Int),.l (Ty.prod (Ty.prod cr cr) (Ty.prod yi (Ty.prod yi (Ty.sl yi)))) x.1,.l cH x.2]⟩⟩]⟩
def c8 (x:((List ((I3×I3)×(Int×(Int×(List Int)))))×(List I9))) (s:((List Int)×((List Bool)×(Int×(Int×((List Int)×I2)))))):((List Int)×((List Bool)×(Int×(Int×((List Int)×I2)))))⊕(Unit⊕((List Int)×((List Bool)×Int))):=
 (if (s.2.2.2.2.2.2<s.2.2.2.2.2.1) then
 (if ((List.getD s.2.2.2.2.1 (Int.toNat s.2.2.2.2.2.2) (0:Int))<(0:Int)) then
 (Sum.inr (Sum.inl ())) else
 (if ((List.getD s.2.2.2.2.1 (Int.toNat s.2.2.2.2.2.2) (0:Int))>=(x.2.length:Int)) then
 (Sum.inr (Sum.inl ())) else
 (if ((List.getD s.2.1 (Int.toNat (List.getD s.2.2.2.2.1 (Int.toNat s.2.2.2.2.2.2) (0:Int))) false)=true) then
 (Sum.inr (Sum.inl ())) else
 (ai (List.set s.2.1 (Int.toNat (List.getD s.2.2.2.2.1 (Int.toNat s.2.2.2.2.2.2) (0:Int))) true) fun y=>
 (ai (run (eP x) (s.1,(y,(s.2.2.1,((List.getD s.2.2.2.2.1 (Int.toNat s.2.2.2.2.2.2) (0:Int)),(s.2.2.1,(s.2.2.2.1,(s.2.2.2.2.1,(s.2.2.2.2.2.1,s.2.2.2.2.2.2))))))))) fun r=>
 (Sum.elim (fun a=>
 (Sum.inr (Sum.inl ()))) (fun b=>
 (Sum.inl (b.1,(b.2.1,(b.2.2.1,(b.2.2.2.1,(b.2.2.2.2.1,(b.2.2.2.2.2.1,(ae (b.2.2.2.2.2.2+(1:Int))))))))))) r)))))) else
 (Sum.inr (Sum.inr ((s.1,(s.2.1,s.2.2.2.1))))))
def fb (x:((List ((I3×I3)×(Int×(Int×(List Int)))))×(List I9))) (s:((List Int)×((List Bool)×(Int×(Int×((List Int)×I2)))))):Prop:=
 ((s.2.2.2.2.2.2<s.2.2.2.2.2.1)->
 ((((0:Int)<=s.2.2.2.2.2.2)/\ (s.2.2.2.2.2.2<(s.2.2.2.2.1.length:Int)))/\
 (((Int.toNat s.2.2.2.2.2.2)<(List.length s.2.2.2.2.1))/\
 (((Int.toNat s.2.2.2.2.2.2)<(List.length s.2.2.2.2.1))/\
 (¬((List.getD s.2.2.2.2.1 (Int.toNat s.2.2.2.2.2.2) (0:Int))<(0:Int))->
 (¬((List.getD s.2.2.2.2.1 (Int.toNat s.2.2.2.2.2.2) (0:Int))>=(x.2.length:Int))->
 ((((0:Int)<=(List.getD s.2.2.2.2.1 (Int.toNat s.2.2.2.2.2.2) (0:Int)))/\ ((List.getD s.2.2.2.2.1 (Int.toNat s.2.2.2.2.2.2) (0:Int))<(s.2.1.length:Int)))/\
 (((Int.toNat (List.getD s.2.2.2.2.1 (Int.toNat s.2.2.2.2.2.2) (0:Int)))<(List.length s.2.1))/\
 (((Int.toNat (List.getD s.2.2.2.2.1 (Int.toNat s.2.2.2.2.2.2) (0:Int)))<(List.length s.2.1))/\
 (¬((List.getD s.2.1 (Int.toNat (List.getD s.2.2.2.2.1 (Int.toNat s.2.2.2.2.2.2) (0:Int))) false)=true)->
 ((((0:Int)<=(List.getD s.2.2.2.2.1 (Int.toNat s.2.2.2.2.2.2) (0:Int)))/\ ((List.getD s.2.2.2.2.1 (Int.toNat s.2.2.2.2.2.2) (0:Int))<(s.2.1.length:Int)))/\
 (((Int.toNat (List.getD s.2.2.2.2.1 (Int.toNat s.2.2.2.2.2.2) (0:Int)))<(List.length s.2.1))/\
 (((Int.toNat (List.getD s.2.2.2.2.1 (Int.toNat s.2.2.2.2.2.2) (0:Int)))<(List.length s.2.1))/\
 (ay (List.set s.2.1 (Int.toNat (List.getD s.2.2.2.2.1 (Int.toNat s.2.2.2.2.2.2) (0:Int))) true) fun y=>
 (Term (eP x) (ia x) (s.1,(y,(s.2.2.1,((List.getD s.2.2.2.2.1 (Int.toNat s.2.2.2.2.2.2) (0:Int)),(s.2.2.1,(s.2.2.2.1,(s.2.2.2.2.1,(s.2.2.2.2.2.1,s.2.2.2.2.2.2)))))))))))))))))))))))
def GD (x:((List ((I3×I3)×(Int×(Int×(List Int)))))×(List I9))) (s:((List Int)×((List Bool)×(Int×(Int×((List Int)×I2)))))):Tr (((List Int)×((List Bool)×(Int×(Int×((List Int)×I2)))))⊕(Unit⊕((List Int)×((List Bool)×Int)))) true:=
 (.i10 (s.2.2.2.2.2.2<s.2.2.2.2.2.1)
 (.cf s.2.2.2.2.2.2 s.2.2.2.2.1
 (.Ja ((gI s.2.2.2.2.1 s.2.2.2.2.2.2)<z0)
 (.ret (.inr (Sum.inl ())))
 (.Ja ((gI s.2.2.2.2.1 s.2.2.2.2.2.2)>=(nL x.2))
 (.ret (.inr (Sum.inl ())))
 (.cf (gI s.2.2.2.2.1 s.2.2.2.2.2.2) s.2.1
 (.zo (gT s.2.1 (gI s.2.2.2.2.1 s.2.2.2.2.2.2) false)
 (.ret (.inr (Sum.inl ())))
 (.cf (gI s.2.2.2.2.1 s.2.2.2.2.2.2) s.2.1
 (.lt (List.set s.2.1 (tN (gI s.2.2.2.2.1 s.2.2.2.2.2.2)) true) fun y=>
 (aS.lp (O2 x) (GF x) (s.1,(y,(s.2.2.1,((gI s.2.2.2.2.1 s.2.2.2.2.2.2),(s.2.2.1,(s.2.2.2.1,(s.2.2.2.2.1,(s.2.2.2.2.2.1,s.2.2.2.2.2.2)))))))) fun r=>
 (.QT r (fun a=>
 (.ret (.inr (Sum.inl ())))) (fun b=>
 (.ret (.inl (b.1,(b.2.1,(b.2.2.1,(b.2.2.2.1,(b.2.2.2.2.1,(b.2.2.2.2.2.1,(w1 b.2.2.2.2.2.2)))))))))))))))))))
 (.ret (.inr (Sum.inr ((s.1,(s.2.1,s.2.2.2.1)))))))
def O0 (x:((List ((I3×I3)×(Int×(Int×(List Int)))))×(List I9))):aS:=⟨[],⟨ej 78 0 [(0,.v (.one (.full 0))),(1,.v (.one (.full 1))),(5,.v (.one (.full 2))),(7,.v (.one (.full 3))),(23,.v (.one (.full 0))),(24,.v (.one (.i .i64))),(25,.v (.one (.i .i64)))],[.row (Ty.prod (Ty.prod cr cr) (Ty.prod yi (Ty.prod yi (Ty.sl yi)))) 0,.row cH 0,.row yi 2,.row Ty.bool 2],0,none,[],[0,2,3],[4,5,1],[(.l yi),(.l Ty.bool),.i],[.i (x.1.length:Int),.l (Ty.prod (Ty.prod cr cr) (Ty.prod yi (Ty.prod yi (Ty.sl yi)))) x.1,.l cH x.2]⟩,[⟨.ret,.ret,⟨ej 78 0 [(4,.v (.one (.b)))],[],0,none,[],[0],[],[],[.b false]⟩⟩,⟨(.exit 0),.normal,⟨ej 78 0 [(7,.v (.one (.full 0)))],[.row Ty.bool 2],0,none,[],[],[0],[(.l Ty.bool)],[]⟩⟩]⟩
def dR (x:((List ((I3×I3)×(Int×(Int×(List Int)))))×(List I9))) (s:((List Int)×((List Bool)×Int))):((List Int)×((List Bool)×Int))⊕(Unit⊕(List Bool)):=
 (if (s.2.2<(x.1.length:Int)) then
 (ai (run (c8 x) (s.1,(s.2.1,(s.2.2,(s.2.2,((List.getD x.1 (Int.toNat s.2.2) ((((0:Int),((0:Int),(0:Int))),((0:Int),((0:Int),(0:Int)))),((0:Int),((0:Int),[])))).2.2.2,(((List.getD x.1 (Int.toNat s.2.2) ((((0:Int),((0:Int),(0:Int))),((0:Int),((0:Int),(0:Int)))),((0:Int),((0:Int),[])))).2.2.2.length:Int),(0:Int)))))))) fun r=>
 (Sum.elim (fun a=>
 (Sum.inr (Sum.inl ()))) (fun b=>
 (Sum.inl (b.1,(b.2.1,(ae (b.2.2+(1:Int))))))) r)) else
 (Sum.inr (Sum.inr (s.2.1))))
def hO (x:((List ((I3×I3)×(Int×(Int×(List Int)))))×(List I9))) (s:((List Int)×((List Bool)×Int))):Prop:=
 ((s.2.2<(x.1.length:Int))->
 ((((0:Int)<=s.2.2)/\ (s.2.2<(x.1.length:Int)))/\
 (((Int.toNat s.2.2)<(List.length x.1))/\
 (((Int.toNat s.2.2)<(List.length x.1))/\
 (Term (c8 x) (fb x) (s.1,(s.2.1,(s.2.2,(s.2.2,((List.getD x.1 (Int.toNat s.2.2) ((((0:Int),((0:Int),(0:Int))),((0:Int),((0:Int),(0:Int)))),((0:Int),((0:Int),[])))).2.2.2,(((List.getD x.1 (Int.toNat s.2.2) ((((0:Int),((0:Int),(0:Int))),((0:Int),((0:Int),(0:Int)))),((0:Int),((0:Int),[])))).2.2.2.length:Int),(0:Int))))))))))))
def GC (x:((List ((I3×I3)×(Int×(Int×(List Int)))))×(List I9))) (s:((List Int)×((List Bool)×Int))):Tr (((List Int)×((List Bool)×Int))⊕(Unit⊕(List Bool))) true:=
 (.i10 (s.2.2<(nL x.1))
 (.cf s.2.2 x.1
 (aS.lp (O1 x) (GD x) (s.1,(s.2.1,(s.2.2,(s.2.2,((gT x.1 s.2.2 ((bp,bp),(z0,(z0,[])))).2.2.2,((nL (gT x.1 s.2.2 ((bp,bp),(z0,(z0,[])))).2.2.2),z0)))))) fun r=>
 (.QT r (fun a=>
 (.ret (.inr (Sum.inl ())))) (fun b=>
 (.ret (.inl (b.1,(b.2.1,(w1 b.2.2)))))))))
 (.ret (.inr (Sum.inr (s.2.1)))))
def E6 (x:((List ((I3×I3)×(Int×(Int×(List Int)))))×(List I9))):Bool:=
 (ai (fy x.1) fun y=>
 (if ((!y.2)=true) then
 false else
 (ai (run (dR x) (y.1,((List.replicate (List.length x.2) false),(0:Int)))) fun r=>
 (Sum.elim (fun a=>
 false) (fun b=>
 (ai (jr (b,false)) fun aq=>
 (!aq))) r))))
def fN (x:((List ((I3×I3)×(Int×(Int×(List Int)))))×(List I9))):Prop:=
 ((cM x.1)/\
 ay (fy x.1) fun y=>
 (¬((!y.2)=true)->
 ((((x.2.length:Int)<=(x.2.length:Int))/\ ((List.length x.2)<1099511627776))/\
 (Term (dR x) (hO x) (y.1,((List.replicate (List.length x.2) false),(0:Int)))/\
 ay (run (dR x) (y.1,((List.replicate (List.length x.2) false),(0:Int)))) fun r=>
 (cS r (fun a=>
 True) (fun b=>
 (oB (b,false))))))))
def WU (x:((List ((I3×I3)×(Int×(Int×(List Int)))))×(List I9))):Tr Bool true:=
 (.fn qh x.1 fun y=>
 (.zo (!y.2)
 (.ret false)
 (.og (((decide (z0<=(nL x.2)))&&(decide ((nL x.2)<=(nL x.2))))&&(decide ((List.length x.2)<1099511627776))) (((nL x.2)<=(nL x.2))/\ ((List.length x.2)<1099511627776)) (fun h=>(cj (cj rfl (decide_eq_true h.1)) (decide_eq_true h.2)))
 (aS.lp (O0 x) (GC x) (y.1,((List.replicate (List.length x.2) false),z0)) fun r=>
 (.s01 r (fun a=>
 (.ret false)) (fun b=>
 (.fn nN (b,false) fun aq=>
 (.ret (!aq)))))))))
abbrev vK:jh:=⟨(.pair (.one (Ty.sl (Ty.prod (Ty.prod cr cr) (Ty.prod yi (Ty.prod yi (Ty.sl yi)))))) (.one (Ty.sl cH))),(.one Ty.bool),fN,E6⟩
theorem Ut:av Try.prog 9 (aH vK):=av.tr vK WU (fn:=Try.f9) aQ gg mixed (by kernel_rfl) (aD.nil _ _) (fun x=>(aB.tr aQ (ah.fe gg (aD.nil _ _)) mixed 0 (O0 x) (GC x) (aB.tr aQ (ah.fe gg (aD.nil _ _)) mixed 2 (O1 x) (GD x) (aB.tr aQ (ah.fe gg (aD.nil _ _)) mixed 4 (O2 x) (GF x) aB.nil (by kernel_rfl) fun g s Q=>(by kernel_rfl)) (by kernel_rfl) fun g s Q=>(by kernel_rfl)) (by kernel_rfl) fun g s Q=>(by kernel_rfl))) (fun x=>(by kernel_rfl)) fun x Q=>(by kernel_rfl)
def cU:List (Nat×Ev.Spec):=(9,aH vK)::wO
theorem fC:ah Try.prog cU:=ah.add (fn:=Try.f9) (by kernel_rfl) Ut gg
def ck (x:(List ((I3×I3)×(Int×(Int×(List Int)))))) (g0:Loop) (g1:Env) (g2:Env) (s:((List Int)×((List Int)×(Int×I3)))):AS:=⟨(D:: .v (.one (.ptr 1 0))::D:: .v (.one (.ptr 3 0))::vi s.2.2.1::D::D::D::D::D::D::D::D::D::D::D::D::D::D::D::D::D::D::D::D::D::D::D::D:: .v (.one (.sl 10 0 2 2))::vi (2:Int)::vi s.2.2.2.2.2::D::D::D::D::D::D::D::D::D::D::D::D::D::D::D::D::D::D::D::D::D::D::D::D::D::D::D::D::D:: []),[.row (Ty.prod (Ty.prod cr cr) (Ty.prod yi (Ty.prod yi (Ty.sl yi)))) x 0,.cells [.full 0] 23,.row yi s.1 2,.cells [.full 2] 28,.gone,.cells [.full 0] 23,.loop g0 LoopState.busy Option.none,.de g1 7,.row yi s.2.1 0,.de g2 9,.cells [ci s.2.2.2.1,ci s.2.2.2.2.1] 3]⟩
def dS (x:(List ((I3×I3)×(Int×(Int×(List Int)))))) (g0:Loop) (g1:Env) (g2:Env) (r:((List Int)×(List Int))) (K:Exit->AS->Prop):Prop:=K .normal ⟨(D::D::D::D::D::D::D::D::D::D::D::D::D::D::D::D::D::D::D::D::D::D::D::D::D::D::D::D::D::D::D::D::D::D::D::D::D::D::D::D::D::D::D::D::D::D::D::D::D::D::D::D::D::D::D::D::D::D::D::D::D:: []),[.row (Ty.prod (Ty.prod cr cr) (Ty.prod yi (Ty.prod yi (Ty.sl yi)))) x 0,.cells [.full 0] 23,.row yi r.1 2,.cells [.full 2] 28,.gone,.cells [.full 0] 23,.loop g0 LoopState.busy Option.none,.de g1 7,.row yi r.2 0,.de g2 9]⟩
def bS (x:(List ((I3×I3)×(Int×(Int×(List Int)))))) (s:((List Int)×((List Int)×(Int×I3)))):((List Int)×((List Int)×(Int×I3)))⊕((List Int)×(List Int)):=
 (if (s.2.2.2.2.2<(2:Int)) then
 (if ((List.getD [s.2.2.2.1,s.2.2.2.2.1] (0+((Int.toNat s.2.2.2.2.2)*1)) (0:Int))>s.2.2.1) then
 (if ((List.getD [s.2.2.2.1,s.2.2.2.2.1] (0+((Int.toNat s.2.2.2.2.2)*1)) (0:Int))<(x.length:Int)) then
 (ai (List.set s.1 (Int.toNat s.2.2.1) (dJ (List.getD s.1 (Int.toNat s.2.2.1) (0:Int)) (ae ((List.getD s.1 (Int.toNat (List.getD [s.2.2.2.1,s.2.2.2.2.1] (0+((Int.toNat s.2.2.2.2.2)*1)) (0:Int))) (0:Int))+(1:Int))))) fun y=>
 (Sum.inl (y,(s.2.1,(s.2.2.1,(s.2.2.2.1,(s.2.2.2.2.1,(ae (s.2.2.2.2.2+(1:Int)))))))))) else
 (Sum.inl (s.1,(s.2.1,(s.2.2.1,(s.2.2.2.1,(s.2.2.2.2.1,(ae (s.2.2.2.2.2+(1:Int)))))))))) else
 (Sum.inl (s.1,(s.2.1,(s.2.2.1,(s.2.2.2.1,(s.2.2.2.2.1,(ae (s.2.2.2.2.2+(1:Int)))))))))) else
 (Sum.inr ((s.1,s.2.1))))
def cP (x:(List ((I3×I3)×(Int×(Int×(List Int)))))) (s:((List Int)×((List Int)×(Int×I3)))):Prop:=
 ((s.2.2.2.2.2<(2:Int))->
 ((((0:Int)<=s.2.2.2.2.2)/\ (s.2.2.2.2.2<(2:Int)))/\
 ((((0+((Int.toNat s.2.2.2.2.2)*1))+1)<=2)/\
 (((List.getD [s.2.2.2.1,s.2.2.2.2.1] (0+((Int.toNat s.2.2.2.2.2)*1)) (0:Int))>s.2.2.1)->
 (((List.getD [s.2.2.2.1,s.2.2.2.2.1] (0+((Int.toNat s.2.2.2.2.2)*1)) (0:Int))<(x.length:Int))->
 ((((0:Int)<=s.2.2.1)/\ (s.2.2.1<(s.1.length:Int)))/\
 (((Int.toNat s.2.2.1)<(List.length s.1))/\
 (((Int.toNat s.2.2.1)<(List.length s.1))/\
 ((((0:Int)<=(List.getD [s.2.2.2.1,s.2.2.2.2.1] (0+((Int.toNat s.2.2.2.2.2)*1)) (0:Int)))/\ ((List.getD [s.2.2.2.1,s.2.2.2.2.1] (0+((Int.toNat s.2.2.2.2.2)*1)) (0:Int))<(s.1.length:Int)))/\
 (((Int.toNat (List.getD [s.2.2.2.1,s.2.2.2.2.1] (0+((Int.toNat s.2.2.2.2.2)*1)) (0:Int)))<(List.length s.1))/\
 (((Int.toNat (List.getD [s.2.2.2.1,s.2.2.2.2.1] (0+((Int.toNat s.2.2.2.2.2)*1)) (0:Int)))<(List.length s.1))/\
 ((((0:Int)<=s.2.2.1)/\ (s.2.2.1<(s.1.length:Int)))/\
 (((Int.toNat s.2.2.1)<(List.length s.1))/\
 ((Int.toNat s.2.2.1)<(List.length s.1)))))))))))))))
def jc (x:(List ((I3×I3)×(Int×(Int×(List Int)))))) (g0:Loop) (g1:Env) (g2:Env):cy:=Fb (ck x g0 g1 g2) (bS x) (cP x) (dS x g0 g1 g2)
def bQ (x:(List ((I3×I3)×(Int×(Int×(List Int)))))) (g0:Loop) (g1:Env) (s:((List Int)×Int)):AS:=⟨[.v (.one (.zJ 6)),.v (.one (.ptr 5 0)),D,vi s.2,D,D,D,D,D,D,D,D,D,D,D,D,D,D,D],[.row (Ty.prod (Ty.prod cr cr) (Ty.prod yi (Ty.prod yi (Ty.sl yi)))) x 0,.cells [.full 0] 23,.row yi s.1 2,.cells [.full 2] 28,.gone,.cells [.full 0] 23,.loop g0 LoopState.ready Option.none,.de g1 7]⟩
def cY (x:(List ((I3×I3)×(Int×(Int×(List Int)))))) (g0:Loop) (g1:Env) (r:(List Int)) (K:Exit->AS->Prop):Prop:=K .normal ⟨[D,D,D,D,D,D,D,D,D,D,D,D,D,D,D,D,D,D,D],[.row (Ty.prod (Ty.prod cr cr) (Ty.prod yi (Ty.prod yi (Ty.sl yi)))) x 0,.cells [.full 0] 23,.row yi r 2,.cells [.full 2] 28,.gone,.cells [.full 0] 23,.loop g0 LoopState.ready Option.none,.de g1 7]⟩
def bH (x:(List ((I3×I3)×(Int×(Int×(List Int)))))) (t:Unit) (s:((List Int)×Int)):((List Int)×Int)⊕(List Int):=
 (if (s.2>=(0:Int)) then
 (ai (List.set s.1 (Int.toNat s.2) (1:Int)) fun y=>
 (ai (iR ((List.getD x (Int.toNat s.2) ((((0:Int),((0:Int),(0:Int))),((0:Int),((0:Int),(0:Int)))),((0:Int),((0:Int),[])))),s.2)) fun aq=>
 (if (aq=true) then
 (Sum.inl (y,(ae (s.2- (1:Int))))) else
 (ai (run (bS x) (y,((List.getD x (Int.toNat s.2) ((((0:Int),((0:Int),(0:Int))),((0:Int),((0:Int),(0:Int)))),((0:Int),((0:Int),[])))).2.2.2,(s.2,((List.getD x (Int.toNat s.2) ((((0:Int),((0:Int),(0:Int))),((0:Int),((0:Int),(0:Int)))),((0:Int),((0:Int),[])))).2.1,((List.getD x (Int.toNat s.2) ((((0:Int),((0:Int),(0:Int))),((0:Int),((0:Int),(0:Int)))),((0:Int),((0:Int),[])))).2.2.1,(0:Int))))))) fun r=>
 (Sum.inl (r.1,(ae (s.2- (1:Int))))))))) else
 (Sum.inr (s.1)))
def cE (x:(List ((I3×I3)×(Int×(Int×(List Int)))))) (t:Unit) (s:((List Int)×Int)):Prop:=
 ((s.2>=(0:Int))->
 ((((0:Int)<=s.2)/\ (s.2<(x.length:Int)))/\
 (((Int.toNat s.2)<(List.length x))/\
 (((Int.toNat s.2)<(List.length x))/\
 ((((0:Int)<=s.2)/\ (s.2<(s.1.length:Int)))/\
 (((Int.toNat s.2)<(List.length s.1))/\
 (((Int.toNat s.2)<(List.length s.1))/\
 (ay (List.set s.1 (Int.toNat s.2) (1:Int)) fun y=>
 (ay (iR ((List.getD x (Int.toNat s.2) ((((0:Int),((0:Int),(0:Int))),((0:Int),((0:Int),(0:Int)))),((0:Int),((0:Int),[])))),s.2)) fun aq=>
 (¬(aq=true)->
 (Term (bS x) (cP x) (y,((List.getD x (Int.toNat s.2) ((((0:Int),((0:Int),(0:Int))),((0:Int),((0:Int),(0:Int)))),((0:Int),((0:Int),[])))).2.2.2,(s.2,((List.getD x (Int.toNat s.2) ((((0:Int),((0:Int),(0:Int))),((0:Int),((0:Int),(0:Int)))),((0:Int),((0:Int),[])))).2.1,((List.getD x (Int.toNat s.2) ((((0:Int),((0:Int),(0:Int))),((0:Int),((0:Int),(0:Int)))),((0:Int),((0:Int),[])))).2.2.1,(0:Int)))))))))))))))))
def kA (x:(List ((I3×I3)×(Int×(Int×(List Int)))))) (g0:Loop) (g1:Env) (t:Unit):cy:=Fb (bQ x g0 g1) (bH x t) (cE x t) (cY x g0 g1)
def iE (x:(List ((I3×I3)×(Int×(Int×(List Int)))))) (ys:List (Nat×Ev.Spec)):List (Nat×cy):= []
def iF (x:(List ((I3×I3)×(Int×(Int×(List Int)))))) (ys:List (Nat×Ev.Spec)):List (Nat×cy):=(0,FP [(8,pR 6 fun g0=>oW 7 fun g1=>SR ⟨tt,cU,fh,iE x ys,ys,((25,oJ tt cU fh (fun ys=> []) [] Try.f25):: [])⟩ (.loop (cI (bt 0 (bG Try.f42)))) 0 fun (q:Unit×(Nat->AV))=>kA x g0 g1 q.1)])::iE x ys
def o7 (x:(List ((I3×I3)×(Int×(Int×(List Int)))))):Ctx:=⟨tt,cU,fh,((2,FP [(10,pR 6 fun g0=>oW 7 fun g1=>oW 9 fun g2=>jc x g0 g1 g2)]):: []),[],((42,oJ tt cU fh (iF x) ((25,oJ tt cU fh (fun ys=> []) [] Try.f25):: []) Try.f42)::((25,oJ tt cU fh (fun ys=> []) [] Try.f25):: []))⟩
theorem zw (x:(List ((I3×I3)×(Int×(Int×(List Int)))))) (g0:Loop) (g1:Env) (g2:Env) (s:((List Int)×((List Int)×(Int×I3)))) (K:Exit->AS->Prop) (KN:AS->Prop):dY ⟨tt,cU,fh,[],[],((42,oJ tt cU fh (iF x) ((25,oJ tt cU fh (fun ys=> []) [] Try.f25):: []) Try.f42)::((25,oJ tt cU fh (fun ys=> []) [] Try.f25):: []))⟩ (cI (bt 2 (bG Try.f10))) (ck x g0 g1 g2 s) (KB 2 K KN)=
 (cB (decide (s.2.2.2.2.2<(2:Int)))
 (ob ((decide ((0:Int)<=s.2.2.2.2.2))&&(decide (s.2.2.2.2.2<(2:Int))))
 (ob (decide (((0+((Int.toNat s.2.2.2.2.2)*1))+1)<=2))
 (cB (decide ((List.getD [s.2.2.2.1,s.2.2.2.2.1] (0+((Int.toNat s.2.2.2.2.2)*1)) (0:Int))>s.2.2.1))
 (cB (decide ((List.getD [s.2.2.2.1,s.2.2.2.2.1] (0+((Int.toNat s.2.2.2.2.2)*1)) (0:Int))<(x.length:Int)))
 (ob ((decide ((0:Int)<=s.2.2.1))&&(decide (s.2.2.1<(s.1.length:Int))))
 (ob (decide ((Int.toNat s.2.2.1)<(List.length s.1)))
 (ob (decide ((Int.toNat s.2.2.1)<(List.length s.1)))
 (ob ((decide ((0:Int)<=(List.getD [s.2.2.2.1,s.2.2.2.2.1] (0+((Int.toNat s.2.2.2.2.2)*1)) (0:Int))))&&(decide ((List.getD [s.2.2.2.1,s.2.2.2.2.1] (0+((Int.toNat s.2.2.2.2.2)*1)) (0:Int))<(s.1.length:Int))))
 (ob (decide ((Int.toNat (List.getD [s.2.2.2.1,s.2.2.2.2.1] (0+((Int.toNat s.2.2.2.2.2)*1)) (0:Int)))<(List.length s.1)))
 (ob (decide ((Int.toNat (List.getD [s.2.2.2.1,s.2.2.2.2.1] (0+((Int.toNat s.2.2.2.2.2)*1)) (0:Int)))<(List.length s.1)))
 (ob ((decide ((0:Int)<=s.2.2.1))&&(decide (s.2.2.1<(s.1.length:Int))))
 (ob (decide ((Int.toNat s.2.2.1)<(List.length s.1)))
 (ob (decide ((Int.toNat s.2.2.1)<(List.length s.1)))
 (True/\ ∀y:(List Int),y=(List.set s.1 (Int.toNat s.2.2.1) (dJ (List.getD s.1 (Int.toNat s.2.2.1) (0:Int)) (ae ((List.getD s.1 (Int.toNat (List.getD [s.2.2.2.1,s.2.2.2.2.1] (0+((Int.toNat s.2.2.2.2.2)*1)) (0:Int))) (0:Int))+(1:Int)))))->
 (KB 2 K KN .normal ⟨(D:: .v (.one (.ptr 1 0))::D:: .v (.one (.ptr 3 0))::vi s.2.2.1::D::D::vi (List.getD [s.2.2.2.1,s.2.2.2.2.1] (0+((Int.toNat s.2.2.2.2.2)*1)) (0:Int))::D::D::D::D::D::D::D::D::D::D::D::D::D::D::D::D::D::D::D::D::D:: .v (.one (.sl 10 0 2 2))::vi (2:Int)::vi (ae (s.2.2.2.2.2+(1:Int)))::vb (decide (s.2.2.2.2.2<(2:Int))):: .v (.one (.jE 10 (0+((Int.toNat s.2.2.2.2.2)*1))))::vi (List.getD [s.2.2.2.1,s.2.2.2.2.1] (0+((Int.toNat s.2.2.2.2.2)*1)) (0:Int))::vi (List.getD [s.2.2.2.1,s.2.2.2.2.1] (0+((Int.toNat s.2.2.2.2.2)*1)) (0:Int))::vi s.2.2.1::vb (decide ((List.getD [s.2.2.2.1,s.2.2.2.2.1] (0+((Int.toNat s.2.2.2.2.2)*1)) (0:Int))>s.2.2.1))::vb true::vi (List.getD [s.2.2.2.1,s.2.2.2.2.1] (0+((Int.toNat s.2.2.2.2.2)*1)) (0:Int)):: .v (.one (.full 0))::vi (x.length:Int)::vb (decide ((List.getD [s.2.2.2.1,s.2.2.2.2.1] (0+((Int.toNat s.2.2.2.2.2)*1)) (0:Int))<(x.length:Int)))::vb (decide ((List.getD [s.2.2.2.1,s.2.2.2.2.1] (0+((Int.toNat s.2.2.2.2.2)*1)) (0:Int))<(x.length:Int))):: .v (.one (.full 2))::vi s.2.2.1:: .v (.one (.full 2))::vi s.2.2.1:: .v (.one (.cx 2 (Int.toNat s.2.2.1) 0))::vi (List.getD s.1 (Int.toNat s.2.2.1) (0:Int)):: .v (.one (.full 2))::vi (List.getD [s.2.2.2.1,s.2.2.2.2.1] (0+((Int.toNat s.2.2.2.2.2)*1)) (0:Int)):: .v (.one (.cx 2 (Int.toNat (List.getD [s.2.2.2.1,s.2.2.2.2.1] (0+((Int.toNat s.2.2.2.2.2)*1)) (0:Int))) 0))::vi (List.getD s.1 (Int.toNat (List.getD [s.2.2.2.1,s.2.2.2.2.1] (0+((Int.toNat s.2.2.2.2.2)*1)) (0:Int))) (0:Int))::vi (ae ((List.getD s.1 (Int.toNat (List.getD [s.2.2.2.1,s.2.2.2.2.1] (0+((Int.toNat s.2.2.2.2.2)*1)) (0:Int))) (0:Int))+(1:Int)))::vi (dJ (List.getD s.1 (Int.toNat s.2.2.1) (0:Int)) (ae ((List.getD s.1 (Int.toNat (List.getD [s.2.2.2.1,s.2.2.2.2.1] (0+((Int.toNat s.2.2.2.2.2)*1)) (0:Int))) (0:Int))+(1:Int)))):: .v (.one (.cx 2 (Int.toNat s.2.2.1) 0))::vi (ae (s.2.2.2.2.2+(1:Int)))::D::D::D:: []),[.row (Ty.prod (Ty.prod cr cr) (Ty.prod yi (Ty.prod yi (Ty.sl yi)))) x 0,.cells [.full 0] 23,.row yi y 2,.cells [.full 2] 28,.gone,.cells [.full 0] 23,.loop g0 LoopState.busy Option.none,.de g1 7,.row yi s.2.1 0,.de g2 9,.cells [ci s.2.2.2.1,ci s.2.2.2.2.1] 3]⟩)))))))))))
 (KB 2 K KN .normal ⟨(D:: .v (.one (.ptr 1 0))::D:: .v (.one (.ptr 3 0))::vi s.2.2.1::D::D::vi (List.getD [s.2.2.2.1,s.2.2.2.2.1] (0+((Int.toNat s.2.2.2.2.2)*1)) (0:Int))::D::D::D::D::D::D::D::D::D::D::D::D::D::D::D::D::D::D::D::D::D:: .v (.one (.sl 10 0 2 2))::vi (2:Int)::vi (ae (s.2.2.2.2.2+(1:Int)))::vb (decide (s.2.2.2.2.2<(2:Int))):: .v (.one (.jE 10 (0+((Int.toNat s.2.2.2.2.2)*1))))::vi (List.getD [s.2.2.2.1,s.2.2.2.2.1] (0+((Int.toNat s.2.2.2.2.2)*1)) (0:Int))::vi (List.getD [s.2.2.2.1,s.2.2.2.2.1] (0+((Int.toNat s.2.2.2.2.2)*1)) (0:Int))::vi s.2.2.1::vb (decide ((List.getD [s.2.2.2.1,s.2.2.2.2.1] (0+((Int.toNat s.2.2.2.2.2)*1)) (0:Int))>s.2.2.1))::vb true::vi (List.getD [s.2.2.2.1,s.2.2.2.2.1] (0+((Int.toNat s.2.2.2.2.2)*1)) (0:Int)):: .v (.one (.full 0))::vi (x.length:Int)::vb (decide ((List.getD [s.2.2.2.1,s.2.2.2.2.1] (0+((Int.toNat s.2.2.2.2.2)*1)) (0:Int))<(x.length:Int)))::vb (decide ((List.getD [s.2.2.2.1,s.2.2.2.2.1] (0+((Int.toNat s.2.2.2.2.2)*1)) (0:Int))<(x.length:Int)))::D::D::D::D::D::D::D::D::D::D::D::D::D::vi (ae (s.2.2.2.2.2+(1:Int)))::D::D::D:: []),[.row (Ty.prod (Ty.prod cr cr) (Ty.prod yi (Ty.prod yi (Ty.sl yi)))) x 0,.cells [.full 0] 23,.row yi s.1 2,.cells [.full 2] 28,.gone,.cells [.full 0] 23,.loop g0 LoopState.busy Option.none,.de g1 7,.row yi s.2.1 0,.de g2 9,.cells [ci s.2.2.2.1,ci s.2.2.2.2.1] 3]⟩))
 (KB 2 K KN .normal ⟨(D:: .v (.one (.ptr 1 0))::D:: .v (.one (.ptr 3 0))::vi s.2.2.1::D::D::vi (List.getD [s.2.2.2.1,s.2.2.2.2.1] (0+((Int.toNat s.2.2.2.2.2)*1)) (0:Int))::D::D::D::D::D::D::D::D::D::D::D::D::D::D::D::D::D::D::D::D::D:: .v (.one (.sl 10 0 2 2))::vi (2:Int)::vi (ae (s.2.2.2.2.2+(1:Int)))::vb (decide (s.2.2.2.2.2<(2:Int))):: .v (.one (.jE 10 (0+((Int.toNat s.2.2.2.2.2)*1))))::vi (List.getD [s.2.2.2.1,s.2.2.2.2.1] (0+((Int.toNat s.2.2.2.2.2)*1)) (0:Int))::vi (List.getD [s.2.2.2.1,s.2.2.2.2.1] (0+((Int.toNat s.2.2.2.2.2)*1)) (0:Int))::vi s.2.2.1::vb (decide ((List.getD [s.2.2.2.1,s.2.2.2.2.1] (0+((Int.toNat s.2.2.2.2.2)*1)) (0:Int))>s.2.2.1))::vb false::aW::aW::aW::aW::vb false::D::D::D::D::D::D::D::D::D::D::D::D::D::vi (ae (s.2.2.2.2.2+(1:Int)))::D::D::D:: []),[.row (Ty.prod (Ty.prod cr cr) (Ty.prod yi (Ty.prod yi (Ty.sl yi)))) x 0,.cells [.full 0] 23,.row yi s.1 2,.cells [.full 2] 28,.gone,.cells [.full 0] 23,.loop g0 LoopState.busy Option.none,.de g1 7,.row yi s.2.1 0,.de g2 9,.cells [ci s.2.2.2.1,ci s.2.2.2.2.1] 3]⟩))))
 (KB 2 K KN (.exit 2) ⟨(D:: .v (.one (.ptr 1 0))::D:: .v (.one (.ptr 3 0))::vi s.2.2.1::D::D::D::D::D::D::D::D::D::D::D::D::D::D::D::D::D::D::D::D::D::D::D::D:: .v (.one (.sl 10 0 2 2))::vi (2:Int)::vi s.2.2.2.2.2::vb (decide (s.2.2.2.2.2<(2:Int)))::D::D::D::D::D::D::D::D::D::D::D::D::D::D::D::D::D::D::D::D::D::D::D::D::D::D::D::D:: []),[.row (Ty.prod (Ty.prod cr cr) (Ty.prod yi (Ty.prod yi (Ty.sl yi)))) x 0,.cells [.full 0] 23,.row yi s.1 2,.cells [.full 2] 28,.gone,.cells [.full 0] 23,.loop g0 LoopState.busy Option.none,.de g1 7,.row yi s.2.1 0,.de g2 9,.cells [ci s.2.2.2.1,ci s.2.2.2.2.1] 3]⟩)):=by kernel_rfl
theorem zv (x:(List ((I3×I3)×(Int×(Int×(List Int)))))) (g0:Loop) (g1:Env) (g2:Env):uX ⟨tt,cU,fh,[],[],((42,oJ tt cU fh (iF x) ((25,oJ tt cU fh (fun ys=> []) [] Try.f25):: []) Try.f42)::((25,oJ tt cU fh (fun ys=> []) [] Try.f25):: []))⟩ (.loop (cI (bt 2 (bG Try.f10)))) 2 (jc x g0 g1 g2):=fun st K hk=>Bj (fun s K KN hp hq=> .eq (zw x g0 g1 g2 s K KN) (have hp:=Eq.mp (cP.eq_1 x s) hp;have hq:=Eq.mp (congrArg (pL (ck x g0 g1 g2) (dS x g0 g1 g2) K KN) (bS.eq_1 x s)) hq;
 (LG (Q:=(pL (ck x g0 g1 g2) (dS x g0 g1 g2) K KN)) hq (fun c hq=>have hp:=(hp c);(lM (cj (decide_eq_true hp.1.1) (decide_eq_true hp.1.2)) (have hp:=hp.2;(lM (decide_eq_true hp.1) (have hp:=hp.2;(LG (Q:=(pL (ck x g0 g1 g2) (dS x g0 g1 g2) K KN)) hq (fun c hq=>have hp:=(hp c);(LG (Q:=(pL (ck x g0 g1 g2) (dS x g0 g1 g2) K KN)) hq (fun c hq=>have hp:=(hp c);(lM (cj (decide_eq_true hp.1.1) (decide_eq_true hp.1.2)) (have hp:=hp.2;(lM (decide_eq_true hp.1) (have hp:=hp.2;(lM (decide_eq_true hp.1) (have hp:=hp.2;(lM (cj (decide_eq_true hp.1.1) (decide_eq_true hp.1.2)) (have hp:=hp.2;(lM (decide_eq_true hp.1) (have hp:=hp.2;(lM (decide_eq_true hp.1) (have hp:=hp.2;(lM (cj (decide_eq_true hp.1.1) (decide_eq_true hp.1.2)) (have hp:=hp.2;(lM (decide_eq_true hp.1) (have hp:=hp.2;(lM (decide_eq_true hp) (And.intro trivial (Pb (Q:=(pL (ck x g0 g1 g2) (dS x g0 g1 g2) K KN)) hq fun y hq=>(Exists.intro (ck x g0 g1 g2 (y,(s.2.1,(s.2.2.1,(s.2.2.2.1,(s.2.2.2.2.1,(ae (s.2.2.2.2.2+(1:Int))))))))) (And.intro (qo (π:= [.same 0,.same 1,.same 2,.same 3,.same 4,.same 5,.same 6,.same 7,.same 8,.same 9,.same 10]) (And.intro rfl (And.intro rfl (And.intro rfl (And.intro rfl (And.intro rfl (And.intro rfl trivial)))))) (And.intro (aC rfl rfl) (And.intro (aC rfl rfl) (And.intro (aC rfl rfl) (And.intro (aC rfl rfl) (And.intro (aC rfl rfl) (And.intro (aC rfl rfl) (And.intro (aC rfl rfl) (And.intro (aC rfl rfl) (And.intro (aC rfl rfl) (And.intro (aC rfl rfl) trivial)))))))))) rfl) hq)))))))))))))))))))))) (fun c hq=>(Exists.intro (ck x g0 g1 g2 (s.1,(s.2.1,(s.2.2.1,(s.2.2.2.1,(s.2.2.2.2.1,(ae (s.2.2.2.2.2+(1:Int))))))))) (And.intro (qo (π:= [.same 0,.same 1,.same 2,.same 3,.same 4,.same 5,.same 6,.same 7,.same 8,.same 9,.same 10]) (And.intro rfl (And.intro rfl (And.intro rfl (And.intro rfl (And.intro rfl (And.intro rfl trivial)))))) (And.intro (aC rfl rfl) (And.intro (aC rfl rfl) (And.intro (aC rfl rfl) (And.intro (aC rfl rfl) (And.intro (aC rfl rfl) (And.intro (aC rfl rfl) (And.intro (aC rfl rfl) (And.intro (aC rfl rfl) (And.intro (aC rfl rfl) (And.intro (aC rfl rfl) trivial)))))))))) rfl) hq))))) (fun c hq=>(Exists.intro (ck x g0 g1 g2 (s.1,(s.2.1,(s.2.2.1,(s.2.2.2.1,(s.2.2.2.2.1,(ae (s.2.2.2.2.2+(1:Int))))))))) (And.intro (qo (π:= [.same 0,.same 1,.same 2,.same 3,.same 4,.same 5,.same 6,.same 7,.same 8,.same 9,.same 10]) (And.intro rfl (And.intro rfl (And.intro rfl (And.intro rfl (And.intro rfl (And.intro rfl trivial)))))) (And.intro (aC rfl rfl) (And.intro (aC rfl rfl) (And.intro (aC rfl rfl) (And.intro (aC rfl rfl) (And.intro (aC rfl rfl) (And.intro (aC rfl rfl) (And.intro (aC rfl rfl) (And.intro (aC rfl rfl) (And.intro (aC rfl rfl) (And.intro (aC rfl rfl) trivial)))))))))) rfl) hq))))))))) (fun c hq=>(Exists.intro ⟨(D::D::D::D::D::D::D::D::D::D::D::D::D::D::D::D::D::D::D::D::D::D::D::D::D::D::D::D::D::D::D::D::D::D::D::D::D::D::D::D::D::D::D::D::D::D::D::D::D::D::D::D::D::D::D::D::D::D::D::D::D:: []),[.row (Ty.prod (Ty.prod cr cr) (Ty.prod yi (Ty.prod yi (Ty.sl yi)))) x 0,.cells [.full 0] 23,.row yi s.1 2,.cells [.full 2] 28,.gone,.cells [.full 0] 23,.loop g0 LoopState.busy Option.none,.de g1 7,.row yi s.2.1 0,.de g2 9]⟩ (And.intro (qo (π:= [.same 0,.same 1,.same 2,.same 3,.same 4,.same 5,.same 6,.same 7,.same 8,.same 9]) trivial (And.intro (aC rfl rfl) (And.intro (aC rfl rfl) (And.intro (aC rfl rfl) (And.intro (aC rfl rfl) (And.intro (aC rfl rfl) (And.intro (aC rfl rfl) (And.intro (aC rfl rfl) (And.intro (aC rfl rfl) (And.intro (aC rfl rfl) trivial))))))))) rfl) hq)))))) st K hk
theorem xA (x:(List ((I3×I3)×(Int×(Int×(List Int)))))) (g0:Loop) (g1:Env) (t:Unit) (d:Nat->AV) (s:((List Int)×Int)) (K:Exit->AS->Prop) (KN:AS->Prop):dY ⟨tt,cU,fh,(iE x (VE 6 ((d 0):: .v (.one (.ptr 1 0))::(d 2):: .v (.one (.ptr 3 0))::(d 4)::(d 5)::(d 6)::(d 7)::(d 8)::(d 9)::(d 10)::(d 11)::(d 12)::(d 13)::(d 14)::(d 15)::(d 16)::(d 17)::(d 18)::(d 19)::(d 20)::(d 21)::(d 22)::(d 23)::(d 24)::(d 25)::(d 26)::(d 27)::(d 28)::(d 29)::(d 30)::(d 31)::(d 32)::(d 33)::(d 34)::(d 35)::(d 36)::(d 37)::(d 38)::(d 39)::(d 40)::(d 41)::(d 42)::(d 43)::(d 44)::(d 45)::(d 46)::(d 47)::(d 48)::(d 49)::(d 50)::(d 51)::(d 52)::(d 53)::(d 54)::(d 55)::(d 56)::(d 57)::(d 58)::(d 59)::(d 60):: []) g0 g1 [16,17] (o7 x) Try.f10)),(VE 6 ((d 0):: .v (.one (.ptr 1 0))::(d 2):: .v (.one (.ptr 3 0))::(d 4)::(d 5)::(d 6)::(d 7)::(d 8)::(d 9)::(d 10)::(d 11)::(d 12)::(d 13)::(d 14)::(d 15)::(d 16)::(d 17)::(d 18)::(d 19)::(d 20)::(d 21)::(d 22)::(d 23)::(d 24)::(d 25)::(d 26)::(d 27)::(d 28)::(d 29)::(d 30)::(d 31)::(d 32)::(d 33)::(d 34)::(d 35)::(d 36)::(d 37)::(d 38)::(d 39)::(d 40)::(d 41)::(d 42)::(d 43)::(d 44)::(d 45)::(d 46)::(d 47)::(d 48)::(d 49)::(d 50)::(d 51)::(d 52)::(d 53)::(d 54)::(d 55)::(d 56)::(d 57)::(d 58)::(d 59)::(d 60):: []) g0 g1 [16,17] (o7 x) Try.f10),((25,oJ tt cU fh (fun ys=> []) [] Try.f25):: [])⟩ (cI (bt 0 (bG Try.f42))) (bQ x g0 g1 s) (KB 0 K KN)=
 (cB (decide (s.2>=(0:Int)))
 (ob ((decide ((0:Int)<=s.2))&&(decide (s.2<(x.length:Int))))
 (ob (decide ((Int.toNat s.2)<(List.length x)))
 (ob (decide ((Int.toNat s.2)<(List.length x)))
 ((fh=fh)/\
 ((g1=g1)/\
 ((7=7)/\
 ((g0=g0)/\
 (∀aY:Env,
 ((aY=aY)/\
 ((9=9)/\
 ((g0=g0)/\
 (ob ((decide ((0:Int)<=s.2))&&(decide (s.2<(s.1.length:Int))))
 (ob (decide ((Int.toNat s.2)<(List.length s.1)))
 (ob (decide ((Int.toNat s.2)<(List.length s.1)))
 (True/\ ∀y:(List Int),y=(List.set s.1 (Int.toNat s.2) (1:Int))->
 ((Dr ((List.getD x (Int.toNat s.2) ((bp,bp),((0:Int),((0:Int),[])))),s.2))/\ ∀aq:Bool,aq=(iR ((List.getD x (Int.toNat s.2) ((bp,bp),((0:Int),((0:Int),[])))),s.2))->
 (cB aq
 ((g0=g0)/\
 ((aY=aY)/\
 ((9=9)/\
 (KB 0 K KN .normal ⟨[.v (.one (.zJ 6)),.v (.one (.ptr 5 0)),D,vi (ae (s.2- (1:Int))),D,D,D,vi s.2,vb (decide (s.2>=(0:Int))),vi s.2,vi (ae (s.2- (1:Int))),.v (.one (.zJ 6)),vi s.2,.v (.one (.full 0)),vi s.2,.v (.one (.cx 0 (Int.toNat s.2) 0)),.v (.agg [ci (List.getD x (Int.toNat s.2) ((bp,bp),((0:Int),((0:Int),[])))).1.1.1,ci (List.getD x (Int.toNat s.2) ((bp,bp),((0:Int),((0:Int),[])))).1.1.2.1,ci (List.getD x (Int.toNat s.2) ((bp,bp),((0:Int),((0:Int),[])))).1.1.2.2,ci (List.getD x (Int.toNat s.2) ((bp,bp),((0:Int),((0:Int),[])))).1.2.1,ci (List.getD x (Int.toNat s.2) ((bp,bp),((0:Int),((0:Int),[])))).1.2.2.1,ci (List.getD x (Int.toNat s.2) ((bp,bp),((0:Int),((0:Int),[])))).1.2.2.2,ci (List.getD x (Int.toNat s.2) ((bp,bp),((0:Int),((0:Int),[])))).2.1,ci (List.getD x (Int.toNat s.2) ((bp,bp),((0:Int),((0:Int),[])))).2.2.1,.full 8]),vb true,vb false],[.row (Ty.prod (Ty.prod cr cr) (Ty.prod yi (Ty.prod yi (Ty.sl yi)))) x 0,.cells [.full 0] 23,.row yi y 2,.cells [.full 2] 28,.gone,.cells [.full 0] 23,.loop g0 LoopState.ready Option.none,.de g1 7,.row yi (List.getD x (Int.toNat s.2) ((bp,bp),((0:Int),((0:Int),[])))).2.2.2 0,.gone,.cells [ci (List.getD x (Int.toNat s.2) ((bp,bp),((0:Int),((0:Int),[])))).1.1.1,ci (List.getD x (Int.toNat s.2) ((bp,bp),((0:Int),((0:Int),[])))).1.1.2.1,ci (List.getD x (Int.toNat s.2) ((bp,bp),((0:Int),((0:Int),[])))).1.1.2.2,ci (List.getD x (Int.toNat s.2) ((bp,bp),((0:Int),((0:Int),[])))).1.2.1,ci (List.getD x (Int.toNat s.2) ((bp,bp),((0:Int),((0:Int),[])))).1.2.2.1,ci (List.getD x (Int.toNat s.2) ((bp,bp),((0:Int),((0:Int),[])))).1.2.2.2,ci (List.getD x (Int.toNat s.2) ((bp,bp),((0:Int),((0:Int),[])))).2.1,ci (List.getD x (Int.toNat s.2) ((bp,bp),((0:Int),((0:Int),[])))).2.2.1,.full 8] 34]⟩))))
 (Exists fun s0:((List Int)×((List Int)×(Int×I3)))=>s8 ⟨((d 0):: .v (.one (.ptr 1 0))::(d 2):: .v (.one (.ptr 3 0))::vi s.2:: .v (.one (.ptr 10 0))::(d 6)::(d 7)::(d 8)::(d 9)::(d 10)::(d 11)::(d 12)::(d 13)::(d 14)::(d 15)::vi s.2:: .v (.agg [ci (List.getD x (Int.toNat s.2) ((bp,bp),((0:Int),((0:Int),[])))).1.1.1,ci (List.getD x (Int.toNat s.2) ((bp,bp),((0:Int),((0:Int),[])))).1.1.2.1,ci (List.getD x (Int.toNat s.2) ((bp,bp),((0:Int),((0:Int),[])))).1.1.2.2,ci (List.getD x (Int.toNat s.2) ((bp,bp),((0:Int),((0:Int),[])))).1.2.1,ci (List.getD x (Int.toNat s.2) ((bp,bp),((0:Int),((0:Int),[])))).1.2.2.1,ci (List.getD x (Int.toNat s.2) ((bp,bp),((0:Int),((0:Int),[])))).1.2.2.2,ci (List.getD x (Int.toNat s.2) ((bp,bp),((0:Int),((0:Int),[])))).2.1,ci (List.getD x (Int.toNat s.2) ((bp,bp),((0:Int),((0:Int),[])))).2.2.1,.full 8]):: .v (.one (.full 2))::vi s.2:: .v (.one (.cx 2 (Int.toNat s.2) 0)):: .v (.agg [ci (List.getD x (Int.toNat s.2) ((bp,bp),((0:Int),((0:Int),[])))).1.1.1,ci (List.getD x (Int.toNat s.2) ((bp,bp),((0:Int),((0:Int),[])))).1.1.2.1,ci (List.getD x (Int.toNat s.2) ((bp,bp),((0:Int),((0:Int),[])))).1.1.2.2,ci (List.getD x (Int.toNat s.2) ((bp,bp),((0:Int),((0:Int),[])))).1.2.1,ci (List.getD x (Int.toNat s.2) ((bp,bp),((0:Int),((0:Int),[])))).1.2.2.1,ci (List.getD x (Int.toNat s.2) ((bp,bp),((0:Int),((0:Int),[])))).1.2.2.2,ci (List.getD x (Int.toNat s.2) ((bp,bp),((0:Int),((0:Int),[])))).2.1,ci (List.getD x (Int.toNat s.2) ((bp,bp),((0:Int),((0:Int),[])))).2.2.1,.full 8])::vi s.2:: .v (.agg [ci (List.getD x (Int.toNat s.2) ((bp,bp),((0:Int),((0:Int),[])))).1.1.1,ci (List.getD x (Int.toNat s.2) ((bp,bp),((0:Int),((0:Int),[])))).1.1.2.1,ci (List.getD x (Int.toNat s.2) ((bp,bp),((0:Int),((0:Int),[])))).1.1.2.2,ci (List.getD x (Int.toNat s.2) ((bp,bp),((0:Int),((0:Int),[])))).1.2.1,ci (List.getD x (Int.toNat s.2) ((bp,bp),((0:Int),((0:Int),[])))).1.2.2.1,ci (List.getD x (Int.toNat s.2) ((bp,bp),((0:Int),((0:Int),[])))).1.2.2.2,ci (List.getD x (Int.toNat s.2) ((bp,bp),((0:Int),((0:Int),[])))).2.1,ci (List.getD x (Int.toNat s.2) ((bp,bp),((0:Int),((0:Int),[])))).2.2.1,.full 8,ci s.2])::vb aq:: .v (.one (.ptr 10 6))::vi (List.getD x (Int.toNat s.2) ((bp,bp),((0:Int),((0:Int),[])))).2.1:: .v (.one (.ptr 10 7))::vi (List.getD x (Int.toNat s.2) ((bp,bp),((0:Int),((0:Int),[])))).2.2.1:: .v (.one (.sl 11 0 2 2))::vi (2:Int)::vi (0:Int)::(d 32)::(d 33)::(d 34)::(d 35)::(d 36)::(d 37)::(d 38)::(d 39)::(d 40)::(d 41)::(d 42)::(d 43)::(d 44)::(d 45)::(d 46)::(d 47)::(d 48)::(d 49)::(d 50)::(d 51)::(d 52)::(d 53)::(d 54)::(d 55)::(d 56)::(d 57)::(d 58)::(d 59)::(d 60):: []),[.row (Ty.prod (Ty.prod cr cr) (Ty.prod yi (Ty.prod yi (Ty.sl yi)))) x 0,.cells [.full 0] 23,.row yi y 2,.cells [.full 2] 28,.gone,.cells [.full 0] 23,.loop g0 LoopState.busy Option.none,.de g1 7,.row yi (List.getD x (Int.toNat s.2) ((bp,bp),((0:Int),((0:Int),[])))).2.2.2 0,.de aY 9,.cells [ci (List.getD x (Int.toNat s.2) ((bp,bp),((0:Int),((0:Int),[])))).1.1.1,ci (List.getD x (Int.toNat s.2) ((bp,bp),((0:Int),((0:Int),[])))).1.1.2.1,ci (List.getD x (Int.toNat s.2) ((bp,bp),((0:Int),((0:Int),[])))).1.1.2.2,ci (List.getD x (Int.toNat s.2) ((bp,bp),((0:Int),((0:Int),[])))).1.2.1,ci (List.getD x (Int.toNat s.2) ((bp,bp),((0:Int),((0:Int),[])))).1.2.2.1,ci (List.getD x (Int.toNat s.2) ((bp,bp),((0:Int),((0:Int),[])))).1.2.2.2,ci (List.getD x (Int.toNat s.2) ((bp,bp),((0:Int),((0:Int),[])))).2.1,ci (List.getD x (Int.toNat s.2) ((bp,bp),((0:Int),((0:Int),[])))).2.2.1,.full 8] 34,.cells [ci (List.getD x (Int.toNat s.2) ((bp,bp),((0:Int),((0:Int),[])))).2.1,ci (List.getD x (Int.toNat s.2) ((bp,bp),((0:Int),((0:Int),[])))).2.2.1] 3]⟩ (ck x g0 g1 aY s0)/\ Term (bS x) (cP x) s0/\ ∀r:((List Int)×(List Int)),r=run (bS x) s0->
 ((g0=g0)/\
 ((aY=aY)/\
 ((9=9)/\
 (KB 0 K KN .normal ⟨[.v (.one (.zJ 6)),.v (.one (.ptr 5 0)),D,vi (ae (s.2- (1:Int))),D,D,D,vi s.2,vb (decide (s.2>=(0:Int))),vi s.2,vi (ae (s.2- (1:Int))),.v (.one (.zJ 6)),vi s.2,.v (.one (.full 0)),vi s.2,.v (.one (.cx 0 (Int.toNat s.2) 0)),.v (.agg [ci (List.getD x (Int.toNat s.2) ((bp,bp),((0:Int),((0:Int),[])))).1.1.1,ci (List.getD x (Int.toNat s.2) ((bp,bp),((0:Int),((0:Int),[])))).1.1.2.1,ci (List.getD x (Int.toNat s.2) ((bp,bp),((0:Int),((0:Int),[])))).1.1.2.2,ci (List.getD x (Int.toNat s.2) ((bp,bp),((0:Int),((0:Int),[])))).1.2.1,ci (List.getD x (Int.toNat s.2) ((bp,bp),((0:Int),((0:Int),[])))).1.2.2.1,ci (List.getD x (Int.toNat s.2) ((bp,bp),((0:Int),((0:Int),[])))).1.2.2.2,ci (List.getD x (Int.toNat s.2) ((bp,bp),((0:Int),((0:Int),[])))).2.1,ci (List.getD x (Int.toNat s.2) ((bp,bp),((0:Int),((0:Int),[])))).2.2.1,.full 8]),vb true,vb false],[.row (Ty.prod (Ty.prod cr cr) (Ty.prod yi (Ty.prod yi (Ty.sl yi)))) x 0,.cells [.full 0] 23,.row yi r.1 2,.cells [.full 2] 28,.gone,.cells [.full 0] 23,.loop g0 LoopState.ready Option.none,.de g1 7,.row yi r.2 0,.gone]⟩))))))))))))))))))))))
 (KB 0 K KN (.exit 0) ⟨[.v (.one (.zJ 6)),.v (.one (.ptr 5 0)),D,vi s.2,D,D,D,vi s.2,vb (decide (s.2>=(0:Int))),D,D,D,D,D,D,D,D,D,D],[.row (Ty.prod (Ty.prod cr cr) (Ty.prod yi (Ty.prod yi (Ty.sl yi)))) x 0,.cells [.full 0] 23,.row yi s.1 2,.cells [.full 2] 28,.gone,.cells [.full 0] 23,.loop g0 LoopState.ready Option.none,.de g1 7]⟩)):=by kernel_rfl
theorem xy (x:(List ((I3×I3)×(Int×(Int×(List Int)))))) (g0:Loop) (g1:Env) (t:Unit) (d:Nat->AV):EA ⟨tt,cU,fh,(iE x (VE 6 ((d 0):: .v (.one (.ptr 1 0))::(d 2):: .v (.one (.ptr 3 0))::(d 4)::(d 5)::(d 6)::(d 7)::(d 8)::(d 9)::(d 10)::(d 11)::(d 12)::(d 13)::(d 14)::(d 15)::(d 16)::(d 17)::(d 18)::(d 19)::(d 20)::(d 21)::(d 22)::(d 23)::(d 24)::(d 25)::(d 26)::(d 27)::(d 28)::(d 29)::(d 30)::(d 31)::(d 32)::(d 33)::(d 34)::(d 35)::(d 36)::(d 37)::(d 38)::(d 39)::(d 40)::(d 41)::(d 42)::(d 43)::(d 44)::(d 45)::(d 46)::(d 47)::(d 48)::(d 49)::(d 50)::(d 51)::(d 52)::(d 53)::(d 54)::(d 55)::(d 56)::(d 57)::(d 58)::(d 59)::(d 60):: []) g0 g1 [16,17] (o7 x) Try.f10)),(VE 6 ((d 0):: .v (.one (.ptr 1 0))::(d 2):: .v (.one (.ptr 3 0))::(d 4)::(d 5)::(d 6)::(d 7)::(d 8)::(d 9)::(d 10)::(d 11)::(d 12)::(d 13)::(d 14)::(d 15)::(d 16)::(d 17)::(d 18)::(d 19)::(d 20)::(d 21)::(d 22)::(d 23)::(d 24)::(d 25)::(d 26)::(d 27)::(d 28)::(d 29)::(d 30)::(d 31)::(d 32)::(d 33)::(d 34)::(d 35)::(d 36)::(d 37)::(d 38)::(d 39)::(d 40)::(d 41)::(d 42)::(d 43)::(d 44)::(d 45)::(d 46)::(d 47)::(d 48)::(d 49)::(d 50)::(d 51)::(d 52)::(d 53)::(d 54)::(d 55)::(d 56)::(d 57)::(d 58)::(d 59)::(d 60):: []) g0 g1 [16,17] (o7 x) Try.f10),((25,oJ tt cU fh (fun ys=> []) [] Try.f25):: [])⟩ (.loop (cI (bt 0 (bG Try.f42)))) 0 (kA x g0 g1 t):=uX.TF fun st K hk=>Bj (fun s K KN hp hq=> .eq (xA x g0 g1 t d s K KN) (have hp:=Eq.mp (cE.eq_1 x t s) hp;have hq:=Eq.mp (congrArg (pL (bQ x g0 g1) (cY x g0 g1) K KN) (bH.eq_1 x t s)) hq;
 (LG (Q:=(pL (bQ x g0 g1) (cY x g0 g1) K KN)) hq (fun c hq=>have hp:=(hp c);(lM (cj (decide_eq_true hp.1.1) (decide_eq_true hp.1.2)) (have hp:=hp.2;(lM (decide_eq_true hp.1) (have hp:=hp.2;(lM (decide_eq_true hp.1) (have hp:=hp.2;(And.intro rfl (And.intro rfl (And.intro rfl (And.intro rfl (fun aY=>(And.intro rfl (And.intro rfl (And.intro rfl (lM (cj (decide_eq_true hp.1.1) (decide_eq_true hp.1.2)) (have hp:=hp.2;(lM (decide_eq_true hp.1) (have hp:=hp.2;(lM (decide_eq_true hp.1) (have hp:=hp.2;(And.intro trivial (tH (Q:=(pL (bQ x g0 g1) (cY x g0 g1) K KN)) hp hq fun y hp hq=>(And.intro trivial (tH (Q:=(pL (bQ x g0 g1) (cY x g0 g1) K KN)) hp hq fun aq hp hq=>(NR (Q:=(pL (bQ x g0 g1) (cY x g0 g1) K KN)) hq (fun c hq=>(And.intro rfl (And.intro rfl (And.intro rfl (Exists.intro (bQ x g0 g1 (y,(ae (s.2- (1:Int))))) (And.intro (qo (π:= [.same 0,.same 1,.same 2,.same 3,.same 4,.same 5,.same 6,.same 7]) (And.intro rfl (And.intro rfl (And.intro rfl trivial))) (And.intro (aC rfl rfl) (And.intro (aC rfl rfl) (And.intro (aC rfl rfl) (And.intro (aC rfl rfl) (And.intro (aC rfl rfl) (And.intro (aC rfl rfl) (And.intro (aC rfl rfl) trivial))))))) rfl) hq)))))) (fun c hq=>have hp:=(hp c);(Exists.intro (y,((List.getD x (Int.toNat s.2) ((((0:Int),((0:Int),(0:Int))),((0:Int),((0:Int),(0:Int)))),((0:Int),((0:Int),[])))).2.2.2,(s.2,((List.getD x (Int.toNat s.2) ((((0:Int),((0:Int),(0:Int))),((0:Int),((0:Int),(0:Int)))),((0:Int),((0:Int),[])))).2.1,((List.getD x (Int.toNat s.2) ((((0:Int),((0:Int),(0:Int))),((0:Int),((0:Int),(0:Int)))),((0:Int),((0:Int),[])))).2.2.1,(0:Int)))))) (And.intro (qo (π:= [.same 0,.same 1,.same 2,.same 3,.same 4,.same 5,.same 6,.same 7,.same 8,.same 9,.same 11]) (And.intro rfl (And.intro rfl (And.intro rfl (And.intro rfl (And.intro rfl (And.intro rfl trivial)))))) (And.intro (aC rfl rfl) (And.intro (aC rfl rfl) (And.intro (aC rfl rfl) (And.intro (aC rfl rfl) (And.intro (aC rfl rfl) (And.intro (aC rfl rfl) (And.intro (aC rfl rfl) (And.intro (aC rfl rfl) (And.intro (aC rfl rfl) (And.intro (aC rfl rfl) trivial)))))))))) rfl) (And.intro hp (Pb (Q:=(pL (bQ x g0 g1) (cY x g0 g1) K KN)) hq fun r hq=>(And.intro rfl (And.intro rfl (And.intro rfl (Exists.intro (bQ x g0 g1 (r.1,(ae (s.2- (1:Int))))) (And.intro (qo (π:= [.same 0,.same 1,.same 2,.same 3,.same 4,.same 5,.same 6,.same 7]) (And.intro rfl (And.intro rfl (And.intro rfl trivial))) (And.intro (aC rfl rfl) (And.intro (aC rfl rfl) (And.intro (aC rfl rfl) (And.intro (aC rfl rfl) (And.intro (aC rfl rfl) (And.intro (aC rfl rfl) (And.intro (aC rfl rfl) trivial))))))) rfl) hq)))))))))))))))))))))))))))))))))))) (fun c hq=>(Exists.intro ⟨[D,D,D,D,D,D,D,D,D,D,D,D,D,D,D,D,D,D,D],[.row (Ty.prod (Ty.prod cr cr) (Ty.prod yi (Ty.prod yi (Ty.sl yi)))) x 0,.cells [.full 0] 23,.row yi s.1 2,.cells [.full 2] 28,.gone,.cells [.full 0] 23,.loop g0 LoopState.ready Option.none,.de g1 7]⟩ (And.intro (qo (π:= [.same 0,.same 1,.same 2,.same 3,.same 4,.same 5,.same 6,.same 7]) trivial (And.intro (aC rfl rfl) (And.intro (aC rfl rfl) (And.intro (aC rfl rfl) (And.intro (aC rfl rfl) (And.intro (aC rfl rfl) (And.intro (aC rfl rfl) (And.intro (aC rfl rfl) trivial))))))) rfl) hq)))))) st K hk
theorem zx (x:(List ((I3×I3)×(Int×(Int×(List Int)))))): ∀ys,s9 Try.prog ys->aB Try.prog fh (bG Try.f42) (iE x ys):=fun ys hy=>aB.nil
theorem qF (x:(List ((I3×I3)×(Int×(Int×(List Int)))))): ∀ys,s9 Try.prog ys->aB Try.prog fh (bG Try.f42) (iF x ys):=fun ys hy=>aB.SU aQ ⟨fC,hy,(aD.cons (iS.of (fn:=Try.f25) (by kernel_rfl) (by kernel_rfl) (by kernel_rfl)) (iA.fn aQ fC mixed (fn:=Try.f25) (by kernel_rfl) (by kernel_rfl) (aD.nil _ _) (fun ys hy=>aB.nil)) (aD.nil _ _))⟩ mixed (zx x ys hy) (by kernel_rfl) (by kernel_rfl) (uX.cons (uX.pR fun g0=>uX.oW fun g1=>uX.cert) uX.nil)
def pW (x:(List ((I3×I3)×(Int×(Int×(List Int)))))):Int:=
 (if (((x.length:Int)==(0:Int))=true) then
 (0:Int) else
 (ai (run (bH x ()) ((List.replicate (List.length x) (0:Int)),(ae ((x.length:Int)- (1:Int))))) fun r_1=>
 (List.getD r_1 0 (0:Int))))
def jk (x:(List ((I3×I3)×(Int×(Int×(List Int)))))):Prop:=
 (¬(((x.length:Int)==(0:Int))=true)->
 ((((x.length:Int)<=(x.length:Int))/\ ((List.length x)<1099511627776))/\
 (Term (bH x ()) (cE x ()) ((List.replicate (List.length x) (0:Int)),(ae ((x.length:Int)- (1:Int))))/\
 ay (run (bH x ()) ((List.replicate (List.length x) (0:Int)),(ae ((x.length:Int)- (1:Int))))) fun r_1=>
 (((0:Int)<(r_1.length:Int))/\
 ((0<(List.length r_1))/\
 (0<(List.length r_1)))))))
theorem LW (x:(List ((I3×I3)×(Int×(Int×(List Int)))))) (Q:Int->Prop):ET ⟨tt,cU,fh,((2,FP [(10,pR 6 fun g0=>oW 7 fun g1=>oW 9 fun g2=>jc x g0 g1 g2)]):: []),[],((42,oJ tt cU fh (iF x) ((25,oJ tt cU fh (fun ys=> []) [] Try.f25):: []) Try.f42)::((25,oJ tt cU fh (fun ys=> []) [] Try.f25):: []))⟩ Try.f10 (fH (.one (Ty.sl (Ty.prod (Ty.prod cr cr) (Ty.prod yi (Ty.prod yi (Ty.sl yi)))))) x) (fW (.one (Ty.sl (Ty.prod (Ty.prod cr cr) (Ty.prod yi (Ty.prod yi (Ty.sl yi)))))) x) (JN (.one yi) Q)=
 (cB ((x.length:Int)==(0:Int))
 (Q (0:Int))
 (ob (((decide ((0:Int)<=(x.length:Int)))&&(decide ((x.length:Int)<=(x.length:Int))))&&(decide ((List.length x)<1099511627776)))
 (∀aY:Env,
 ((aY=aY)/\
 ((4=4)/\
 (∀r:Loop,
 (∀dH:Env,
 (Exists fun tq:Unit×(Nat->AV)=>EA ⟨tt,cU,fh,(iE x (VE 6 (.v (.one (.full 0)):: .v (.one (.ptr 1 0))::vi (0:Int):: .v (.one (.ptr 3 0))::aW::aW::aW::aW:: .v (.one (.full 0))::vi (x.length:Int)::vb ((x.length:Int)==(0:Int)):: .v (.one (.full 0))::vi (x.length:Int):: .v (.one (.full 2)):: .v (.one (.full 0)):: .v (.one (.kq (Fn.func 42) [] [(Ref.loc 5 0)]))::aW::aW::aW::aW::aW::aW::aW::aW::aW::aW::aW::aW::aW::aW::aW::aW::aW::aW::aW::aW::aW::aW::aW::aW::aW::aW::aW::aW::aW::aW::aW::aW::aW::aW::aW::aW::aW::aW::aW::aW::aW::aW::aW::aW::aW:: []) r dH [16,17] (o7 x) Try.f10)),(VE 6 (.v (.one (.full 0)):: .v (.one (.ptr 1 0))::vi (0:Int):: .v (.one (.ptr 3 0))::aW::aW::aW::aW:: .v (.one (.full 0))::vi (x.length:Int)::vb ((x.length:Int)==(0:Int)):: .v (.one (.full 0))::vi (x.length:Int):: .v (.one (.full 2)):: .v (.one (.full 0)):: .v (.one (.kq (Fn.func 42) [] [(Ref.loc 5 0)]))::aW::aW::aW::aW::aW::aW::aW::aW::aW::aW::aW::aW::aW::aW::aW::aW::aW::aW::aW::aW::aW::aW::aW::aW::aW::aW::aW::aW::aW::aW::aW::aW::aW::aW::aW::aW::aW::aW::aW::aW::aW::aW::aW::aW::aW:: []) r dH [16,17] (o7 x) Try.f10),((25,oJ tt cU fh (fun ys=> []) [] Try.f25):: [])⟩ (.loop (cI (bt 0 (bG Try.f42)))) 0 (kA x r dH tq.1)/\ (Exists fun s0:((List Int)×Int)=>s8 ⟨[.v (.one (.zJ 6)),.v (.one (.ptr 5 0)),aW,vi (ae ((x.length:Int)- (1:Int))),.v (.one (.full 0)),vi (x.length:Int),vi (ae ((x.length:Int)- (1:Int))),aW,aW,aW,aW,aW,aW,aW,aW,aW,aW,aW,aW],[.row (Ty.prod (Ty.prod cr cr) (Ty.prod yi (Ty.prod yi (Ty.sl yi)))) x 0,.cells [.full 0] 23,.row yi (List.replicate (List.length x) (0:Int)) 2,.cells [.full 2] 28,.gone,.cells [.full 0] 23,.loop r LoopState.ready Option.none,.de dH 7]⟩ (bQ x r dH s0)/\ Term (bH x tq.1) (cE x tq.1) s0/\ ∀r_1:(List Int),r_1=run (bH x tq.1) s0->
 ((dH=dH)/\
 ((7=7)/\
 (ob (true&&(decide ((0:Int)<(r_1.length:Int))))
 (ob (decide (0<(List.length r_1)))
 (ob (decide (0<(List.length r_1)))
 (Q (List.getD r_1 0 (0:Int))))))))))))))))):=by kernel_rfl
theorem LU (x:(List ((I3×I3)×(Int×(Int×(List Int)))))) (Q:Int->Prop) (hp:jk x) (hq:Q (pW x)):Vc (ET ⟨tt,cU,fh,((2,FP [(10,pR 6 fun g0=>oW 7 fun g1=>oW 9 fun g2=>jc x g0 g1 g2)]):: []),[],((42,oJ tt cU fh (iF x) ((25,oJ tt cU fh (fun ys=> []) [] Try.f25):: []) Try.f42)::((25,oJ tt cU fh (fun ys=> []) [] Try.f25):: []))⟩ Try.f10 (fH (.one (Ty.sl (Ty.prod (Ty.prod cr cr) (Ty.prod yi (Ty.prod yi (Ty.sl yi)))))) x) (fW (.one (Ty.sl (Ty.prod (Ty.prod cr cr) (Ty.prod yi (Ty.prod yi (Ty.sl yi)))))) x) (JN (.one yi) Q)):= .eq (LW x Q) (have hp:=Eq.mp (jk.eq_1 x) hp;have hq:=Eq.mp (congrArg Q (pW.eq_1 x)) hq;
 (NR (Q:=Q) hq (fun c hq=>hq) (fun c hq=>have hp:=(hp c);(lM (cj (cj rfl (decide_eq_true hp.1.1)) (decide_eq_true hp.1.2)) (have hp:=hp.2;(fun aY=>(And.intro rfl (And.intro rfl (fun r=>(fun dH=>(Exists.intro ((),(dK (.v (.one (.full 0)):: .v (.one (.ptr 1 0))::vi (0:Int):: .v (.one (.ptr 3 0))::aW::aW::aW::aW:: .v (.one (.full 0))::vi (x.length:Int)::vb ((x.length:Int)==(0:Int)):: .v (.one (.full 0))::vi (x.length:Int):: .v (.one (.full 2)):: .v (.one (.full 0)):: .v (.one (.kq (Fn.func 42) [] [(Ref.loc 5 0)]))::aW::aW::aW::aW::aW::aW::aW::aW::aW::aW::aW::aW::aW::aW::aW::aW::aW::aW::aW::aW::aW::aW::aW::aW::aW::aW::aW::aW::aW::aW::aW::aW::aW::aW::aW::aW::aW::aW::aW::aW::aW::aW::aW::aW::aW:: []))) (And.intro (xy x r dH () (dK (.v (.one (.full 0)):: .v (.one (.ptr 1 0))::vi (0:Int):: .v (.one (.ptr 3 0))::aW::aW::aW::aW:: .v (.one (.full 0))::vi (x.length:Int)::vb ((x.length:Int)==(0:Int)):: .v (.one (.full 0))::vi (x.length:Int):: .v (.one (.full 2)):: .v (.one (.full 0)):: .v (.one (.kq (Fn.func 42) [] [(Ref.loc 5 0)]))::aW::aW::aW::aW::aW::aW::aW::aW::aW::aW::aW::aW::aW::aW::aW::aW::aW::aW::aW::aW::aW::aW::aW::aW::aW::aW::aW::aW::aW::aW::aW::aW::aW::aW::aW::aW::aW::aW::aW::aW::aW::aW::aW::aW::aW:: []))) (Exists.intro ((List.replicate (List.length x) (0:Int)),(ae ((x.length:Int)- (1:Int)))) (And.intro (qo (π:= [.same 0,.same 1,.same 2,.same 3,.same 4,.same 5,.same 6,.same 7]) (And.intro rfl (And.intro rfl (And.intro rfl trivial))) (And.intro (aC rfl rfl) (And.intro (aC rfl rfl) (And.intro (aC rfl rfl) (And.intro (aC rfl rfl) (And.intro (aC rfl rfl) (And.intro (aC rfl rfl) (And.intro (aC rfl rfl) trivial))))))) rfl) (And.intro hp.1 (tH (Q:=Q) hp.2 hq fun r_1 hp hq=>(And.intro rfl (And.intro rfl (lM (cj rfl (decide_eq_true hp.1)) (have hp:=hp.2;(lM (decide_eq_true hp.1) (have hp:=hp.2;(lM (decide_eq_true hp) hq)))))))))))))))))))))))
abbrev AA:jh:=⟨(.one (Ty.sl (Ty.prod (Ty.prod cr cr) (Ty.prod yi (Ty.prod yi (Ty.sl yi)))))),(.one yi),jk,pW⟩
theorem LV:av Try.prog 10 (aH AA):=av.X6 (fn:=Try.f10) aQ fC mixed (by kernel_rfl) (by kernel_rfl) (.one (Ty.sl (Ty.prod (Ty.prod cr cr) (Ty.prod yi (Ty.prod yi (Ty.sl yi)))))) (.one yi) jk pW (by kernel_rfl) fun x hp=>⟨_,_,(aD.cons (iS.of (fn:=Try.f42) (by kernel_rfl) (by kernel_rfl) (by kernel_rfl)) (iA.fn aQ fC mixed (fn:=Try.f42) (by kernel_rfl) (by kernel_rfl) (aD.cons (iS.of (fn:=Try.f25) (by kernel_rfl) (by kernel_rfl) (by kernel_rfl)) (iA.fn aQ fC mixed (fn:=Try.f25) (by kernel_rfl) (by kernel_rfl) (aD.nil _ _) (fun ys hy=>aB.nil)) (aD.nil _ _)) (qF x)) (aD.cons (iS.of (fn:=Try.f25) (by kernel_rfl) (by kernel_rfl) (by kernel_rfl)) (iA.fn aQ fC mixed (fn:=Try.f25) (by kernel_rfl) (by kernel_rfl) (aD.nil _ _) (fun ys hy=>aB.nil)) (aD.nil _ _))),(aB.SU aQ (ah.fe fC (aD.cons (iS.of (fn:=Try.f42) (by kernel_rfl) (by kernel_rfl) (by kernel_rfl)) (iA.fn aQ fC mixed (fn:=Try.f42) (by kernel_rfl) (by kernel_rfl) (aD.cons (iS.of (fn:=Try.f25) (by kernel_rfl) (by kernel_rfl) (by kernel_rfl)) (iA.fn aQ fC mixed (fn:=Try.f25) (by kernel_rfl) (by kernel_rfl) (aD.nil _ _) (fun ys hy=>aB.nil)) (aD.nil _ _)) (qF x)) (aD.cons (iS.of (fn:=Try.f25) (by kernel_rfl) (by kernel_rfl) (by kernel_rfl)) (iA.fn aQ fC mixed (fn:=Try.f25) (by kernel_rfl) (by kernel_rfl) (aD.nil _ _) (fun ys hy=>aB.nil)) (aD.nil _ _)))) mixed aB.nil (by kernel_rfl) (by kernel_rfl) (uX.cons (uX.pR fun g0=>uX.oW fun g1=>uX.oW fun g2=>zv x g0 g1 g2) uX.nil)),LU x (fun y=>y=pW x) hp rfl⟩
def D9:List (Nat×Ev.Spec):=(10,aH AA)::cU
theorem qv:ah Try.prog D9:=ah.add (fn:=Try.f10) (by kernel_rfl) LV fC
end Go.Proofs.Ytaipcbdilkcdbaa
