/- Models of functions of layer 10: two triangles. -/
import Derived.Test.YtbjfokijjefoeaaGreatFd
noncomputable section
set_option linter.unusedSectionVars false
set_option linter.unusedVariables false
set_option linter.unusedSimpArgs false
namespace Go.Proofs.YtbjfokijjefoeaaGreat
open Go Go.Ev Go.Proofs
def KH:afc Tryz.prog:=⟨_,(av.walk ay bJ mixed 137 (fn:=Tryz.f137) (by kernel_rfl) (av.nil _ _) fun ys hy=>au.nil)⟩
def xw:afc Tryz.prog:=⟨_,(av.walk ay bJ mixed 142 (fn:=Tryz.f142) (by kernel_rfl) KH.ok fun ys hy=>(au.x9 ay ⟨bJ,hy,KH.ok⟩ mixed 0 4 au.nil (by kernel_rfl)))⟩
def AY (x:(I6×Int×List I2)):aB:=⟨[.lo,.env,.env],⟨bB 30 0 [(4,.v (.one (.ptr 2 0))),(6,.v (.one (.ptr 4 0))),(7,.v (.one (.mB 144 0 [.loc 10 0,.loc 11 0,.loc 9 0]))),(8,.v (.one (.b))),(14,.v (.one (.full 0))),(15,.v (.one (.i .i64))),(16,.v (.one (.i .i64)))],[.row aS 0,.cells [.i .i64,.i .i64,.i .i64,.i .i64,.i .i64,.i .i64] 38,.cells [.i .i64] 3,.cells [.full 0] 55,.cells [.b] 4,.gone,.cells [.i .i64,.i .i64,.i .i64,.i .i64,.i .i64,.i .i64] 38,.loop true,.gU 8,.cells [.i .i64] 3,.cells [.i .i64,.i .i64] 37,.cells [.i .i64,.i .i64] 37,.gU 12],13,none,[18,19,25],[1,3,4,5,6,7,8,9,10,11,12,13,14,15,16,17,21,22,23,24],[20,0,2],[.i,.b,.i],[.i (x.2.2.length:Int),.l aS x.2.2,.i x.1.1.1,.i x.1.1.2,.i x.1.2.1.1,.i x.1.2.1.2,.i x.1.2.2.1,.i x.1.2.2.2,.i x.2.1,.b false,.i x.1.1.1,.i x.1.1.2,.i x.1.2.1.1,.i x.1.2.1.2,.i x.1.2.2.1,.i x.1.2.2.2,.i x.1.1.1,.i x.1.1.2,.i x.1.2.1.1,.i x.1.2.1.2]⟩,[⟨(.exit 2),.normal,⟨bB 30 0 [(6,.v (.one (.ptr 4 0))),(8,.v (.one (.b)))],[.row aS 0,.cells [.i .i64,.i .i64,.i .i64,.i .i64,.i .i64,.i .i64] 38,.cells [.i .i64] 3,.cells [.full 0] 55,.cells [.b] 4,.gone,.cells [.i .i64,.i .i64,.i .i64,.i .i64,.i .i64,.i .i64] 38,.loop true,.gU 8,.cells [.i .i64] 3,.cells [.i .i64,.i .i64] 37,.cells [.i .i64,.i .i64] 37,.gU 12],13,none,[16,17,23],[1,2,3,4,5,6,7,8,9,10,11,12,13,14,15,19,20,21,22],[18,0],[.i,.b],[.l aS x.2.2,.i x.1.1.1,.i x.1.1.2,.i x.1.2.1.1,.i x.1.2.1.2,.i x.1.2.2.1,.i x.1.2.2.2,.i x.2.1,.b false,.i x.1.1.1,.i x.1.1.2,.i x.1.2.1.1,.i x.1.2.1.2,.i x.1.2.2.1,.i x.1.2.2.2,.i x.1.1.1,.i x.1.1.2,.i x.1.2.1.1,.i x.1.2.1.2]⟩⟩]⟩
def cm (x:(I6×Int×List I2)) (s:(Int×Bool×Int)):(Int×Bool×Int)⊕(Int×Bool):=
 (if (s.2.2<(x.2.2.length:Int)) then
 (if (s.2.1=true) then
 (ai (KO ((x.2.2.getD s.2.2.toNat (0,0)),x.1.1,x.1.2.1,s.1)) fun y=>
 (Sum.inl (s.1,(decide (y<x.2.1)),(az (s.2.2+1))))) else
 (Sum.inl (s.1,false,(az (s.2.2+1))))) else
 (Sum.inr ((s.1,s.2.1))))
def sA (x:(I6×Int×List I2)) (s:(Int×Bool×Int)):Prop:=
 ((s.2.2<(x.2.2.length:Int))->
 (((0<=s.2.2)/\ (s.2.2<(x.2.2.length:Int)))/\
 ((s.2.2.toNat<x.2.2.length)/\
 ((s.2.2.toNat<x.2.2.length)/\
 ((s.2.1=true)->
 (sE ((x.2.2.getD s.2.2.toNat (0,0)),x.1.1,x.1.2.1,s.1)))))))
def vY (x:(I6×Int×List I2)) (s:(Int×Bool×Int)):Tr ((Int×Bool×Int)⊕(Int×Bool)) true:=
 (.i10 (s.2.2<(nL x.2.2))
 (.gK s.2.2 x.2.2
 (.jL s.2.1
 (.fn xC ((gT x.2.2 s.2.2 iR),x.1.1,x.1.2.1,s.1) fun y=>
 (.ret (.inl (s.1,(decide (y<x.2.1)),(w1 s.2.2)))))
 (.ret (.inl (s.1,false,(w1 s.2.2))))))
 (.ret (.inr ((s.1,s.2.1)))))
def AZ (x:(I6×Int×List I2)):aB:=⟨[.lo,.env,.env],⟨bB 30 0 [(4,.v (.one (.ptr 2 0))),(6,.v (.one (.ptr 4 0))),(7,.v (.one (.mB 144 0 [.loc 13 0,.loc 14 0,.loc 9 0]))),(8,.v (.one (.b))),(14,.v (.one (.full 0))),(15,.v (.one (.i .i64))),(16,.v (.one (.i .i64)))],[.row aS 0,.cells [.i .i64,.i .i64,.i .i64,.i .i64,.i .i64,.i .i64] 38,.cells [.i .i64] 3,.cells [.full 0] 55,.cells [.b] 4,.gone,.cells [.i .i64,.i .i64,.i .i64,.i .i64,.i .i64,.i .i64] 38,.loop true,.gU 8,.cells [.i .i64] 3,.cells [.i .i64,.i .i64] 37,.cells [.i .i64,.i .i64] 37,.gone,.cells [.i .i64,.i .i64] 37,.cells [.i .i64,.i .i64] 37,.gU 15],16,none,[18,19,29],[1,3,4,5,6,7,8,9,10,11,12,13,14,15,16,17,21,22,23,24,25,26,27,28],[20,0,2],[.i,.b,.i],[.i (x.2.2.length:Int),.l aS x.2.2,.i x.1.1.1,.i x.1.1.2,.i x.1.2.1.1,.i x.1.2.1.2,.i x.1.2.2.1,.i x.1.2.2.2,.i x.2.1,.b false,.i x.1.1.1,.i x.1.1.2,.i x.1.2.1.1,.i x.1.2.1.2,.i x.1.2.2.1,.i x.1.2.2.2,.i x.1.1.1,.i x.1.1.2,.i x.1.2.1.1,.i x.1.2.1.2,.i x.1.2.1.1,.i x.1.2.1.2,.i x.1.2.2.1,.i x.1.2.2.2]⟩,[⟨(.exit 2),.normal,⟨bB 30 0 [(6,.v (.one (.ptr 4 0))),(8,.v (.one (.b)))],[.row aS 0,.cells [.i .i64,.i .i64,.i .i64,.i .i64,.i .i64,.i .i64] 38,.cells [.i .i64] 3,.cells [.full 0] 55,.cells [.b] 4,.gone,.cells [.i .i64,.i .i64,.i .i64,.i .i64,.i .i64,.i .i64] 38,.loop true,.gU 8,.cells [.i .i64] 3,.cells [.i .i64,.i .i64] 37,.cells [.i .i64,.i .i64] 37,.gone,.cells [.i .i64,.i .i64] 37,.cells [.i .i64,.i .i64] 37,.gU 15],16,none,[16,17,27],[1,2,3,4,5,6,7,8,9,10,11,12,13,14,15,19,20,21,22,23,24,25,26],[18,0],[.i,.b],[.l aS x.2.2,.i x.1.1.1,.i x.1.1.2,.i x.1.2.1.1,.i x.1.2.1.2,.i x.1.2.2.1,.i x.1.2.2.2,.i x.2.1,.b false,.i x.1.1.1,.i x.1.1.2,.i x.1.2.1.1,.i x.1.2.1.2,.i x.1.2.2.1,.i x.1.2.2.2,.i x.1.1.1,.i x.1.1.2,.i x.1.2.1.1,.i x.1.2.1.2,.i x.1.2.1.1,.i x.1.2.1.2,.i x.1.2.2.1,.i x.1.2.2.2]⟩⟩]⟩
def cn (x:(I6×Int×List I2)) (s:(Int×Bool×Int)):(Int×Bool×Int)⊕(Int×Bool):=
 (if (s.2.2<(x.2.2.length:Int)) then
 (if (s.2.1=true) then
 (ai (KO ((x.2.2.getD s.2.2.toNat (0,0)),x.1.2.1,x.1.2.2,s.1)) fun y=>
 (Sum.inl (s.1,(decide (y<x.2.1)),(az (s.2.2+1))))) else
 (Sum.inl (s.1,false,(az (s.2.2+1))))) else
 (Sum.inr ((s.1,s.2.1))))
def sB (x:(I6×Int×List I2)) (s:(Int×Bool×Int)):Prop:=
 ((s.2.2<(x.2.2.length:Int))->
 (((0<=s.2.2)/\ (s.2.2<(x.2.2.length:Int)))/\
 ((s.2.2.toNat<x.2.2.length)/\
 ((s.2.2.toNat<x.2.2.length)/\
 ((s.2.1=true)->
 (sE ((x.2.2.getD s.2.2.toNat (0,0)),x.1.2.1,x.1.2.2,s.1)))))))
def vZ (x:(I6×Int×List I2)) (s:(Int×Bool×Int)):Tr ((Int×Bool×Int)⊕(Int×Bool)) true:=
 (.i10 (s.2.2<(nL x.2.2))
 (.gK s.2.2 x.2.2
 (.jL s.2.1
 (.fn xC ((gT x.2.2 s.2.2 iR),x.1.2.1,x.1.2.2,s.1) fun y=>
 (.ret (.inl (s.1,(decide (y<x.2.1)),(w1 s.2.2)))))
 (.ret (.inl (s.1,false,(w1 s.2.2))))))
 (.ret (.inr ((s.1,s.2.1)))))
def A1 (x:(I6×Int×List I2)):aB:=⟨[.lo,.env,.env],⟨bB 30 0 [(4,.v (.one (.ptr 2 0))),(6,.v (.one (.ptr 4 0))),(7,.v (.one (.mB 144 0 [.loc 16 0,.loc 17 0,.loc 9 0]))),(8,.v (.one (.b))),(14,.v (.one (.full 0))),(15,.v (.one (.i .i64))),(16,.v (.one (.i .i64)))],[.row aS 0,.cells [.i .i64,.i .i64,.i .i64,.i .i64,.i .i64,.i .i64] 38,.cells [.i .i64] 3,.cells [.full 0] 55,.cells [.b] 4,.gone,.cells [.i .i64,.i .i64,.i .i64,.i .i64,.i .i64,.i .i64] 38,.loop true,.gU 8,.cells [.i .i64] 3,.cells [.i .i64,.i .i64] 37,.cells [.i .i64,.i .i64] 37,.gone,.cells [.i .i64,.i .i64] 37,.cells [.i .i64,.i .i64] 37,.gone,.cells [.i .i64,.i .i64] 37,.cells [.i .i64,.i .i64] 37,.gU 18],19,none,[18,19,33],[1,3,4,5,6,7,8,9,10,11,12,13,14,15,16,17,21,22,23,24,25,26,27,28,29,30,31,32],[20,0,2],[.i,.b,.i],[.i (x.2.2.length:Int),.l aS x.2.2,.i x.1.1.1,.i x.1.1.2,.i x.1.2.1.1,.i x.1.2.1.2,.i x.1.2.2.1,.i x.1.2.2.2,.i x.2.1,.b false,.i x.1.1.1,.i x.1.1.2,.i x.1.2.1.1,.i x.1.2.1.2,.i x.1.2.2.1,.i x.1.2.2.2,.i x.1.1.1,.i x.1.1.2,.i x.1.2.1.1,.i x.1.2.1.2,.i x.1.2.1.1,.i x.1.2.1.2,.i x.1.2.2.1,.i x.1.2.2.2,.i x.1.2.2.1,.i x.1.2.2.2,.i x.1.1.1,.i x.1.1.2]⟩,[⟨(.exit 2),.normal,⟨bB 30 0 [(6,.v (.one (.ptr 4 0))),(8,.v (.one (.b)))],[.row aS 0,.cells [.i .i64,.i .i64,.i .i64,.i .i64,.i .i64,.i .i64] 38,.cells [.i .i64] 3,.cells [.full 0] 55,.cells [.b] 4,.gone,.cells [.i .i64,.i .i64,.i .i64,.i .i64,.i .i64,.i .i64] 38,.loop true,.gU 8,.cells [.i .i64] 3,.cells [.i .i64,.i .i64] 37,.cells [.i .i64,.i .i64] 37,.gone,.cells [.i .i64,.i .i64] 37,.cells [.i .i64,.i .i64] 37,.gone,.cells [.i .i64,.i .i64] 37,.cells [.i .i64,.i .i64] 37,.gU 18],19,none,[16,17,31],[1,2,3,4,5,6,7,8,9,10,11,12,13,14,15,19,20,21,22,23,24,25,26,27,28,29,30],[18,0],[.i,.b],[.l aS x.2.2,.i x.1.1.1,.i x.1.1.2,.i x.1.2.1.1,.i x.1.2.1.2,.i x.1.2.2.1,.i x.1.2.2.2,.i x.2.1,.b false,.i x.1.1.1,.i x.1.1.2,.i x.1.2.1.1,.i x.1.2.1.2,.i x.1.2.2.1,.i x.1.2.2.2,.i x.1.1.1,.i x.1.1.2,.i x.1.2.1.1,.i x.1.2.1.2,.i x.1.2.1.1,.i x.1.2.1.2,.i x.1.2.2.1,.i x.1.2.2.2,.i x.1.2.2.1,.i x.1.2.2.2,.i x.1.1.1,.i x.1.1.2]⟩⟩]⟩
def cA (x:(I6×Int×List I2)) (s:(Int×Bool×Int)):(Int×Bool×Int)⊕(Int×Bool):=
 (if (s.2.2<(x.2.2.length:Int)) then
 (if (s.2.1=true) then
 (ai (KO ((x.2.2.getD s.2.2.toNat (0,0)),x.1.2.2,x.1.1,s.1)) fun y=>
 (Sum.inl (s.1,(decide (y<x.2.1)),(az (s.2.2+1))))) else
 (Sum.inl (s.1,false,(az (s.2.2+1))))) else
 (Sum.inr ((s.1,s.2.1))))
def sC (x:(I6×Int×List I2)) (s:(Int×Bool×Int)):Prop:=
 ((s.2.2<(x.2.2.length:Int))->
 (((0<=s.2.2)/\ (s.2.2<(x.2.2.length:Int)))/\
 ((s.2.2.toNat<x.2.2.length)/\
 ((s.2.2.toNat<x.2.2.length)/\
 ((s.2.1=true)->
 (sE ((x.2.2.getD s.2.2.toNat (0,0)),x.1.2.2,x.1.1,s.1)))))))
def v7 (x:(I6×Int×List I2)) (s:(Int×Bool×Int)):Tr ((Int×Bool×Int)⊕(Int×Bool)) true:=
 (.i10 (s.2.2<(nL x.2.2))
 (.gK s.2.2 x.2.2
 (.jL s.2.1
 (.fn xC ((gT x.2.2 s.2.2 iR),x.1.2.2,x.1.1,s.1) fun y=>
 (.ret (.inl (s.1,(decide (y<x.2.1)),(w1 s.2.2)))))
 (.ret (.inl (s.1,false,(w1 s.2.2))))))
 (.ret (.inr ((s.1,s.2.1)))))
def C2 (x:(I6×Int×List I2)):Bool:=
 (ai (Mf x.1) fun y=>
 (ai (run (cm x) (y.1,true,0)) fun r_1=>
 (if (r_1.2=true) then
 true else
 (ai (run (cn x) (r_1.1,true,0)) fun r_2=>
 (if (r_2.2=true) then
 true else
 (ai (run (cA x) (r_2.1,true,0)) fun r_3=>
 (if (r_3.2=true) then
 true else
 false)))))))
def tH (x:(I6×Int×List I2)):Prop:=
 ((Dr x.1)/\
 aA (Mf x.1) fun y=>
 (Term (cm x) (sA x) (y.1,true,0)/\
 aA (run (cm x) (y.1,true,0)) fun r_1=>
 (¬(r_1.2=true)->
 (Term (cn x) (sB x) (r_1.1,true,0)/\
 aA (run (cn x) (r_1.1,true,0)) fun r_2=>
 (¬(r_2.2=true)->
 (Term (cA x) (sC x) (r_2.1,true,0)))))))
def Zc (x:(I6×Int×List I2)):Tr Bool true:=
 (.Vb
 (.pn 0 5
 (.afg
 (.Vb
 (.fn Cp x.1 fun y=>
 (.fx
 (.pn 2 8
 (.fL 1
 (.Vb
 (.pn 3 12
 (.fL 1
 (aB.lp (AY x) (vY x) (y.1,true,z0) fun r_1=>
 (.iK r_1.2
 (.fL 1
 (.pn 3 12
 (.pn 2 8
 (.ret true))))
 (.fL 1
 (.pn 3 12
 (.fx
 (.pn 2 8
 (.fL 1
 (.Vb
 (.pn 4 15
 (.fL 1
 (aB.lp (AZ x) (vZ x) (r_1.1,true,z0) fun r_2=>
 (.iK r_2.2
 (.fL 1
 (.pn 4 15
 (.pn 2 8
 (.ret true))))
 (.fL 1
 (.pn 4 15
 (.fx
 (.pn 2 8
 (.fL 1
 (.Vb
 (.pn 5 18
 (.fL 1
 (aB.lp (A1 x) (v7 x) (r_2.1,true,z0) fun r_3=>
 (.nT r_3.2
 (.fL 1
 (.pn 5 18
 (.pn 2 8
 (.ret true))))
 (.fL 1
 (.pn 5 18
 (.pn 2 8
 (.ret false)))))))))))))))))))))))))))))))))))))
abbrev vX:cC:=⟨(.pair (.agg aV) (.pair (.one yi) (.one (Ty.sl aS)))),(.one Ty.bool),tH,C2⟩
theorem Wc:ah Tryz.prog 128 (aj vX):=ah.tr vX Zc (fn:=Tryz.f128) ay bJ mixed (by kernel_rfl) xw.ok (fun x=>(au.trA 2 au.nil (by kernel_rfl) (ve.cons (n:=13) (ve.tr ay (ae.bS bJ xw.ok) mixed (AY x) (vY x) (by kernel_rfl) fun g s Q=>(by kernel_rfl)) (ve.cons (n:=16) (ve.tr ay (ae.bS bJ xw.ok) mixed (AZ x) (vZ x) (by kernel_rfl) fun g s Q=>(by kernel_rfl)) (ve.cons (n:=19) (ve.tr ay (ae.bS bJ xw.ok) mixed (A1 x) (v7 x) (by kernel_rfl) fun g s Q=>(by kernel_rfl)) ve.nil))))) (fun x=>(by kernel_rfl)) fun x Q=>(by kernel_rfl)
def LN:List (Nat×Ev.Spec):=(128,aj vX)::bY
theorem B3:ae Tryz.prog LN:=ae.add (fn:=Tryz.f128) (by kernel_rfl) Wc bJ
def Ze (x:(I6×I6×Int)):(Bool×Int):=
 (ai (mright x.1) fun y=>
 (if ((!y)=true) then
 (false,1) else
 (ai (mright x.2.1) fun aO=>
 (if ((!aO)=true) then
 (false,1) else
 (ai (C2 (x.1,x.2.2,[x.2.1.1,x.2.1.2.1,x.2.1.2.2])) fun y_2=>
 (if ((!y_2)=true) then
 (ai (C2 (x.2.1,x.2.2,[x.1.1,x.1.2.1,x.1.2.2])) fun bf=>
 ((!bf),0)) else
 (false,0)))))))
def KM (x:(I6×I6×Int)):Prop:=
 ((tK x.1)/\
 aA (mright x.1) fun y=>
 (¬((!y)=true)->
 ((tK x.2.1)/\
 aA (mright x.2.1) fun aO=>
 (¬((!aO)=true)->
 ((tH (x.1,x.2.2,[x.2.1.1,x.2.1.2.1,x.2.1.2.2]))/\
 aA (C2 (x.1,x.2.2,[x.2.1.1,x.2.1.2.1,x.2.1.2.2])) fun y_2=>
 (((!y_2)=true)->
 (tH (x.2.1,x.2.2,[x.1.1,x.1.2.1,x.1.2.2]))))))))
def abO (x:(I6×I6×Int)):Tr (Bool×Int) true:=
 (.fn sD x.1 fun y=>
 (.iK (!y)
 (.ret (false,z1))
 (.fn sD x.2.1 fun aO=>
 (.iK (!aO)
 (.ret (false,z1))
 (.fn vX (x.1,x.2.2,[x.2.1.1,x.2.1.2.1,x.2.1.2.2]) fun y_2=>
 (.jL (!y_2)
 (.fn vX (x.2.1,x.2.2,[x.1.1,x.1.2.1,x.1.2.2]) fun bf=>
 (.ret ((!bf),z0)))
 (.ret (false,z0))))))))
abbrev FA:cC:=⟨(.pair (.agg aV) (.pair (.agg aV) (.one yi))),(.pair (.one Ty.bool) (.one yi)),KM,Ze⟩
theorem Zf:ah Tryz.prog 118 (aj FA):=ah.tr FA abO (fn:=Tryz.f118) ay B3 mixed (by kernel_rfl) (av.nil _ _) (fun x=>au.nil) (fun x=>(by kernel_rfl)) fun x Q=>(by kernel_rfl)
def Ql:List (Nat×Ev.Spec):=(118,aj FA)::LN
theorem EC:ae Tryz.prog Ql:=ae.add (fn:=Tryz.f118) (by kernel_rfl) Zf B3
def fR (x:(I6×I6)):(Bool×Int):=
 (ai (Ze (x.1,x.2,1)) fun y=>
 y)
def tI (x:(I6×I6)):Prop:=
 (KM (x.1,x.2,1))
def RZ (x:(I6×I6)):Tr (Bool×Int) true:=
 (.fn FA (x.1,x.2,z1) fun y=>
 (.ret y))
abbrev qb:cC:=⟨(.pair (.agg aV) (.agg aV)),(.pair (.one Ty.bool) (.one yi)),tI,fR⟩
theorem D1:ah Tryz.prog 105 (aj qb):=ah.tr qb RZ (fn:=Tryz.f105) ay EC mixed (by kernel_rfl) (av.nil _ _) (fun x=>au.nil) (fun x=>(by kernel_rfl)) fun x Q=>(by kernel_rfl)
def Qn:List (Nat×Ev.Spec):=(105,aj qb)::Ql
theorem qn:ae Tryz.prog Qn:=ae.add (fn:=Tryz.f105) (by kernel_rfl) D1 EC
def Kk (x:(List I6)):aB:=⟨[],⟨bB 37 0 [(0,.v (.one (.full 0))),(4,.v (.one (.ptr 1 0))),(9,.v (.one (.full 0))),(10,.v (.one (.i .i64))),(11,.v (.one (.i .i64))),(18,.v (.one (.full 2))),(19,.v (.one (.i .i64))),(20,.v (.one (.i .i64)))],[.row aV 0,.cells [.i .i64,.i .i64,.i .i64,.i .i64,.i .i64,.i .i64] 38,.alias 0 true],0,none,[],[0,4,11],[5,6,7,8,9,10,1,12,2,3],[.i,.i,.i,.i,.i,.i,.i,.n,.i,.i],[.i (x.length:Int),.l aV x,.n 0]⟩,[⟨.ret,.ret,⟨bB 37 0 [(2,.v (.one (.b)))],[],0,none,[],[0],[],[],[.b false]⟩⟩,⟨(.exit 2),.normal,⟨bB 37 0 [(0,.v (.one (.full 0))),(9,.v (.one (.full 0))),(10,.v (.one (.i .i64))),(11,.v (.one (.i .i64)))],[.row aV 0],0,none,[],[0,2],[1],[.i],[.i (x.length:Int),.l aV x]⟩⟩]⟩
def fM (x:(List I6)) (s:(Int×Int×Int×Int×Int×Int×Int×Nat×I2)):(Int×Int×Int×Int×Int×Int×Int×Nat×I2)⊕(Unit⊕Int):=
 (if (s.2.2.2.2.2.2.2.2.2<s.2.2.2.2.2.2.2.2.1) then
 (ai (fR (((s.1,s.2.1),(s.2.2.1,s.2.2.2.1),s.2.2.2.2.1,s.2.2.2.2.2.1),(x.getD (0+s.2.2.2.2.2.2.2.2.2.toNat) ((0,0),(0,0),0,0)))) fun y=>
 (if (y.1=true) then
 (Sum.inr (Sum.inl ())) else
 (if ((y.2 !=0)=true) then
 (Sum.inr (Sum.inl ())) else
 (Sum.inl (s.1,s.2.1,s.2.2.1,s.2.2.2.1,s.2.2.2.2.1,s.2.2.2.2.2.1,s.2.2.2.2.2.2.1,s.2.2.2.2.2.2.2.1,s.2.2.2.2.2.2.2.2.1,(az (s.2.2.2.2.2.2.2.2.2+1))))))) else
 (Sum.inr (Sum.inr (s.2.2.2.2.2.2.1))))
def nq (x:(List I6)) (s:(Int×Int×Int×Int×Int×Int×Int×Nat×I2)):Prop:=
 ((s.2.2.2.2.2.2.2.2.2<s.2.2.2.2.2.2.2.2.1)->
 (((0<=s.2.2.2.2.2.2.2.2.2)/\ (s.2.2.2.2.2.2.2.2.2<(((min s.2.2.2.2.2.2.2.1 (x.length- 0)):Nat):Int)))/\
 (((0+s.2.2.2.2.2.2.2.2.2.toNat)<x.length)/\
 (((0+s.2.2.2.2.2.2.2.2.2.toNat)<x.length)/\
 (tI (((s.1,s.2.1),(s.2.2.1,s.2.2.2.1),s.2.2.2.2.1,s.2.2.2.2.2.1),(x.getD (0+s.2.2.2.2.2.2.2.2.2.toNat) ((0,0),(0,0),0,0))))))))
def DJ (x:(List I6)) (s:(Int×Int×Int×Int×Int×Int×Int×Nat×I2)):Tr ((Int×Int×Int×Int×Int×Int×Int×Nat×I2)⊕(Unit⊕Int)) true:=
 (.i10 (s.2.2.2.2.2.2.2.2.2<s.2.2.2.2.2.2.2.2.1)
 (.oR s.2.2.2.2.2.2.2.2.2 (((min s.2.2.2.2.2.2.2.1 (x.length- 0)):Nat):Int)
 (.od ((0+(tN s.2.2.2.2.2.2.2.2.2))<x.length)
 (.od ((0+(tN s.2.2.2.2.2.2.2.2.2))<x.length)
 (.fn qb (((s.1,s.2.1),(s.2.2.1,s.2.2.2.1),s.2.2.2.2.1,s.2.2.2.2.2.1),(x.getD (0+(tN s.2.2.2.2.2.2.2.2.2)) aW)) fun y=>
 (.nT y.1
 (.ret (.inr (Sum.inl ())))
 (.nT (y.2 !=z0)
 (.ret (.inr (Sum.inl ())))
 (.ret (.inl (s.1,s.2.1,s.2.2.1,s.2.2.2.1,s.2.2.2.2.1,s.2.2.2.2.2.1,s.2.2.2.2.2.2.1,s.2.2.2.2.2.2.2.1,s.2.2.2.2.2.2.2.2.1,(w1 s.2.2.2.2.2.2.2.2.2))))))))))
 (.ret (.inr (Sum.inr (s.2.2.2.2.2.2.1)))))
def Kj (x:(List I6)):aB:=⟨[],⟨bB 37 0 [(0,.v (.one (.full 0))),(9,.v (.one (.full 0))),(10,.v (.one (.i .i64))),(11,.v (.one (.i .i64)))],[.row aV 0],0,none,[],[0,2],[1],[.i],[.i (x.length:Int),.l aV x]⟩,[⟨.ret,.ret,⟨bB 37 0 [(2,.v (.one (.b)))],[],0,none,[],[0],[],[],[.b false]⟩⟩,⟨(.exit 0),.normal,⟨bB 37 0 [],[],0,none,[],[],[],[],[]⟩⟩]⟩
def k9 (x:(List I6)) (s:Int):Int⊕(Unit⊕Unit):=
 (if (s<(x.length:Int)) then
 (ai (run (fM x) ((x.getD s.toNat ((0,0),(0,0),0,0)).1.1,(x.getD s.toNat ((0,0),(0,0),0,0)).1.2,(x.getD s.toNat ((0,0),(0,0),0,0)).2.1.1,(x.getD s.toNat ((0,0),(0,0),0,0)).2.1.2,(x.getD s.toNat ((0,0),(0,0),0,0)).2.2.1,(x.getD s.toNat ((0,0),(0,0),0,0)).2.2.2,s,s.toNat,(((min s.toNat (x.length- 0)):Nat):Int),0)) fun r=>
 (Sum.elim (fun a=>
 (Sum.inr (Sum.inl ()))) (fun b=>
 (Sum.inl (az (b+1)))) r)) else
 (Sum.inr (Sum.inr (()))))
def rD (x:(List I6)) (s:Int):Prop:=
 ((s<(x.length:Int))->
 (((0<=s)/\ (s<(x.length:Int)))/\
 ((s.toNat<x.length)/\
 ((s.toNat<x.length)/\
 (((0<=s)/\ (s<=(x.length:Int)))/\
 (Term (fM x) (nq x) ((x.getD s.toNat ((0,0),(0,0),0,0)).1.1,(x.getD s.toNat ((0,0),(0,0),0,0)).1.2,(x.getD s.toNat ((0,0),(0,0),0,0)).2.1.1,(x.getD s.toNat ((0,0),(0,0),0,0)).2.1.2,(x.getD s.toNat ((0,0),(0,0),0,0)).2.2.1,(x.getD s.toNat ((0,0),(0,0),0,0)).2.2.2,s,s.toNat,(((min s.toNat (x.length- 0)):Nat):Int),0)))))))
def DH (x:(List I6)) (s:Int):Tr (Int⊕(Unit⊕Unit)) true:=
 (.i10 (s<(nL x))
 (.gK s x
 (.og ((decide (z0<=s))&&(decide (s<=(nL x)))) ((z0<=s)/\ (s<=(nL x))) (fun h=>(cX (decide_eq_true h.1) (decide_eq_true h.2)))
 (aB.lp (Kk x) (DJ x) ((gT x s aW).1.1,(gT x s aW).1.2,(gT x s aW).2.1.1,(gT x s aW).2.1.2,(gT x s aW).2.2.1,(gT x s aW).2.2.2,s,(tN s),(((min (tN s) (x.length- 0)):Nat):Int),z0) fun r=>
 (.xW r (fun a=>
 (.ret (.inr (Sum.inl ())))) (fun b=>
 (.ret (.inl (w1 b))))))))
 (.ret (.inr (Sum.inr (())))))
def CS (x:(List I6)):Bool:=
 (ai (run (k9 x) 0) fun r=>
 (Sum.elim (fun a=>
 false) (fun b=>
 true) r))
def zl (x:(List I6)):Prop:=
 (Term (k9 x) (rD x) 0)
def Yi (x:(List I6)):Tr Bool true:=
 (aB.lp (Kj x) (DH x) z0 fun r=>
 (.xW r (fun a=>
 (.ret false)) (fun b=>
 (.ret true))))
abbrev Ar:cC:=⟨(.one (Ty.sl aV)),(.one Ty.bool),zl,CS⟩
theorem VB:ah Tryz.prog 74 (aj Ar):=ah.tr Ar Yi (fn:=Tryz.f74) ay qn mixed (by kernel_rfl) (av.nil _ _) (fun x=>(au.tr ay (ae.bS qn (av.nil _ _)) mixed 0 (Kj x) (DH x) (au.tr ay (ae.bS qn (av.nil _ _)) mixed 2 (Kk x) (DJ x) au.nil (by kernel_rfl) fun g s Q=>(by kernel_rfl)) (by kernel_rfl) fun g s Q=>(by kernel_rfl))) (fun x=>(by kernel_rfl)) fun x Q=>(by kernel_rfl)
end Go.Proofs.YtbjfokijjefoeaaGreat
