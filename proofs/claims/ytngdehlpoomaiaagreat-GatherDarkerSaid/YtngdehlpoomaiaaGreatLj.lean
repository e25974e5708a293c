/- A caster's value, as a function that is lent a ray.Caster. -/
import Derived.Test.YtngdehlpoomaiaaGreatKi
import Derived.Test.YtngdehlpoomaiaaGreatKk
noncomputable section
set_option linter.unusedSectionVars false
set_option linter.unusedVariables false
set_option linter.unusedSimpArgs false
namespace Go.Proofs.YtngdehlpoomaiaaGreat
open Go Go.Ev Go.Proofs
abbrev vv:Ty:= .prod (.sl Sf) (.prod (.sl fS) (.prod (.sl uC) (.prod (.prod dW (.prod dW dW)) Qb)))
abbrev abh:Ty:= .prod dW (.prod (.sl fS) (.prod dW (.prod dW dW)))
def cV (p cl:Cell) (y:Qb.T):AV:= .v (.agg [p,ci y.1.1,ci y.1.2.1,ci y.1.2.2.1,ci y.1.2.2.2,cl,ci y.2.1.1,ci y.2.1.2.1,ci y.2.1.2.2,ci y.2.2.1,ci y.2.2.2.1,ci y.2.2.2.2])
def rdI (v:AV):Option Int:=match v with
 | .v (.one (.raw (.int .i64 y)))=>some y
 |_=>none
def jL (x:vv.T):List aF:=wZ ep uC x.1 x.2.1 x.2.2.1 (.int .u32 x.2.2.2.1.1) (.int .i32 0) (.int .u32 0) (.int .i64 x.2.2.2.1.2.1) (.int .i64 x.2.2.2.1.2.2)
def ag2:PX:=⟨.one vv,abh,fun x=> [cV (.ptr 0 0) (.full 3) x.2.2.2.2],fun x r0=>jL x++ [.cw r0 4],fun _ r0 Q=>BJ 4 r0 (H9 ep rdI Q),fun _ _ _ _=>False⟩
def vw (x:(List I9×List ((I3×I3)×Int×Int×List Int)×List (Int×I3×I3×I2)×I3×(Int×I3)×I3×I3)):aL:=⟨[.env],⟨dL 26 0 [(3,.v (.one (.ptr 6 0))),(4,.v (.one (.iT 62 0 [.loc 8 0,.loc 6 0]))),(14,.v (.one (.full 3))),(15,.v (.one (.i .i64))),(16,.v (.one (.i .i64)))],[.cells [.full 1,.i IntKind.u32,.i IntKind.i32,.i IntKind.u32,.full 5,.i .i64,.i .i64] 80,.row ff 0,.gone,.row (Ty.prod yi (Ty.prod aO (Ty.prod aO gZ))) 0,.cw 4,.row (Ty.prod (Ty.prod aO aO) (Ty.prod yi (Ty.prod yi (Ty.sl yi)))) 2,.cells [.full 7] 38,.row yi 2,.cells [.ptr 0 0,.i .i64,.i .i64,.i .i64,.i .i64,.full 3,.i .i64,.i .i64,.i .i64,.i .i64,.i .i64,.i .i64] 87],5,none,[9],[0,3,4,7,8,12,13,14,15,16,17,18,19,20,21],[2,10,5,6,11,1],[.i,(.l (Ty.prod (Ty.prod aO aO) (Ty.prod yi (Ty.prod yi (Ty.sl yi))))),.i,.i,(.l yi),.i],[.i (x.2.2.1.length:Int),.i 0,.i 0,.l ff x.1,.l (Ty.prod yi (Ty.prod aO (Ty.prod aO gZ))) x.2.2.1,.i x.2.2.2.2.1.1,.i x.2.2.2.2.1.2.1,.i x.2.2.2.2.1.2.2.1,.i x.2.2.2.2.1.2.2.2,.i x.2.2.2.2.2.1.1,.i x.2.2.2.2.2.1.2.1,.i x.2.2.2.2.2.1.2.2,.i x.2.2.2.2.2.2.1,.i x.2.2.2.2.2.2.2.1,.i x.2.2.2.2.2.2.2.2]⟩,[⟨(.exit 0),.normal,⟨dL 26 0 [(3,.v (.one (.ptr 6 0)))],[.cells [.full 1,.i IntKind.u32,.i IntKind.i32,.i IntKind.u32,.full 5,.i .i64,.i .i64] 80,.row ff 0,.gone,.row (Ty.prod yi (Ty.prod aO (Ty.prod aO gZ))) 0,.cw 4,.row (Ty.prod (Ty.prod aO aO) (Ty.prod yi (Ty.prod yi (Ty.sl yi)))) 2,.cells [.full 7] 38,.row yi 2],5,none,[7],[1,2,5,6],[0,8,3,4,9],[.i,(.l (Ty.prod (Ty.prod aO aO) (Ty.prod yi (Ty.prod yi (Ty.sl yi))))),.i,.i,(.l yi)],[.i 0,.i 0,.l ff x.1,.l (Ty.prod yi (Ty.prod aO (Ty.prod aO gZ))) x.2.2.1]⟩⟩]⟩
def b9 (x:(List I9×List ((I3×I3)×Int×Int×List Int)×List (Int×I3×I3×I2)×I3×(Int×I3)×I3×I3)) (s:(Int×List ((I3×I3)×Int×Int×List Int)×Int×Int×List Int×Int)):(Int×List ((I3×I3)×Int×Int×List Int)×Int×Int×List Int×Int)⊕(Int×List ((I3×I3)×Int×Int×List Int)×Int×Int×List Int):=
 (if (s.2.2.2.2.2<(x.2.2.1.length:Int)) then
 (aj (rZ ((x.2.2.1.getD s.2.2.2.2.2.toNat (0,(0,0,0),(0,0,0),0,0)),x.2.2.2.2.2.1)) fun y=>
 (if ((y.2.2==0)=true) then
 (aj (jR s.1 (cn.base.KX x.1) s.2.1) fun aA=>
 (aj (cn.ask x.1 aA (x.2.2.2.2.2.1,y.2.1)) fun y_2=>
 (aj (mZ y_2 s.2.2.1 1) fun bg=>
 (aj (mZ y_2 s.2.2.2.1 y_2.2.1) fun bW=>
 (aj (om y_2.2.2) fun cC=>
 (if ((!y_2.1)=true) then
 (aj (xX ((x.2.2.1.getD s.2.2.2.2.2.toNat (0,(0,0,0),(0,0,0),0,0)),x.2.2.2.2.2)) fun fP=>
 (aj (om fP.2) fun ig=>
 (Sum.inl (1,aA,bg,bW,(s.2.2.2.2.1++ [fP.1]),(au (s.2.2.2.2.2+1)))))) else
 (Sum.inl (1,aA,bg,bW,s.2.2.2.2.1,(au (s.2.2.2.2.2+1)))))))))) else
 (Sum.inl (s.1,s.2.1,s.2.2.1,s.2.2.2.1,s.2.2.2.2.1,(au (s.2.2.2.2.2+1)))))) else
 (Sum.inr ((s.1,s.2.1,s.2.2.1,s.2.2.2.1,s.2.2.2.2.1))))
def gG (x:(List I9×List ((I3×I3)×Int×Int×List Int)×List (Int×I3×I3×I2)×I3×(Int×I3)×I3×I3)) (s:(Int×List ((I3×I3)×Int×Int×List Int)×Int×Int×List Int×Int)):Prop:=
 ((s.2.2.2.2.2<(x.2.2.1.length:Int))->
 (((0<=s.2.2.2.2.2)/\ (s.2.2.2.2.2<(x.2.2.1.length:Int)))/\
 ((s.2.2.2.2.2.toNat<x.2.2.1.length)/\
 ((s.2.2.2.2.2.toNat<x.2.2.1.length)/\
 ((mq ((x.2.2.1.getD s.2.2.2.2.2.toNat (0,(0,0,0),(0,0,0),0,0)),x.2.2.2.2.2.1))/\
 aB (rZ ((x.2.2.1.getD s.2.2.2.2.2.toNat (0,(0,0,0),(0,0,0),0,0)),x.2.2.2.2.2.1)) fun y=>
 (((y.2.2==0)=true)->
 ((((decide (s.1=0))||(decide (s.1=1)))=true)/\
 ((xb s.1 (cn.base.pre x.1))/\
 aB (jR s.1 (cn.base.KX x.1) s.2.1) fun aA=>
 ((cn.Wv x.1 aA (x.2.2.2.2.2.1,y.2.1))/\
 aB (cn.ask x.1 aA (x.2.2.2.2.2.1,y.2.1)) fun y_2=>
 (aB (mZ y_2 s.2.2.1 1) fun bg=>
 (aB (mZ y_2 s.2.2.2.1 y_2.2.1) fun bW=>
 ((gN y_2.2.2)/\
 aB (om y_2.2.2) fun cC=>
 (((!y_2.1)=true)->
 ((ow ((x.2.2.1.getD s.2.2.2.2.2.toNat (0,(0,0,0),(0,0,0),0,0)),x.2.2.2.2.2))/\
 aB (xX ((x.2.2.1.getD s.2.2.2.2.2.toNat (0,(0,0,0),(0,0,0),0,0)),x.2.2.2.2.2)) fun fP=>
 ((gN fP.2)/\
 aB (om fP.2) fun ig=>
 ((s.2.2.2.2.1.length+1)<1099511627776))))))))))))))))
def qu (x:(List I9×List ((I3×I3)×Int×Int×List Int)×List (Int×I3×I3×I2)×I3×(Int×I3)×I3×I3)) (s:(Int×List ((I3×I3)×Int×Int×List Int)×Int×Int×List Int×Int)):Tr ((Int×List ((I3×I3)×Int×Int×List Int)×Int×Int×List Int×Int)⊕(Int×List ((I3×I3)×Int×Int×List Int)×Int×Int×List Int)) true:=
 (.i10 (s.2.2.2.2.2<(nL x.2.2.1))
 (.nc s.2.2.2.2.2 x.2.2.1
 (.qz
 (.fn qQ ((gT x.2.2.1 s.2.2.2.2.2 (z0,bH,bH,A2)),x.2.2.2.2.2.1) fun y=>
 (.Db (y.2.2==z0)
 (.qz
 (.og (true&&((decide (s.1=z0))||(decide (s.1=z1)))) (((decide (s.1=z0))||(decide (s.1=z1)))=true) (fun h=>(gh rfl h))
 (.call (xb s.1 (cn.base.pre x.1)) (jR s.1 (cn.base.KX x.1) s.2.1) fun aA=>
 (.call (cn.Wv x.1 aA (x.2.2.2.2.2.1,y.2.1)) (cn.ask x.1 aA (x.2.2.2.2.2.1,y.2.1)) fun y_2=>
 (.lt (mZ y_2 s.2.2.1 z1) fun bg=>
 (.lt (mZ y_2 s.2.2.2.1 y_2.2.1) fun bW=>
 (.fn ko y_2.2.2 fun cC=>
 (.pn 2 14
 (.Db (!y_2.1)
 (.fn uE ((gT x.2.2.1 s.2.2.2.2.2 (z0,bH,bH,A2)),x.2.2.2.2.2) fun fP=>
 (.fn ko fP.2 fun ig=>
 (.od ((s.2.2.2.2.1.length+1)<1099511627776)
 (.pn 1 10
 (.ret (.inl (z1,aA,bg,bW,(s.2.2.2.2.1++ [fP.1]),(w1 s.2.2.2.2.2))))))))
 (.pn 1 10
 (.ret (.inl (z1,aA,bg,bW,s.2.2.2.2.1,(w1 s.2.2.2.2.2))))))))))))))
 (.pn 1 10
 (.ret (.inl (s.1,s.2.1,s.2.2.1,s.2.2.2.1,s.2.2.2.2.1,(w1 s.2.2.2.2.2)))))))))
 (.ret (.inr ((s.1,s.2.1,s.2.2.1,s.2.2.2.1,s.2.2.2.2.1)))))
def xA (x:(List I9×List ((I3×I3)×Int×Int×List Int)×List (Int×I3×I3×I2)×I3×(Int×I3)×I3×I3)):aL:=⟨[.env,.env],⟨dL 38 0 [(1,.v (.one (.ptr 8 0))),(3,.v (.one (.full 9))),(4,.v (.one (.i .i64))),(17,.v (.one (.full 9))),(18,.v (.one (.i .i64))),(19,.v (.one (.i .i64)))],[.cells [.full 1,.i IntKind.u32,.i IntKind.i32,.i IntKind.u32,.full 7,.i .i64,.i .i64] 80,.row ff 0,.gone,.row (Ty.prod yi (Ty.prod aO (Ty.prod aO gZ))) 0,.cw 4,.cells [.ptr 0 0,.i .i64,.i .i64,.i .i64,.i .i64,.full 3,.i .i64,.i .i64,.i .i64,.i .i64,.i .i64,.i .i64] 87,.cw 6,.row (Ty.prod (Ty.prod aO aO) (Ty.prod yi (Ty.prod yi (Ty.sl yi)))) 2,.cells [.ptr 0 0,.i .i64,.i .i64,.i .i64,.i .i64,.full 3,.i .i64,.i .i64,.i .i64,.i .i64,.i .i64,.i .i64] 87,.row aO 2],7,none,[10,21],[4,5,8,9,11,12,13,14,15,16,17,18,19,20,23,24,25,26,27,28,29,30,31,32],[3,22,6,7,33,0,1,2],[.i,(.l (Ty.prod (Ty.prod aO aO) (Ty.prod yi (Ty.prod yi (Ty.sl yi))))),.i,.i,(.l aO),.i,.i,.i],[.i 0,.i 0,.l ff x.1,.l (Ty.prod yi (Ty.prod aO (Ty.prod aO gZ))) x.2.2.1,.i x.2.2.2.2.1.1,.i x.2.2.2.2.1.2.1,.i x.2.2.2.2.1.2.2.1,.i x.2.2.2.2.1.2.2.2,.i x.2.2.2.2.2.1.1,.i x.2.2.2.2.2.1.2.1,.i x.2.2.2.2.2.1.2.2,.i x.2.2.2.2.2.2.1,.i x.2.2.2.2.2.2.2.1,.i x.2.2.2.2.2.2.2.2,.i x.2.2.2.2.1.1,.i x.2.2.2.2.1.2.1,.i x.2.2.2.2.1.2.2.1,.i x.2.2.2.2.1.2.2.2,.i x.2.2.2.2.2.1.1,.i x.2.2.2.2.2.1.2.1,.i x.2.2.2.2.2.1.2.2,.i x.2.2.2.2.2.2.1,.i x.2.2.2.2.2.2.2.1,.i x.2.2.2.2.2.2.2.2]⟩,[⟨(.exit 0),.normal,⟨dL 38 0 [(1,.v (.one (.ptr 8 0))),(3,.v (.one (.full 9))),(4,.v (.one (.i .i64)))],[.cells [.full 1,.i IntKind.u32,.i IntKind.i32,.i IntKind.u32,.full 7,.i .i64,.i .i64] 80,.row ff 0,.gone,.row (Ty.prod yi (Ty.prod aO (Ty.prod aO gZ))) 0,.cw 4,.cells [.ptr 0 0,.i .i64,.i .i64,.i .i64,.i .i64,.full 3,.i .i64,.i .i64,.i .i64,.i .i64,.i .i64,.i .i64] 87,.cw 6,.row (Ty.prod (Ty.prod aO aO) (Ty.prod yi (Ty.prod yi (Ty.sl yi)))) 2,.cells [.ptr 0 0,.i .i64,.i .i64,.i .i64,.i .i64,.full 3,.i .i64,.i .i64,.i .i64,.i .i64,.i .i64,.i .i64] 87,.row aO 2],7,none,[8,19],[2,3,6,7,9,10,11,12,13,14,15,16,17,18,21,22,23,24,25,26,27,28,29,30],[1,20,4,5,31,0],[.i,(.l (Ty.prod (Ty.prod aO aO) (Ty.prod yi (Ty.prod yi (Ty.sl yi))))),.i,.i,(.l aO),.i],[.i 0,.i 0,.l ff x.1,.l (Ty.prod yi (Ty.prod aO (Ty.prod aO gZ))) x.2.2.1,.i x.2.2.2.2.1.1,.i x.2.2.2.2.1.2.1,.i x.2.2.2.2.1.2.2.1,.i x.2.2.2.2.1.2.2.2,.i x.2.2.2.2.2.1.1,.i x.2.2.2.2.2.1.2.1,.i x.2.2.2.2.2.1.2.2,.i x.2.2.2.2.2.2.1,.i x.2.2.2.2.2.2.2.1,.i x.2.2.2.2.2.2.2.2,.i x.2.2.2.2.1.1,.i x.2.2.2.2.1.2.1,.i x.2.2.2.2.1.2.2.1,.i x.2.2.2.2.1.2.2.2,.i x.2.2.2.2.2.1.1,.i x.2.2.2.2.2.1.2.1,.i x.2.2.2.2.2.1.2.2,.i x.2.2.2.2.2.2.1,.i x.2.2.2.2.2.2.2.1,.i x.2.2.2.2.2.2.2.2]⟩⟩]⟩
def dh (x:(List I9×List ((I3×I3)×Int×Int×List Int)×List (Int×I3×I3×I2)×I3×(Int×I3)×I3×I3)) (s:(Int×List ((I3×I3)×Int×Int×List Int)×Int×Int×List I3×I3)):(Int×List ((I3×I3)×Int×Int×List Int)×Int×Int×List I3×I3)⊕(Int×List ((I3×I3)×Int×Int×List Int)×Int×Int×List I3×Int):=
 (if (s.2.2.2.2.2.2.2<s.2.2.2.2.2.2.1) then
 (aj (jR s.1 (cn.base.KX x.1) s.2.1) fun y=>
 (aj (cn.ask x.1 y (x.2.2.2.2.2.1,(s.2.2.2.2.1.getD s.2.2.2.2.2.2.2.toNat (0,0,0)))) fun aA=>
 (aj (mZ aA s.2.2.1 1) fun y_2=>
 (aj (mZ aA s.2.2.2.1 aA.2.1) fun bg=>
 (aj (om aA.2.2) fun bW=>
 (if ((!aA.1)=true) then
 (Sum.inl (1,y,y_2,bg,s.2.2.2.2.1,(au (s.2.2.2.2.2.1+1)),s.2.2.2.2.2.2.1,(au (s.2.2.2.2.2.2.2+1)))) else
 (Sum.inl (1,y,y_2,bg,s.2.2.2.2.1,s.2.2.2.2.2.1,s.2.2.2.2.2.2.1,(au (s.2.2.2.2.2.2.2+1)))))))))) else
 (Sum.inr ((s.1,s.2.1,s.2.2.1,s.2.2.2.1,s.2.2.2.2.1,s.2.2.2.2.2.1))))
def hY (x:(List I9×List ((I3×I3)×Int×Int×List Int)×List (Int×I3×I3×I2)×I3×(Int×I3)×I3×I3)) (s:(Int×List ((I3×I3)×Int×Int×List Int)×Int×Int×List I3×I3)):Prop:=
 ((s.2.2.2.2.2.2.2<s.2.2.2.2.2.2.1)->
 (((0<=s.2.2.2.2.2.2.2)/\ (s.2.2.2.2.2.2.2<(s.2.2.2.2.1.length:Int)))/\
 ((s.2.2.2.2.2.2.2.toNat<s.2.2.2.2.1.length)/\
 ((s.2.2.2.2.2.2.2.toNat<s.2.2.2.2.1.length)/\
 ((((decide (s.1=0))||(decide (s.1=1)))=true)/\
 ((xb s.1 (cn.base.pre x.1))/\
 aB (jR s.1 (cn.base.KX x.1) s.2.1) fun y=>
 ((cn.Wv x.1 y (x.2.2.2.2.2.1,(s.2.2.2.2.1.getD s.2.2.2.2.2.2.2.toNat (0,0,0))))/\
 aB (cn.ask x.1 y (x.2.2.2.2.2.1,(s.2.2.2.2.1.getD s.2.2.2.2.2.2.2.toNat (0,0,0)))) fun aA=>
 (aB (mZ aA s.2.2.1 1) fun y_2=>
 (aB (mZ aA s.2.2.2.1 aA.2.1) fun bg=>
 (gN aA.2.2))))))))))
def sW (x:(List I9×List ((I3×I3)×Int×Int×List Int)×List (Int×I3×I3×I2)×I3×(Int×I3)×I3×I3)) (s:(Int×List ((I3×I3)×Int×Int×List Int)×Int×Int×List I3×I3)):Tr ((Int×List ((I3×I3)×Int×Int×List Int)×Int×Int×List I3×I3)⊕(Int×List ((I3×I3)×Int×Int×List Int)×Int×Int×List I3×Int)) true:=
 (.i10 (s.2.2.2.2.2.2.2<s.2.2.2.2.2.2.1)
 (.nc s.2.2.2.2.2.2.2 s.2.2.2.2.1
 (.qz
 (.og (true&&((decide (s.1=z0))||(decide (s.1=z1)))) (((decide (s.1=z0))||(decide (s.1=z1)))=true) (fun h=>(gh rfl h))
 (.call (xb s.1 (cn.base.pre x.1)) (jR s.1 (cn.base.KX x.1) s.2.1) fun y=>
 (.call (cn.Wv x.1 y (x.2.2.2.2.2.1,(gT s.2.2.2.2.1 s.2.2.2.2.2.2.2 bH))) (cn.ask x.1 y (x.2.2.2.2.2.1,(gT s.2.2.2.2.1 s.2.2.2.2.2.2.2 bH))) fun aA=>
 (.lt (mZ aA s.2.2.1 z1) fun y_2=>
 (.lt (mZ aA s.2.2.2.1 aA.2.1) fun bg=>
 (.fn ko aA.2.2 fun bW=>
 (.pn 2 11
 (.iQ (!aA.1)
 (.ret (.inl (z1,y,y_2,bg,s.2.2.2.2.1,(w1 s.2.2.2.2.2.1),s.2.2.2.2.2.2.1,(w1 s.2.2.2.2.2.2.2))))
 (.ret (.inl (z1,y,y_2,bg,s.2.2.2.2.1,s.2.2.2.2.2.1,s.2.2.2.2.2.2.1,(w1 s.2.2.2.2.2.2.2))))))))))))))
 (.ret (.inr ((s.1,s.2.1,s.2.2.1,s.2.2.2.1,s.2.2.2.2.1,s.2.2.2.2.2.1)))))
def KC (x:(List I9×List ((I3×I3)×Int×Int×List Int)×List (Int×I3×I3×I2)×I3×(Int×I3)×I3×I3)):HF Tryz.prog:=⟨_,(av.walk az iO mixed 63 (fn:=Tryz.f63) (by kernel_rfl) (av.nil _ _) fun ys hy=>ax.nil)⟩
def W2 (x:(List I9×List ((I3×I3)×Int×Int×List Int)×List (Int×I3×I3×I2)×I3×(Int×I3)×I3×I3)):HF Tryz.prog:=⟨_,(av.walk az iO mixed 61 (fn:=Tryz.f61) (by kernel_rfl) (KC x).ok fun ys hy=>(ax.tr az ⟨iO,hy,(KC x).ok⟩ mixed 0 (xA x) (sW x) ax.nil (by kernel_rfl) fun g s Q=>(by kernel_rfl)))⟩
def KD (x:(List I9×List ((I3×I3)×Int×Int×List Int)×List (Int×I3×I3×I2)×I3×(Int×I3)×I3×I3)):HF Tryz.prog:=⟨_,(av.walk az iO mixed 62 (fn:=Tryz.f62) (by kernel_rfl) (W2 x).ok fun ys hy=>ax.nil)⟩
def sN (x:(List I9×List ((I3×I3)×Int×Int×List Int)×List (Int×I3×I3×I2)×I3×(Int×I3)×I3×I3)):(Int×List ((I3×I3)×Int×Int×List Int)×I3):=
 (aj (IK ((x.2.2.2.2.1.1,x.2.2.2.2.1.2.1,x.2.2.2.2.1.2.2.1,x.2.2.2.2.1.2.2.2,x.2.2.1),x.2.2.2.2.2)) fun y=>
 (if (((y.length:Int)==0)=true) then
 (aj (run (b9 x) (x.2.2.2.1.1,x.2.1,x.2.2.2.1.2.1,x.2.2.2.1.2.2,[x.2.2.2.2.1.2.2.2],0)) fun r=>
 (aj (V4 r.2.2.2.2) fun aA=>
 (aA,r.2.1,r.1,r.2.2.1,r.2.2.2.1))) else
 (aj (run (dh x) (x.2.2.2.1.1,x.2.1,x.2.2.2.1.2.1,x.2.2.2.1.2.2,y,0,(y.length:Int),0)) fun r=>
 (aj (run (b9 x) (r.1,r.2.1,r.2.2.1,r.2.2.2.1,[(au (Int.tdiv (au (x.2.2.2.2.1.2.2.2*r.2.2.2.2.2)) (r.2.2.2.2.1.length:Int)))],0)) fun r_1=>
 (aj (V4 r_1.2.2.2.2) fun aA=>
 (aA,r_1.2.1,r_1.1,r_1.2.2.1,r_1.2.2.2.1))))))
def lD (x:(List I9×List ((I3×I3)×Int×Int×List Int)×List (Int×I3×I3×I2)×I3×(Int×I3)×I3×I3)):Prop:=
 ((qJ ((x.2.2.2.2.1.1,x.2.2.2.2.1.2.1,x.2.2.2.2.1.2.2.1,x.2.2.2.2.1.2.2.2,x.2.2.1),x.2.2.2.2.2))/\
 aB (IK ((x.2.2.2.2.1.1,x.2.2.2.2.1.2.1,x.2.2.2.2.1.2.2.1,x.2.2.2.2.1.2.2.2,x.2.2.1),x.2.2.2.2.2)) fun y=>
 (((((y.length:Int)==0)=true)->
 (Term (b9 x) (gG x) (x.2.2.2.1.1,x.2.1,x.2.2.2.1.2.1,x.2.2.2.1.2.2,[x.2.2.2.2.1.2.2.2],0)/\
 aB (run (b9 x) (x.2.2.2.1.1,x.2.1,x.2.2.2.1.2.1,x.2.2.2.1.2.2,[x.2.2.2.2.1.2.2.2],0)) fun r=>
 (qO r.2.2.2.2)))/\
 (¬(((y.length:Int)==0)=true)->
 (Term (dh x) (hY x) (x.2.2.2.1.1,x.2.1,x.2.2.2.1.2.1,x.2.2.2.1.2.2,y,0,(y.length:Int),0)/\
 aB (run (dh x) (x.2.2.2.1.1,x.2.1,x.2.2.2.1.2.1,x.2.2.2.1.2.2,y,0,(y.length:Int),0)) fun r=>
 (((r.2.2.2.2.1.length:Int)≠0)/\
 (Term (b9 x) (gG x) (r.1,r.2.1,r.2.2.1,r.2.2.2.1,[(au (Int.tdiv (au (x.2.2.2.2.1.2.2.2*r.2.2.2.2.2)) (r.2.2.2.2.1.length:Int)))],0)/\
 aB (run (b9 x) (r.1,r.2.1,r.2.2.1,r.2.2.2.1,[(au (Int.tdiv (au (x.2.2.2.2.1.2.2.2*r.2.2.2.2.2)) (r.2.2.2.2.1.length:Int)))],0)) fun r_1=>
 (qO r_1.2.2.2.2)))))))
def aa9 (x:(List I9×List ((I3×I3)×Int×Int×List Int)×List (Int×I3×I3×I2)×I3×(Int×I3)×I3×I3)):Tr (Int×List ((I3×I3)×Int×Int×List Int)×I3) true:=
 (.qz
 (.fn y8 ((x.2.2.2.2.1.1,x.2.2.2.2.1.2.1,x.2.2.2.2.1.2.2.1,x.2.2.2.2.1.2.2.2,x.2.2.1),x.2.2.2.2.2) fun y=>
 (.Dq ((nL y)==z0)
 (.pn 1 6
 (aL.lp (vw x) (qu x) (x.2.2.2.1.1,x.2.1,x.2.2.2.1.2.1,x.2.2.2.1.2.2,[x.2.2.2.2.1.2.2.2],z0) fun r=>
 (.fn Bw r.2.2.2.2 fun aA=>
 (.pn 0 4
 (.ret (aA,r.2.1,r.1,r.2.2.1,r.2.2.2.1))))))
 (aL.lp (xA x) (sW x) (x.2.2.2.1.1,x.2.1,x.2.2.2.1.2.1,x.2.2.2.1.2.2,y,z0,(nL y),z0) fun r=>
 (.od ((nL r.2.2.2.2.1)≠z0)
 (.pn 1 6
 (aL.lp (vw x) (qu x) (r.1,r.2.1,r.2.2.1,r.2.2.2.1,[(au (Int.tdiv (au (x.2.2.2.2.1.2.2.2*r.2.2.2.2.2)) (nL r.2.2.2.2.1)))],z0) fun r_1=>
 (.fn Bw r_1.2.2.2.2 fun aA=>
 (.pn 0 4
 (.ret (aA,r_1.2.1,r_1.1,r_1.2.2.1,r_1.2.2.2.1)))))))))))
abbrev PI:FnX:=⟨ag2,lD,sN⟩
theorem W3:Sz Tryz.prog tt kJ 30 (fun _ _ _ _ _=>False) [] (aG Tryz.f32) Tryz.f32 PI:=Sz.tr PI aa9 (fun x=>(KD x).ok) (fun x=>(jV.tr az (af.eA iO (KD x).ok) mixed 0 (cI (blk 0 (aG Tryz.f32))) (vw x) (qu x) jV.nil (by kernel_rfl) fun g s Q=>(by kernel_rfl))) (fun x=>(by kernel_rfl)) (fun x=>(by kernel_rfl)) fun x r0 Q=>(by kernel_rfl)
end Go.Proofs.YtngdehlpoomaiaaGreat
namespace Go.Proofs.YtngdehlpoomaiaaGreat
open Go Go.Ev Go.Proofs
abbrev aew (r:Ty):Type:=vv.T->r.T×(List fS.T×Int×Int×Int)
def Tg {r:Ty} (mt:List AV->Option (Nat×Cell×Qb.T)) (val:r.T->AV) (pre:vv.T->Prop) (f:aew r):Ev.Spec:=fun _ args hp nm k=>match mt args with
 |some (n,cl,y)=>match hp n with
  |some (.cells [cL,.raw (.int .u32 dn),.raw (.int .i32 s),.raw (.int .u32 q),cT,.raw (.int .i64 a),.raw (.int .i64 b)] e)=>match uV hp fS cT with
   |some (T,rr)=>match fa hp (.one (.sl Sf)) [.v (.one cL)] with
    |some (L,[],tc,b0)=>match fa hp (.one (.sl uC)) [.v (.one cl)] with
     | some (Lt,[],ta,b1)=>if decide (e=80)&&(eB (n::rr)&&(oL tc (n::rr)&&oL ta (n::rr))) then
       ob (b0&&(b1&&(decide (s=0)&&decide (q=0)))) (pre (L,T,Lt,(dn,a,b),y)/\ ∀z,z=f (L,T,Lt,(dn,a,b),y)->
        k {val:=val z.1,fresh:= [.row fS z.2.1 2],writes:=(n,.cells (wR cL (.full nm) (.int .u32 z.2.2.1) (.int .i32 0) (.int .u32 0) (.int .i64 z.2.2.2.1) (.int .i64 z.2.2.2.2)) 80)::rr.map fun r=>(r,.gone),aD:=(n::rr)++(tc++ta)}) else False
     |_=>False
    |_=>False
   |none=>False
  |_=>False
 |none=>False
def Xr {r:Ty} (val:r.T->AV) (y:r.T×(List fS.T×Int×Int×Int)) (aq:e8) (W:World) (aZ:Env) (e:Ending) (w':World):Prop:=
 ∃st aX v,e= .returned (v.ae aX)/\ ae5 ep (val y.1) (.int .u32 y.2.2.1) (.int .u32 0) (.int .i64 y.2.2.2.1) (.int .i64 y.2.2.2.2) y.2.1 v st/\ (aX 0=aZ 0/\ aX 1=aZ 1)/\ St aq W aX (· <st.heap.length) (ai st.heap) w'
theorem NZ {r:Ty} {mt:List AV->Option (Nat×Cell×Qb.T)} {val:r.T->AV} {pre:vv.T->Prop} {fm:aew r} {f:FuncId} {A:Cell->Cell->Qb.T->List AV}
  (hmt: ∀args n cl y,mt args=some (n,cl,y)->args=A (.ptr n 0) cl y)
  (hA: ∀y p c p' c' ρ ρ',p.ae ρ=p'.ae ρ'->c.ae ρ=c'.ae ρ'->(A p c y).map (AV.ae ρ)=(A p' c' y).map (AV.ae ρ')) (hval: ∀y,(∀ρ ρ',(val y).ae ρ=(val y).ae ρ')/\ ∀Kn,(val y).ok Kn)
  (tV: ∀x,pre x-> ∀aq W aZ w,aq.bd= []->St aq W aZ (· <4) (ai (jL x)) w->Calls Tryz.prog f ((A (.ptr 0 0) (.full 3) x.2.2.2.2).map (AV.ae aZ)).toArray w (Xr val (fm x) aq W aZ)):ah Tryz.prog f (Tg mt val pre fm):=by
 intro X args hp nm k hs
 unfold Tg at hs
 split at hs
 rotate_left
 ·exact hs.elim
 rename_i n cl y hm
 split at hs
 rotate_left
 ·exact hs.elim
 rename_i cL dn s q cT a b e YN
 split at hs
 rotate_left
 ·exact hs.elim
 rename_i T rr Mu
 split at hs
 rotate_left
 ·exact hs.elim
 rename_i L tc b0 DA
 split at hs
 rotate_left
 ·exact hs.elim
 rename_i Lt ta b1 hd3
 split at hs
 rotate_left
 ·exact hs.elim
 rename_i hc
 simp only [Bool.and_eq_true,decide_eq_true_eq] at hc
 obtain ⟨rfl,ie,AY,Y1⟩:=hc
 obtain ⟨hb,hpre,hk⟩:=bk hs
 simp only [Bool.and_eq_true,decide_eq_true_eq] at hb
 obtain ⟨rfl,rfl,rfl,rfl⟩:=hb
 have hk:=hk _ rfl
 have ea:=hmt _ _ _ _ hm
 subst ea
 refine ⟨_,oM.alB (d:=ep) (tl:=uC) (A:=fun p c=>A p c y) YN Mu DA hd3 ie AY Y1 (hA y) (hval _) (fun aq W aZ w hbd hst=> ?_),hk⟩
 exact tV (L,T,Lt,(dn,a,b),y) hpre aq W aZ w hbd hst
def mtV:List AV->Option (Nat×Cell×Qb.T)
 | [.v (.agg [.ptr n 0,.raw (.int .i64 a),.raw (.int .i64 b),.raw (.int .i64 c),.raw (.int .i64 d),cl,.raw (.int .i64 x),.raw (.int .i64 y),.raw (.int .i64 z),.raw (.int .i64 u),.raw (.int .i64 v),.raw (.int .i64 w)])]=>some (n,cl,(a,b,c,d),(x,y,z),u,v,w)
 |_=>none
theorem agG: ∀args n cl y,mtV args=some (n,cl,y)->args= [cV (.ptr n 0) cl y]:=by
 intro args n cl y h
 unfold mtV at h
 split at h
 ·cases h;rfl
 ·cases h
theorem xQ: ∀c:Code,gC [] c=c
 | .seq a b=>by simp only [gC,xQ a,xQ b]
 | .cond c a b=>by simp only [gC,xQ a,xQ b]
 | .loop c=>by simp only [gC,xQ c]
 | .block id c=>by simp only [gC,xQ c]
 | .region id ops draw=>by simp [gC,xZ]
 | .skip| .exit _| .scope _| .label _| .goto _| .ret| .refuse _| .rangeFunc _ _ _ _=>rfl
theorem agU: ∀v y,rdI v=some y->v= .v (.one (.raw (.int .i64 y))):=by
 intro v y h
 unfold rdI at h
 split at h
 ·cases h;rfl
 ·cases h
theorem PJ (x:vv.T) (hp:lD x) (aq:e8) (W:World) (aZ:Env) (w:World) (hbd:aq.bd= []) (hst:St aq W aZ (· <4) (ai (jL x)) w):
  Calls Tryz.prog 32 (([cV (.ptr 0 0) (.full 3) x.2.2.2.2]).map (AV.ae aZ)).toArray w (Xr (r:=dW) (fun y=> .v (.one (.raw (.int .i64 y)))) (sN x) aq W aZ):=by
 obtain ⟨lp,its,hi,hl,ha,zb⟩:=W3 x hp
 obtain ⟨sO,hold,uo⟩:=hst.pinned
 have zb:goE ⟨tt,kJ,cy,lp,[],its⟩ Tryz.f32 [cV (.ptr 0 0) (.full 3) x.2.2.2.2] (jL x++ [.cw aZ 4]) (BJ 4 aZ (H9 ep rdI (· =sN x))) (fun _=>False):=zb aZ
 have uo:St aq W sO (· <(jL x++ [aF.cw aZ 4]).length) (ai (jL x++ [.cw aZ 4])) w:=uo
 have hok: ∀a∈ [cV (.ptr 0 0) (.full 3) x.2.2.2.2],a.ok (· <4):=fun a ha=>by
  rw [List.mem_singleton] at ha
  subst ha
  intro c hc
  simp only [List.mem_cons,List.not_mem_nil,or_false] at hc
  rcases hc with rfl|rfl|rfl|rfl|rfl|rfl|rfl|rfl|rfl|rfl|rfl|rfl<;>first|trivial|(show _<4;decide)
 have hca: [cV (.ptr 0 0) (.full 3) x.2.2.2.2].map (AV.ae sO)= [cV (.ptr 0 0) (.full 3) x.2.2.2.2].map (AV.ae aZ):=List.map_congr_left fun a ha=>AV.bt (Kn:=(· <4)) hold a (hok a ha)
 rw [<- hca]
 have uj:SA Tryz.prog ⟨tt,kJ,cy,lp,[],its⟩ 30 (fun _ _ _ _ _=>False) [] (aG Tryz.f32):=hl.lpG (ctx:=⟨tt,kJ,cy,lp,[],its⟩) (fun p hp=>hp) ha
 have hcd:cJ ⟨tt,kJ,cy,lp,[],its⟩ (gC [] (aG Tryz.f32)) ⟨[cV (.ptr 0 0) (.full 3) x.2.2.2.2]++List.replicate (Tryz.f32.ntmps- [cV (.ptr 0 0) (.full 3) x.2.2.2.2].length) ck,jL x++ [.cw aZ 4]⟩ (M6 ⟨tt,kJ,cy,lp,[],its⟩ Tryz.f32 (BJ 4 aZ (H9 ep rdI (· =sN x))) (fun _=>False)):=by rw [xQ];exact zb
 have E5:fq Tryz.prog ⟨tt,kJ,cy,lp,[],its⟩:=⟨iO,nW.nil _,hi⟩
 have hb0:Tryz.f32.body=some (aG Tryz.f32):=by kernel_rfl
 have HQ:Tryz.prog.funcs[32]? =some Tryz.f32:=by kernel_rfl
 have Ff:Js (aG Tryz.f32)=true:=by kernel_rfl
 have QO: ∀a∈ [cV (.ptr 0 0) (.full 3) x.2.2.2.2],a.ok (· <(jL x++ [aF.cw aZ 4]).length):=fun a ha=>AV.aV (fun i hi=>by show i<5;omega) a (hok a ha)
 clear zb hl ha hi hca hok
 generalize jL x++ [aF.cw aZ 4]=hp1 at uo hcd QO
 generalize Tryz.f32=fn at uj hcd hb0 HQ Ff
 generalize aG fn=c at uj hcd hb0 Ff
 generalize [cV (.ptr 0 0) (.full 3) x.2.2.2.2]=ar at hcd QO ⊢
 have key:=XZ az E5 mixed HQ hb0 Ff uj (cy.ok aq W) hbd (fun k a w a' w' h=>h.elim) hcd QO uo
 refine key.mono ?_
 clear key hcd uj
 rintro e w' (⟨st,ρ',v,rfl,hv,hR,jW⟩|⟨k,w2,a,a2,st,ρ',rfl,hPn,hfr,hR,aR⟩)
 rotate_left
 ·exact hR.elim
 obtain ⟨h1,h2⟩:=de hR
 have hpe:=(jW.at_ _ _ h1).2
 obtain ⟨y,z,u,a,b,hq,hE⟩:=JJ h2 (val:=fun y=> .v (.one (.raw (.int .i64 y)))) agU
 have hq:(y,z,u,a,b)=sN x:=hq
 rw [<- hq]
 exact ⟨st,ρ',v,rfl,hE,⟨hpe 0 (by decide),hpe 1 (by decide)⟩,jW⟩
def Sh (x:vv.T):abh.T:=sN x
def He (x:vv.T):Prop:=lD x
abbrev G9:cf:=⟨.one vv,.one abh,He,Sh⟩
def Si:Ev.Spec:=fun _ args hp nm k=>match mtV args with
 |some (n,cl,y)=>match hp n with
  |some (.cells [cL,.raw (.int .u32 dn),.raw (.int .i32 s),.raw (.int .u32 q),cT,.raw (.int .i64 a),.raw (.int .i64 b)] e)=>match uV hp fS cT with
   |some (T,rr)=>match fa hp (.one (.sl Sf)) [.v (.one cL)] with
    |some (L,[],tc,b0)=>match fa hp (.one (.sl uC)) [.v (.one cl)] with
     | some (Lt,[],ta,b1)=>if decide (e=80)&&(eB (n::rr)&&(oL tc (n::rr)&&oL ta (n::rr))) then
       ob (b0&&(b1&&(decide (s=0)&&decide (q=0)))) (G9.pre (L,T,Lt,(dn,a,b),y)/\ ∀z,z=G9.f (L,T,Lt,(dn,a,b),y)->
        k {val:= .v (.one (.raw (.int .i64 z.1))),fresh:= [.row fS z.2.1 2],writes:=(n,.cells (wR cL (.full nm) (.int .u32 z.2.2.1) (.int .i32 0) (.int .u32 0) (.int .i64 z.2.2.2.1) (.int .i64 z.2.2.2.2)) 80)::rr.map fun r=>(r,.gone),aD:=(n::rr)++(tc++ta)}) else False
     |_=>False
    |_=>False
   |none=>False
  |_=>False
 |none=>False
theorem W4:Si=Tg (r:=dW) mtV (fun y=> .v (.one (.raw (.int .i64 y)))) lD sN:=rfl
theorem W5:ah Tryz.prog 32 Si:=by
 rw [W4]
 exact NZ (A:=fun p c y=> [cV p c y]) agG (fun y p c p' c' ρ ρ' h1 h2=>by
 simp only [cV,List.map_cons,List.map_nil,AV.ae,A0.ae,h1,h2];rfl) (fun y=>⟨fun _ _=>rfl,fun _=>trivial⟩) fun x hp aq W aZ w hbd hst=>PJ x hp aq W aZ w hbd hst
end Go.Proofs.YtngdehlpoomaiaaGreat
namespace Go.Proofs.YtngdehlpoomaiaaGreat
open Go Go.Ev Go.Proofs
def bB:List (Nat×Ev.Spec):=(32,Si)::kJ
theorem eZ:af Tryz.prog bB:=af.add (fn:=Tryz.f32) (by kernel_rfl) W5 iO
def qD:Ctx:=⟨tt,[],cy,[],[],[]⟩
def UW:Ctx:=⟨tt,bB,cy,[],[],[]⟩
def bV (fn:Func):Code:=cR (cR (aG fn))
def afd:AV->List Cell
 | .v (.agg l)=>l
 |_=> []
def jA (cl:Cell) (y:Qb.T):AV:= .v (.agg [ci y.1.1,ci y.1.2.1,ci y.1.2.2.1,ci y.1.2.2.2,cl])
def pA (p:WX.T):AV:= .v (.agg [ci p.1,ci p.2.1,ci p.2.2])
def pt (n:Nat):AV:= .v (.one (.ptr n 0))
def BD (x:bj.ty.T):Qb.T:=((x.1.1,x.1.2.1,x.1.2.2.1,x.1.2.2.2.1),x.2.1,x.2.2)
def zV3:Value:= .agg #[.int .i64 0,.int .i64 0,.int .i64 0]
def Wf:Value:= .slice none 0 0
def boxes (cl:Cell) (y:Qb.T) (r:aF):List aF:= [.cells (afd (jA cl y)) 25,.cells (afd (pA y.2.1)) 27,.cells (afd (pA y.2.2)) 27,r,.cells [ci 0] 30]
def cP (x:bj.ty.T):List aF:= [.row uC x.1.2.2.2.2 0]
def ahN (x:bj.ty.T):List AV:= [jA (.full 0) (BD x),pA x.2.1,pA x.2.2]
def T1 (x:bj.ty.T):List AV:=ahN x++ [pt 2,pt 3,pt 4,pt 5,pt 6,ck,ck,ck,ck,ck,ck]
def vp:lF:= .pair (.agg WX) (.one dW)
def GU (x:bj.ty.T):List aF:=boxes (.full 0) (BD x) (.cells [ci 0,ci 0,ci 0] 27)
def agX:PX:=⟨bj,.prod WX dW,fun x=>(T1 x).set 8 .dead,fun x r0=>cP x++ .gone::GU x++ [.cw r0 7],fun _ r0 Q=>BJ 7 r0 (qk vp Q),fun _ r0 Q=>Dl 7 7 6 6 5 r0 fun st=>qj qD Tryz.f12 st (qk vp Q)⟩
noncomputable def Tryz.afB:Func:= {Tryz.f12 with body:=some (gC [2] (bV Tryz.f12))}
noncomputable def akY:List (Nat×bC):= [(1000002,NC UW (opsOf 2 (bV Tryz.f12)) 3 31 FO (RG qD (wL 7 6 27 zV3)))]
theorem Lb:cr Tryz.prog 31:=cr.of (fn:=Tryz.f31) (by kernel_rfl) (by kernel_rfl) (by kernel_rfl)
theorem ac0:jV Tryz.prog cy 30 (SC Tryz.prog (wL 7 6 27 zV3)) [2] (bV Tryz.f12) akY:=by
 refine jV.cons (d:= .region 2 (opsOf 2 (bV Tryz.f12)) false) jV.nil (by kernel_rfl) ?_
 exact ze (ctx:=UW) az (af.ctx eZ) mixed Lb BG (zM (ctx:=qD) az _)
def yq (x:((Int×Int×Int×Int×List (Int×I3×I3×I2))×I3×I3)):(I3×Int):=
 (aj (mS x) fun y=>
 (if (y=0) then
 (aj (zJ x) fun aA=>
 (aA.2.1,0)) else
 ((0,0,0),y)))
def sK (x:((Int×Int×Int×Int×List (Int×I3×I3×I2))×I3×I3)):Prop:=
 ((nQ x)/\
 aB (mS x) fun y=>
 ((y=0)->
 (nP x)))
def aaR (x:((Int×Int×Int×Int×List (Int×I3×I3×I2))×I3×I3)):Tr (I3×Int) true:=
 (.fn v9 x fun y=>
 (.i10 (y=z0)
 (.fn v7 x fun aA=>
 (.pn 0 7
 (.ret (aA.2.1,z0))))
 (.pn 0 7
 (.ret (bH,y)))))
abbrev Pv:FnX:=⟨agX,sK,yq⟩
theorem WQ:Sz Tryz.prog tt bB 30 (SC Tryz.prog (wL 7 6 27 zV3)) [2] (bV Tryz.f12) Tryz.afB Pv:=Sz.tr Pv aaR (fun x=>(av.nil _ _)) (fun x=>ac0) (fun x=>(by kernel_rfl)) (fun x=>(by kernel_rfl)) fun x r0 Q=>(by kernel_rfl)
def Ca:lF:= .pair (.one (.sl WX)) (.one dW)
def M7 (x:bj.ty.T):List aF:=boxes (.full 0) (BD x) (.cells [.raw Wf] 46)
def ahX:PX:=⟨bj,.prod (.sl WX) dW,fun x=>(T1 x).set 8 .dead,fun x r0=>cP x++ .gone::M7 x++ [.cw r0 7],fun _ r0 Q=>BJ 7 r0 (qk Ca Q),fun _ r0 Q=>Dl 7 7 6 6 5 r0 fun st=>qj qD Tryz.f15 st (qk Ca Q)⟩
noncomputable def Tryz.afC:Func:= {Tryz.f15 with body:=some (gC [2] (bV Tryz.f15))}
noncomputable def akZ:List (Nat×bC):= [(1000002,NC UW (opsOf 2 (bV Tryz.f15)) 3 31 FO (RG qD (wL 7 6 46 Wf)))]
theorem ac1:jV Tryz.prog cy 30 (SC Tryz.prog (wL 7 6 46 Wf)) [2] (bV Tryz.f15) akZ:=by
 refine jV.cons (d:= .region 2 (opsOf 2 (bV Tryz.f15)) false) jV.nil (by kernel_rfl) ?_
 exact ze (ctx:=UW) az (af.ctx eZ) mixed Lb BG (zM (ctx:=qD) az _)
def EL (x:((Int×Int×Int×Int×List (Int×I3×I3×I2))×I3×I3)):(List I3×Int):=
 (aj (mS x) fun y=>
 (if (y=0) then
 (aj (zJ x) fun aA=>
 (aj (IK ((aA.1.1,aA.1.2.1,aA.1.2.2.1,aA.1.2.2.2,x.1.2.2.2.2),aA.2)) fun y_2=>
 (y_2,0))) else
 ([],y)))
def vI (x:((Int×Int×Int×Int×List (Int×I3×I3×I2))×I3×I3)):Prop:=
 ((nQ x)/\
 aB (mS x) fun y=>
 ((y=0)->
 ((nP x)/\
 aB (zJ x) fun aA=>
 (qJ ((aA.1.1,aA.1.2.1,aA.1.2.2.1,aA.1.2.2.2,x.1.2.2.2.2),aA.2)))))
def acj (x:((Int×Int×Int×Int×List (Int×I3×I3×I2))×I3×I3)):Tr (List I3×Int) true:=
 (.fn v9 x fun y=>
 (.i10 (y=z0)
 (.fn v7 x fun aA=>
 (.fn y8 ((aA.1.1,aA.1.2.1,aA.1.2.2.1,aA.1.2.2.2,x.1.2.2.2.2),aA.2) fun y_2=>
 (.pn 0 7
 (.ret (y_2,z0)))))
 (.pn 0 7
 (.ret ([],y)))))
abbrev SV:FnX:=⟨ahX,vI,EL⟩
theorem Ym:Sz Tryz.prog tt bB 30 (SC Tryz.prog (wL 7 6 46 Wf)) [2] (bV Tryz.f15) Tryz.afC SV:=Sz.tr SV acj (fun x=>(av.nil _ _)) (fun x=>ac1) (fun x=>(by kernel_rfl)) (fun x=>(by kernel_rfl)) fun x r0 Q=>(by kernel_rfl)
def VN (cl:Cell) (y:Qb.T):List AV:= [jA cl y,pA y.2.1,pA y.2.2]
def T2 (a:AV) (cl:Cell) (y:Qb.T) (n:Nat):List AV:=a::VN cl y++ [ck,pt n,pt (n+1),pt (n+2),pt (n+3),pt (n+4)]++List.replicate 13 ck
def BH (v:AV):Option (Int×Int):=match v with
 | .nC [.one (.raw (.int .i64 a)),.one (.raw (.int .i64 b))]=>some (a,b)
 |_=>none
abbrev XC:Ty:= .prod (.prod dW dW) (.prod (.sl fS) (.prod dW (.prod dW dW)))
def akc:PX:=⟨.one vv,XC,fun x=>(T2 (pt 0) (.full 3) x.2.2.2.2 5).set 11 .dead,fun x r0=>jL x++ .gone::boxes (.full 3) x.2.2.2.2 (.cells [ci 0] 3)++ [.cw r0 10],fun _ r0 Q=>BJ 10 r0 (H9 ep BH Q),fun _ r0 Q=>Dl 10 9 8 9 8 r0 fun st=>qj qD Tryz.f11 st (H9 ep BH Q)⟩
noncomputable def Tryz.Yr:Func:= {Tryz.f11 with body:=some (gC [2,4] (bV Tryz.f11))}
noncomputable def akX:List (Nat×bC):= [(1000002,NC UW (opsOf 2 (bV Tryz.f11)) 3 31 FO (RG qD (wL 9 8 3 (.int .i64 0)))),(1000004,Nz 18 (.const (.int .i64 1)) (RG qD (wL 9 8 3 (.int .i64 0))))]
theorem S3:jV Tryz.prog cy 30 (SC Tryz.prog (wL 9 8 3 (.int .i64 0))) [2,4] (bV Tryz.f11) akX:=by
 refine jV.cons (d:= .region 2 (opsOf 2 (bV Tryz.f11)) false) (jV.cons (d:= .region 4 (opsOf 4 (bV Tryz.f11)) false) jV.nil (by kernel_rfl) ?_) (by kernel_rfl) ?_
 ·have e:opsOf 4 (bV Tryz.f11)= #[s8 (opsOf 4 (bV Tryz.f11)) 0,s8 (opsOf 4 (bV Tryz.f11)) 1]:=by kernel_rfl
  rw [e]
  exact Fg ⟨by kernel_rfl,by kernel_rfl,by kernel_rfl⟩ ⟨by kernel_rfl,by kernel_rfl⟩ zF wj (zM (ctx:=qD) az _)
 ·exact ze (ctx:=UW) az (af.ctx eZ) mixed Lb BG (zM (ctx:=qD) az _)
def KO (x:(List I9×List ((I3×I3)×Int×Int×List Int)×List (Int×I3×I3×I2)×I3×(Int×I3)×I3×I3)):(I2×List ((I3×I3)×Int×Int×List Int)×I3):=
 (aj (mS ((x.2.2.2.2.1.1,x.2.2.2.2.1.2.1,x.2.2.2.2.1.2.2.1,x.2.2.2.2.1.2.2.2,x.2.2.1),x.2.2.2.2.2)) fun y=>
 (if (y=0) then
 (aj (zJ ((x.2.2.2.2.1.1,x.2.2.2.2.1.2.1,x.2.2.2.2.1.2.2.1,x.2.2.2.2.1.2.2.2,x.2.2.1),x.2.2.2.2.2)) fun aA=>
 (aj (Sh (x.1,x.2.1,x.2.2.1,x.2.2.2.1,aA)) fun y_2=>
 ((y_2.1,0),y_2.2))) else
 ((0,y),x.2.1,x.2.2.2.1)))
def tg (x:(List I9×List ((I3×I3)×Int×Int×List Int)×List (Int×I3×I3×I2)×I3×(Int×I3)×I3×I3)):Prop:=
 ((nQ ((x.2.2.2.2.1.1,x.2.2.2.2.1.2.1,x.2.2.2.2.1.2.2.1,x.2.2.2.2.1.2.2.2,x.2.2.1),x.2.2.2.2.2))/\
 aB (mS ((x.2.2.2.2.1.1,x.2.2.2.2.1.2.1,x.2.2.2.2.1.2.2.1,x.2.2.2.2.1.2.2.2,x.2.2.1),x.2.2.2.2.2)) fun y=>
 ((y=0)->
 ((nP ((x.2.2.2.2.1.1,x.2.2.2.2.1.2.1,x.2.2.2.2.1.2.2.1,x.2.2.2.2.1.2.2.2,x.2.2.1),x.2.2.2.2.2))/\
 aB (zJ ((x.2.2.2.2.1.1,x.2.2.2.2.1.2.1,x.2.2.2.2.1.2.2.1,x.2.2.2.2.1.2.2.2,x.2.2.1),x.2.2.2.2.2)) fun aA=>
 (He (x.1,x.2.1,x.2.2.1,x.2.2.2.1,aA)))))
def ae9 (x:(List I9×List ((I3×I3)×Int×Int×List Int)×List (Int×I3×I3×I2)×I3×(Int×I3)×I3×I3)):Tr (I2×List ((I3×I3)×Int×Int×List Int)×I3) true:=
 (.fn v9 ((x.2.2.2.2.1.1,x.2.2.2.2.1.2.1,x.2.2.2.2.1.2.2.1,x.2.2.2.2.1.2.2.2,x.2.2.1),x.2.2.2.2.2) fun y=>
 (.i10 (y=z0)
 (.fn v7 ((x.2.2.2.2.1.1,x.2.2.2.2.1.2.1,x.2.2.2.2.1.2.2.1,x.2.2.2.2.1.2.2.2,x.2.2.1),x.2.2.2.2.2) fun aA=>
 (.fn G9 (x.1,x.2.1,x.2.2.1,x.2.2.2.1,aA) fun y_2=>
 (.pn 0 10
 (.ret ((y_2.1,z0),y_2.2)))))
 (.pn 0 10
 (.ret ((z0,y),x.2.1,x.2.2.2.1)))))
abbrev Xx:FnX:=⟨akc,tg,KO⟩
theorem abR:Sz Tryz.prog tt bB 30 (SC Tryz.prog (wL 9 8 3 (.int .i64 0))) [2,4] (bV Tryz.f11) Tryz.Yr Xx:=Sz.tr Xx ae9 (fun x=>(av.nil _ _)) (fun x=>S3) (fun x=>(by kernel_rfl)) (fun x=>(by kernel_rfl)) fun x r0 Q=>(by kernel_rfl)
def rdQ {τ:Type} (rd:AV->Option τ) (Q:τ->Prop) (v:AV) (_:AS):Prop:=match rd v with
 |some y=>Q y
 |none=>False
def ahJ:PX:=⟨bj,.prod dW dW,fun x=>(T2 (.v (.one (.raw (.pointer none)))) (.full 0) (BD x) 2).set 11 .dead,fun x r0=>cP x++ .gone::boxes (.full 0) (BD x) (.cells [ci 0] 3)++ [.cw r0 7],fun _ r0 Q=>BJ 7 r0 (rdQ BH Q),fun _ r0 Q=>Dl 7 9 8 6 5 r0 fun st=>qj qD Tryz.f11 st (rdQ BH Q)⟩
def MC (x:((Int×Int×Int×Int×List (Int×I3×I3×I2))×I3×I3)):I2:=
 (aj (mS x) fun y=>
 (if (y=0) then
 (aj (zJ x) fun aA=>
 (0,1)) else
 (0,y)))
def yI (x:((Int×Int×Int×Int×List (Int×I3×I3×I2))×I3×I3)):Prop:=
 ((nQ x)/\
 aB (mS x) fun y=>
 ((y=0)->
 (nP x)))
def afa (x:((Int×Int×Int×Int×List (Int×I3×I3×I2))×I3×I3)):Tr I2 true:=
 (.fn v9 x fun y=>
 (.i10 (y=z0)
 (.fn v7 x fun aA=>
 (.pn 0 7
 (.ret (z0,z1))))
 (.pn 0 7
 (.ret (z0,y)))))
abbrev XA:FnX:=⟨ahJ,yI,MC⟩
theorem abS:Sz Tryz.prog tt bB 30 (SC Tryz.prog (wL 9 8 3 (.int .i64 0))) [2,4] (bV Tryz.f11) Tryz.Yr XA:=Sz.tr XA afa (fun x=>(av.nil _ _)) (fun x=>S3) (fun x=>(by kernel_rfl)) (fun x=>(by kernel_rfl)) fun x r0 Q=>(by kernel_rfl)
end Go.Proofs.YtngdehlpoomaiaaGreat
