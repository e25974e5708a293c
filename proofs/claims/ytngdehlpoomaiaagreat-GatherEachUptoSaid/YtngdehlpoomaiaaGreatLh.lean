/- A caster's value, as1 a function that is lent a ray.Caster. -/
import Derived.Test.YtngdehlpoomaiaaGreatKi
import Derived.Test.YtngdehlpoomaiaaGreatKk
noncomputable section
set_option linter.unusedSectionVars false
set_option linter.unusedVariables false
set_option linter.unusedSimpArgs false
namespace Go.Proofs.YtngdehlpoomaiaaGreat
open Go Go.Ev Go.Proofs
abbrev vN:Ty:= .prod (.sl IS) (.prod (.sl fM) (.prod (.sl si) (.prod (.prod da (.prod da da)) O5)))
abbrev acf:Ty:= .prod da (.prod (.sl fM) (.prod da (.prod da da)))
def cV (p cl:Cell) (y:O5.T):AV:= .v (.agg [p,ci y.1.1,ci y.1.2.1,ci y.1.2.2.1,ci y.1.2.2.2,cl,ci y.2.1.1,ci y.2.1.2.1,ci y.2.1.2.2,ci y.2.2.1,ci y.2.2.2.1,ci y.2.2.2.2])
def rdI (v:AV):Option Int:=match v with
 | .v (.one (.raw (.int .i64 y)))=>some y
 |_=>none
def jF (x:vN.T):List aG:=xp dW si x.1 x.2.1 x.2.2.1 (.int .u32 x.2.2.2.1.1) (.int .i32 0) (.int .u32 0) (.int .i64 x.2.2.2.1.2.1) (.int .i64 x.2.2.2.1.2.2)
def aia:PX:=⟨.one vN,acf,fun x=> [cV (.ptr 0 0) (.full 3) x.2.2.2.2],fun x r0=>jF x++ [.bT r0 4],fun _ r0 Q=>yp 4 r0 (IN dW rdI Q),fun _ _ _ _=>False⟩
def vO (x:(List I9×List ((I3×I3)×Int×Int×List Int)×List (Int×I3×I3×I2)×I3×(Int×I3)×I3×I3)):aK:=⟨[.env],⟨di 26 0 [(3,.v (.one (.ptr 6 0))),(4,.v (.one (.iP 62 0 [.loc 8 0,.loc 6 0]))),(14,.v (.one (.full 3))),(15,.v (.one (.i .i64))),(16,.v (.one (.i .i64)))],[.cells [.full 1,.i IntKind.u32,.i IntKind.i32,.i IntKind.u32,.full 5,.i .i64,.i .i64] 80,.row dF 0,.gone,.row (Ty.prod yi (Ty.prod aM (Ty.prod aM fX))) 0,.bT 4,.row (Ty.prod (Ty.prod aM aM) (Ty.prod yi (Ty.prod yi (Ty.sl yi)))) 2,.cells [.full 7] 38,.row yi 2,.cells [.ptr 0 0,.i .i64,.i .i64,.i .i64,.i .i64,.full 3,.i .i64,.i .i64,.i .i64,.i .i64,.i .i64,.i .i64] 87],5,none,[9],[0,3,4,7,8,12,13,14,15,16,17,18,19,20,21],[2,10,5,6,11,1],[.i,(.l (Ty.prod (Ty.prod aM aM) (Ty.prod yi (Ty.prod yi (Ty.sl yi))))),.i,.i,(.l yi),.i],[.i (x.2.2.1.length:Int),.i 0,.i 0,.l dF x.1,.l (Ty.prod yi (Ty.prod aM (Ty.prod aM fX))) x.2.2.1,.i x.2.2.2.2.1.1,.i x.2.2.2.2.1.2.1,.i x.2.2.2.2.1.2.2.1,.i x.2.2.2.2.1.2.2.2,.i x.2.2.2.2.2.1.1,.i x.2.2.2.2.2.1.2.1,.i x.2.2.2.2.2.1.2.2,.i x.2.2.2.2.2.2.1,.i x.2.2.2.2.2.2.2.1,.i x.2.2.2.2.2.2.2.2]⟩,[⟨(.exit 0),.normal,⟨di 26 0 [(3,.v (.one (.ptr 6 0)))],[.cells [.full 1,.i IntKind.u32,.i IntKind.i32,.i IntKind.u32,.full 5,.i .i64,.i .i64] 80,.row dF 0,.gone,.row (Ty.prod yi (Ty.prod aM (Ty.prod aM fX))) 0,.bT 4,.row (Ty.prod (Ty.prod aM aM) (Ty.prod yi (Ty.prod yi (Ty.sl yi)))) 2,.cells [.full 7] 38,.row yi 2],5,none,[7],[1,2,5,6],[0,8,3,4,9],[.i,(.l (Ty.prod (Ty.prod aM aM) (Ty.prod yi (Ty.prod yi (Ty.sl yi))))),.i,.i,(.l yi)],[.i 0,.i 0,.l dF x.1,.l (Ty.prod yi (Ty.prod aM (Ty.prod aM fX))) x.2.2.1]⟩⟩]⟩
def bW (x:(List I9×List ((I3×I3)×Int×Int×List Int)×List (Int×I3×I3×I2)×I3×(Int×I3)×I3×I3)) (s:(Int×List ((I3×I3)×Int×Int×List Int)×Int×Int×List Int×Int)):(Int×List ((I3×I3)×Int×Int×List Int)×Int×Int×List Int×Int)⊕(Int×List ((I3×I3)×Int×Int×List Int)×Int×Int×List Int):=
 (if (s.2.2.2.2.2<(x.2.2.1.length:Int)) then
 (aq (sk ((x.2.2.1.getD s.2.2.2.2.2.toNat (0,(0,0,0),(0,0,0),0,0)),x.2.2.2.2.2.1)) fun y=>
 (if ((y.2.2==0)=true) then
 (aq (jK s.1 (cj.base.LD x.1) s.2.1) fun aB=>
 (aq (cj.ask x.1 aB (x.2.2.2.2.2.1,y.2.1)) fun y_2=>
 (aq (mZ y_2 s.2.2.1 1) fun bk=>
 (aq (mZ y_2 s.2.2.2.1 y_2.2.1) fun bQ=>
 (aq (oz y_2.2.2) fun jt=>
 (if ((!y_2.1)=true) then
 (aq (F6 ((x.2.2.1.getD s.2.2.2.2.2.toNat (0,(0,0,0),(0,0,0),0,0)),x.2.2.2.2.2)) fun nI=>
 (aq (oz nI.2) fun Nk=>
 (Sum.inl (1,aB,bk,bQ,(s.2.2.2.2.1++ [nI.1]),(av (s.2.2.2.2.2+1)))))) else
 (Sum.inl (1,aB,bk,bQ,s.2.2.2.2.1,(av (s.2.2.2.2.2+1)))))))))) else
 (Sum.inl (s.1,s.2.1,s.2.2.1,s.2.2.2.1,s.2.2.2.2.1,(av (s.2.2.2.2.2+1)))))) else
 (Sum.inr ((s.1,s.2.1,s.2.2.1,s.2.2.2.1,s.2.2.2.2.1))))
def gw (x:(List I9×List ((I3×I3)×Int×Int×List Int)×List (Int×I3×I3×I2)×I3×(Int×I3)×I3×I3)) (s:(Int×List ((I3×I3)×Int×Int×List Int)×Int×Int×List Int×Int)):Prop:=
 ((s.2.2.2.2.2<(x.2.2.1.length:Int))->
 (((0<=s.2.2.2.2.2)/\ (s.2.2.2.2.2<(x.2.2.1.length:Int)))/\
 ((s.2.2.2.2.2.toNat<x.2.2.1.length)/\
 ((s.2.2.2.2.2.toNat<x.2.2.1.length)/\
 ((mw ((x.2.2.1.getD s.2.2.2.2.2.toNat (0,(0,0,0),(0,0,0),0,0)),x.2.2.2.2.2.1))/\
 aC (sk ((x.2.2.1.getD s.2.2.2.2.2.toNat (0,(0,0,0),(0,0,0),0,0)),x.2.2.2.2.2.1)) fun y=>
 (((y.2.2==0)=true)->
 ((((decide (s.1=0))||(decide (s.1=1)))=true)/\
 ((xu s.1 (cj.base.pre x.1))/\
 aC (jK s.1 (cj.base.LD x.1) s.2.1) fun aB=>
 ((cj.Xe x.1 aB (x.2.2.2.2.2.1,y.2.1))/\
 aC (cj.ask x.1 aB (x.2.2.2.2.2.1,y.2.1)) fun y_2=>
 (aC (mZ y_2 s.2.2.1 1) fun bk=>
 (aC (mZ y_2 s.2.2.2.1 y_2.2.1) fun bQ=>
 ((fx y_2.2.2)/\
 aC (oz y_2.2.2) fun jt=>
 (((!y_2.1)=true)->
 ((sj ((x.2.2.1.getD s.2.2.2.2.2.toNat (0,(0,0,0),(0,0,0),0,0)),x.2.2.2.2.2))/\
 aC (F6 ((x.2.2.1.getD s.2.2.2.2.2.toNat (0,(0,0,0),(0,0,0),0,0)),x.2.2.2.2.2)) fun nI=>
 ((fx nI.2)/\
 aC (oz nI.2) fun Nk=>
 ((s.2.2.2.2.1.length+1)<1099511627776))))))))))))))))
def qD (x:(List I9×List ((I3×I3)×Int×Int×List Int)×List (Int×I3×I3×I2)×I3×(Int×I3)×I3×I3)) (s:(Int×List ((I3×I3)×Int×Int×List Int)×Int×Int×List Int×Int)):Tr ((Int×List ((I3×I3)×Int×Int×List Int)×Int×Int×List Int×Int)⊕(Int×List ((I3×I3)×Int×Int×List Int)×Int×Int×List Int)) true:=
 (.i10 (s.2.2.2.2.2<(nL x.2.2.1))
 (.mS s.2.2.2.2.2 x.2.2.1
 (.Bq
 (.fn qZ ((gT x.2.2.1 s.2.2.2.2.2 (z0,bX,bX,Cq)),x.2.2.2.2.2.1) fun y=>
 (.Dw (y.2.2==z0)
 (.Bq
 (.og (true&&((decide (s.1=z0))||(decide (s.1=z1)))) (((decide (s.1=z0))||(decide (s.1=z1)))=true) (fun h=>(gV rfl h))
 (.call (xu s.1 (cj.base.pre x.1)) (jK s.1 (cj.base.LD x.1) s.2.1) fun aB=>
 (.call (cj.Xe x.1 aB (x.2.2.2.2.2.1,y.2.1)) (cj.ask x.1 aB (x.2.2.2.2.2.1,y.2.1)) fun y_2=>
 (.lt (mZ y_2 s.2.2.1 z1) fun bk=>
 (.lt (mZ y_2 s.2.2.2.1 y_2.2.1) fun bQ=>
 (.fn jm y_2.2.2 fun jt=>
 (.pn 2 14
 (.Dw (!y_2.1)
 (.fn zR ((gT x.2.2.1 s.2.2.2.2.2 (z0,bX,bX,Cq)),x.2.2.2.2.2) fun nI=>
 (.fn jm nI.2 fun Nk=>
 (.od ((s.2.2.2.2.1.length+1)<1099511627776)
 (.pn 1 10
 (.ret (.inl (z1,aB,bk,bQ,(s.2.2.2.2.1++ [nI.1]),(w1 s.2.2.2.2.2))))))))
 (.pn 1 10
 (.ret (.inl (z1,aB,bk,bQ,s.2.2.2.2.1,(w1 s.2.2.2.2.2))))))))))))))
 (.pn 1 10
 (.ret (.inl (s.1,s.2.1,s.2.2.1,s.2.2.2.1,s.2.2.2.2.1,(w1 s.2.2.2.2.2)))))))))
 (.ret (.inr ((s.1,s.2.1,s.2.2.1,s.2.2.2.1,s.2.2.2.2.1)))))
def xP (x:(List I9×List ((I3×I3)×Int×Int×List Int)×List (Int×I3×I3×I2)×I3×(Int×I3)×I3×I3)):aK:=⟨[.env,.env],⟨di 38 0 [(1,.v (.one (.ptr 8 0))),(3,.v (.one (.full 9))),(4,.v (.one (.i .i64))),(17,.v (.one (.full 9))),(18,.v (.one (.i .i64))),(19,.v (.one (.i .i64)))],[.cells [.full 1,.i IntKind.u32,.i IntKind.i32,.i IntKind.u32,.full 7,.i .i64,.i .i64] 80,.row dF 0,.gone,.row (Ty.prod yi (Ty.prod aM (Ty.prod aM fX))) 0,.bT 4,.cells [.ptr 0 0,.i .i64,.i .i64,.i .i64,.i .i64,.full 3,.i .i64,.i .i64,.i .i64,.i .i64,.i .i64,.i .i64] 87,.bT 6,.row (Ty.prod (Ty.prod aM aM) (Ty.prod yi (Ty.prod yi (Ty.sl yi)))) 2,.cells [.ptr 0 0,.i .i64,.i .i64,.i .i64,.i .i64,.full 3,.i .i64,.i .i64,.i .i64,.i .i64,.i .i64,.i .i64] 87,.row aM 2],7,none,[10,21],[4,5,8,9,11,12,13,14,15,16,17,18,19,20,23,24,25,26,27,28,29,30,31,32],[3,22,6,7,33,0,1,2],[.i,(.l (Ty.prod (Ty.prod aM aM) (Ty.prod yi (Ty.prod yi (Ty.sl yi))))),.i,.i,(.l aM),.i,.i,.i],[.i 0,.i 0,.l dF x.1,.l (Ty.prod yi (Ty.prod aM (Ty.prod aM fX))) x.2.2.1,.i x.2.2.2.2.1.1,.i x.2.2.2.2.1.2.1,.i x.2.2.2.2.1.2.2.1,.i x.2.2.2.2.1.2.2.2,.i x.2.2.2.2.2.1.1,.i x.2.2.2.2.2.1.2.1,.i x.2.2.2.2.2.1.2.2,.i x.2.2.2.2.2.2.1,.i x.2.2.2.2.2.2.2.1,.i x.2.2.2.2.2.2.2.2,.i x.2.2.2.2.1.1,.i x.2.2.2.2.1.2.1,.i x.2.2.2.2.1.2.2.1,.i x.2.2.2.2.1.2.2.2,.i x.2.2.2.2.2.1.1,.i x.2.2.2.2.2.1.2.1,.i x.2.2.2.2.2.1.2.2,.i x.2.2.2.2.2.2.1,.i x.2.2.2.2.2.2.2.1,.i x.2.2.2.2.2.2.2.2]⟩,[⟨(.exit 0),.normal,⟨di 38 0 [(1,.v (.one (.ptr 8 0))),(3,.v (.one (.full 9))),(4,.v (.one (.i .i64)))],[.cells [.full 1,.i IntKind.u32,.i IntKind.i32,.i IntKind.u32,.full 7,.i .i64,.i .i64] 80,.row dF 0,.gone,.row (Ty.prod yi (Ty.prod aM (Ty.prod aM fX))) 0,.bT 4,.cells [.ptr 0 0,.i .i64,.i .i64,.i .i64,.i .i64,.full 3,.i .i64,.i .i64,.i .i64,.i .i64,.i .i64,.i .i64] 87,.bT 6,.row (Ty.prod (Ty.prod aM aM) (Ty.prod yi (Ty.prod yi (Ty.sl yi)))) 2,.cells [.ptr 0 0,.i .i64,.i .i64,.i .i64,.i .i64,.full 3,.i .i64,.i .i64,.i .i64,.i .i64,.i .i64,.i .i64] 87,.row aM 2],7,none,[8,19],[2,3,6,7,9,10,11,12,13,14,15,16,17,18,21,22,23,24,25,26,27,28,29,30],[1,20,4,5,31,0],[.i,(.l (Ty.prod (Ty.prod aM aM) (Ty.prod yi (Ty.prod yi (Ty.sl yi))))),.i,.i,(.l aM),.i],[.i 0,.i 0,.l dF x.1,.l (Ty.prod yi (Ty.prod aM (Ty.prod aM fX))) x.2.2.1,.i x.2.2.2.2.1.1,.i x.2.2.2.2.1.2.1,.i x.2.2.2.2.1.2.2.1,.i x.2.2.2.2.1.2.2.2,.i x.2.2.2.2.2.1.1,.i x.2.2.2.2.2.1.2.1,.i x.2.2.2.2.2.1.2.2,.i x.2.2.2.2.2.2.1,.i x.2.2.2.2.2.2.2.1,.i x.2.2.2.2.2.2.2.2,.i x.2.2.2.2.1.1,.i x.2.2.2.2.1.2.1,.i x.2.2.2.2.1.2.2.1,.i x.2.2.2.2.1.2.2.2,.i x.2.2.2.2.2.1.1,.i x.2.2.2.2.2.1.2.1,.i x.2.2.2.2.2.1.2.2,.i x.2.2.2.2.2.2.1,.i x.2.2.2.2.2.2.2.1,.i x.2.2.2.2.2.2.2.2]⟩⟩]⟩
def c8 (x:(List I9×List ((I3×I3)×Int×Int×List Int)×List (Int×I3×I3×I2)×I3×(Int×I3)×I3×I3)) (s:(Int×List ((I3×I3)×Int×Int×List Int)×Int×Int×List I3×I3)):(Int×List ((I3×I3)×Int×Int×List Int)×Int×Int×List I3×I3)⊕(Int×List ((I3×I3)×Int×Int×List Int)×Int×Int×List I3×Int):=
 (if (s.2.2.2.2.2.2.2<s.2.2.2.2.2.2.1) then
 (aq (jK s.1 (cj.base.LD x.1) s.2.1) fun y=>
 (aq (cj.ask x.1 y (x.2.2.2.2.2.1,(s.2.2.2.2.1.getD s.2.2.2.2.2.2.2.toNat (0,0,0)))) fun aB=>
 (aq (mZ aB s.2.2.1 1) fun y_2=>
 (aq (mZ aB s.2.2.2.1 aB.2.1) fun bk=>
 (aq (oz aB.2.2) fun bQ=>
 (if ((!aB.1)=true) then
 (Sum.inl (1,y,y_2,bk,s.2.2.2.2.1,(av (s.2.2.2.2.2.1+1)),s.2.2.2.2.2.2.1,(av (s.2.2.2.2.2.2.2+1)))) else
 (Sum.inl (1,y,y_2,bk,s.2.2.2.2.1,s.2.2.2.2.2.1,s.2.2.2.2.2.2.1,(av (s.2.2.2.2.2.2.2+1)))))))))) else
 (Sum.inr ((s.1,s.2.1,s.2.2.1,s.2.2.2.1,s.2.2.2.2.1,s.2.2.2.2.2.1))))
def gY (x:(List I9×List ((I3×I3)×Int×Int×List Int)×List (Int×I3×I3×I2)×I3×(Int×I3)×I3×I3)) (s:(Int×List ((I3×I3)×Int×Int×List Int)×Int×Int×List I3×I3)):Prop:=
 ((s.2.2.2.2.2.2.2<s.2.2.2.2.2.2.1)->
 (((0<=s.2.2.2.2.2.2.2)/\ (s.2.2.2.2.2.2.2<(s.2.2.2.2.1.length:Int)))/\
 ((s.2.2.2.2.2.2.2.toNat<s.2.2.2.2.1.length)/\
 ((s.2.2.2.2.2.2.2.toNat<s.2.2.2.2.1.length)/\
 ((((decide (s.1=0))||(decide (s.1=1)))=true)/\
 ((xu s.1 (cj.base.pre x.1))/\
 aC (jK s.1 (cj.base.LD x.1) s.2.1) fun y=>
 ((cj.Xe x.1 y (x.2.2.2.2.2.1,(s.2.2.2.2.1.getD s.2.2.2.2.2.2.2.toNat (0,0,0))))/\
 aC (cj.ask x.1 y (x.2.2.2.2.2.1,(s.2.2.2.2.1.getD s.2.2.2.2.2.2.2.toNat (0,0,0)))) fun aB=>
 (aC (mZ aB s.2.2.1 1) fun y_2=>
 (aC (mZ aB s.2.2.2.1 aB.2.1) fun bk=>
 (fx aB.2.2))))))))))
def tu (x:(List I9×List ((I3×I3)×Int×Int×List Int)×List (Int×I3×I3×I2)×I3×(Int×I3)×I3×I3)) (s:(Int×List ((I3×I3)×Int×Int×List Int)×Int×Int×List I3×I3)):Tr ((Int×List ((I3×I3)×Int×Int×List Int)×Int×Int×List I3×I3)⊕(Int×List ((I3×I3)×Int×Int×List Int)×Int×Int×List I3×Int)) true:=
 (.i10 (s.2.2.2.2.2.2.2<s.2.2.2.2.2.2.1)
 (.mS s.2.2.2.2.2.2.2 s.2.2.2.2.1
 (.Bq
 (.og (true&&((decide (s.1=z0))||(decide (s.1=z1)))) (((decide (s.1=z0))||(decide (s.1=z1)))=true) (fun h=>(gV rfl h))
 (.call (xu s.1 (cj.base.pre x.1)) (jK s.1 (cj.base.LD x.1) s.2.1) fun y=>
 (.call (cj.Xe x.1 y (x.2.2.2.2.2.1,(gT s.2.2.2.2.1 s.2.2.2.2.2.2.2 bX))) (cj.ask x.1 y (x.2.2.2.2.2.1,(gT s.2.2.2.2.1 s.2.2.2.2.2.2.2 bX))) fun aB=>
 (.lt (mZ aB s.2.2.1 z1) fun y_2=>
 (.lt (mZ aB s.2.2.2.1 aB.2.1) fun bk=>
 (.fn jm aB.2.2 fun bQ=>
 (.pn 2 11
 (.qH (!aB.1)
 (.ret (.inl (z1,y,y_2,bk,s.2.2.2.2.1,(w1 s.2.2.2.2.2.1),s.2.2.2.2.2.2.1,(w1 s.2.2.2.2.2.2.2))))
 (.ret (.inl (z1,y,y_2,bk,s.2.2.2.2.1,s.2.2.2.2.2.1,s.2.2.2.2.2.2.1,(w1 s.2.2.2.2.2.2.2))))))))))))))
 (.ret (.inr ((s.1,s.2.1,s.2.2.1,s.2.2.2.1,s.2.2.2.2.1,s.2.2.2.2.2.1)))))
def Ld (x:(List I9×List ((I3×I3)×Int×Int×List Int)×List (Int×I3×I3×I2)×I3×(Int×I3)×I3×I3)):Lr Tryz.prog:=⟨_,(ax.walk aA iK mixed 63 (fn:=Tryz.f63) (by kernel_rfl) (ax.nil _ _) fun ys hy=>ay.nil)⟩
def XN (x:(List I9×List ((I3×I3)×Int×Int×List Int)×List (Int×I3×I3×I2)×I3×(Int×I3)×I3×I3)):Lr Tryz.prog:=⟨_,(ax.walk aA iK mixed 61 (fn:=Tryz.f61) (by kernel_rfl) (Ld x).ok fun ys hy=>(ay.tr aA ⟨iK,hy,(Ld x).ok⟩ mixed 0 (xP x) (tu x) ay.nil (by kernel_rfl) fun g s Q=>(by kernel_rfl)))⟩
def Le (x:(List I9×List ((I3×I3)×Int×Int×List Int)×List (Int×I3×I3×I2)×I3×(Int×I3)×I3×I3)):Lr Tryz.prog:=⟨_,(ax.walk aA iK mixed 62 (fn:=Tryz.f62) (by kernel_rfl) (XN x).ok fun ys hy=>ay.nil)⟩
def s8 (x:(List I9×List ((I3×I3)×Int×Int×List Int)×List (Int×I3×I3×I2)×I3×(Int×I3)×I3×I3)):(Int×List ((I3×I3)×Int×Int×List Int)×I3):=
 (aq (Jo ((x.2.2.2.2.1.1,x.2.2.2.2.1.2.1,x.2.2.2.2.1.2.2.1,x.2.2.2.2.1.2.2.2,x.2.2.1),x.2.2.2.2.2)) fun y=>
 (if (((y.length:Int)==0)=true) then
 (aq (run (bW x) (x.2.2.2.1.1,x.2.1,x.2.2.2.1.2.1,x.2.2.2.1.2.2,[x.2.2.2.2.1.2.2.2],0)) fun r=>
 (aq (aaI r.2.2.2.2) fun aB=>
 (aB,r.2.1,r.1,r.2.2.1,r.2.2.2.1))) else
 (aq (run (c8 x) (x.2.2.2.1.1,x.2.1,x.2.2.2.1.2.1,x.2.2.2.1.2.2,y,0,(y.length:Int),0)) fun r=>
 (aq (run (bW x) (r.1,r.2.1,r.2.2.1,r.2.2.2.1,[(av (Int.tdiv (av (x.2.2.2.2.1.2.2.2*r.2.2.2.2.2)) (r.2.2.2.2.1.length:Int)))],0)) fun r_1=>
 (aq (aaI r_1.2.2.2.2) fun aB=>
 (aB,r_1.2.1,r_1.1,r_1.2.2.1,r_1.2.2.2.1))))))
def lG (x:(List I9×List ((I3×I3)×Int×Int×List Int)×List (Int×I3×I3×I2)×I3×(Int×I3)×I3×I3)):Prop:=
 ((qR ((x.2.2.2.2.1.1,x.2.2.2.2.1.2.1,x.2.2.2.2.1.2.2.1,x.2.2.2.2.1.2.2.2,x.2.2.1),x.2.2.2.2.2))/\
 aC (Jo ((x.2.2.2.2.1.1,x.2.2.2.2.1.2.1,x.2.2.2.2.1.2.2.1,x.2.2.2.2.1.2.2.2,x.2.2.1),x.2.2.2.2.2)) fun y=>
 (((((y.length:Int)==0)=true)->
 (Term (bW x) (gw x) (x.2.2.2.1.1,x.2.1,x.2.2.2.1.2.1,x.2.2.2.1.2.2,[x.2.2.2.2.1.2.2.2],0)/\
 aC (run (bW x) (x.2.2.2.1.1,x.2.1,x.2.2.2.1.2.1,x.2.2.2.1.2.2,[x.2.2.2.2.1.2.2.2],0)) fun r=>
 (uU r.2.2.2.2)))/\
 (¬(((y.length:Int)==0)=true)->
 (Term (c8 x) (gY x) (x.2.2.2.1.1,x.2.1,x.2.2.2.1.2.1,x.2.2.2.1.2.2,y,0,(y.length:Int),0)/\
 aC (run (c8 x) (x.2.2.2.1.1,x.2.1,x.2.2.2.1.2.1,x.2.2.2.1.2.2,y,0,(y.length:Int),0)) fun r=>
 (((r.2.2.2.2.1.length:Int)≠0)/\
 (Term (bW x) (gw x) (r.1,r.2.1,r.2.2.1,r.2.2.2.1,[(av (Int.tdiv (av (x.2.2.2.2.1.2.2.2*r.2.2.2.2.2)) (r.2.2.2.2.1.length:Int)))],0)/\
 aC (run (bW x) (r.1,r.2.1,r.2.2.1,r.2.2.2.1,[(av (Int.tdiv (av (x.2.2.2.2.1.2.2.2*r.2.2.2.2.2)) (r.2.2.2.2.1.length:Int)))],0)) fun r_1=>
 (uU r_1.2.2.2.2)))))))
def ab6 (x:(List I9×List ((I3×I3)×Int×Int×List Int)×List (Int×I3×I3×I2)×I3×(Int×I3)×I3×I3)):Tr (Int×List ((I3×I3)×Int×Int×List Int)×I3) true:=
 (.Bq
 (.fn zu ((x.2.2.2.2.1.1,x.2.2.2.2.1.2.1,x.2.2.2.2.1.2.2.1,x.2.2.2.2.1.2.2.2,x.2.2.1),x.2.2.2.2.2) fun y=>
 (.b11 ((nL y)==z0)
 (.pn 1 6
 (aK.lp (vO x) (qD x) (x.2.2.2.1.1,x.2.1,x.2.2.2.1.2.1,x.2.2.2.1.2.2,[x.2.2.2.2.1.2.2.2],z0) fun r=>
 (.fn F7 r.2.2.2.2 fun aB=>
 (.pn 0 4
 (.ret (aB,r.2.1,r.1,r.2.2.1,r.2.2.2.1))))))
 (aK.lp (xP x) (tu x) (x.2.2.2.1.1,x.2.1,x.2.2.2.1.2.1,x.2.2.2.1.2.2,y,z0,(nL y),z0) fun r=>
 (.od ((nL r.2.2.2.2.1)≠z0)
 (.pn 1 6
 (aK.lp (vO x) (qD x) (r.1,r.2.1,r.2.2.1,r.2.2.2.1,[(av (Int.tdiv (av (x.2.2.2.2.1.2.2.2*r.2.2.2.2.2)) (nL r.2.2.2.2.1)))],z0) fun r_1=>
 (.fn F7 r_1.2.2.2.2 fun aB=>
 (.pn 0 4
 (.ret (aB,r_1.2.1,r_1.1,r_1.2.2.1,r_1.2.2.2.1)))))))))))
abbrev QF:FnX:=⟨aia,lG,s8⟩
theorem XO:QX Tryz.prog tt ku 30 (fun _ _ _ _ _=>False) [] (aD Tryz.f32) Tryz.f32 QF:=QX.tr QF ab6 (fun x=>(Le x).ok) (fun x=>(gZ.tr aA (ah.dX iK (Le x).ok) mixed 0 (cI (blk 0 (aD Tryz.f32))) (vO x) (qD x) gZ.nil (by kernel_rfl) fun g s Q=>(by kernel_rfl))) (fun x=>(by kernel_rfl)) (fun x=>(by kernel_rfl)) fun x r0 Q=>(by kernel_rfl)
end Go.Proofs.YtngdehlpoomaiaaGreat
