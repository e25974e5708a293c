/- Models of slices' functions that sort: few elements. -/
import Derived.Test.YtngdehlpoomaiaaGreatCm
noncomputable section
set_option linter.unusedSectionVars false
set_option linter.unusedVariables false
set_option linter.unusedSimpArgs false
namespace Go.Proofs.YtngdehlpoomaiaaGreat
open Go Go.Ev Go.Proofs
def JH (x:(List Int×Int×Int×List I9×Int)):aK:=⟨[.env],⟨di 53 0 [(0,.v (.one (.full 0))),(1,.v (.one (.i .i64))),(2,.v (.one (.i .i64))),(3,.v (.one (.mv 179 true [.full 1,.ext]))),(8,.v (.one (.i .i64))),(9,.v (.one (.i .i64)))],[.row yi 1,.row dF 0,.bT 2],3,none,[7],[0,1,2,6],[5,3,4],[(.l yi),.i,.i],[.i x.2.1,.i x.2.2.1,.v (.int .i64 x.2.2.2.2),.l dF x.2.2.2.1]⟩,[⟨(.exit 2),.normal,⟨di 53 0 [(0,.v (.one (.full 0))),(1,.v (.one (.i .i64))),(2,.v (.one (.i .i64))),(3,.v (.one (.mv 179 true [.full 1,.ext]))),(8,.v (.one (.i .i64)))],[.row yi 1,.row dF 0,.bT 2],3,none,[6],[0,1,2,5],[4,3],[(.l yi),.i],[.i x.2.1,.i x.2.2.1,.v (.int .i64 x.2.2.2.2),.l dF x.2.2.2.1]⟩⟩]⟩
def de (x:(List Int×Int×Int×List I9×Int)) (s:(List Int×I2)):(List Int×I2)⊕(List Int×Int):=
 (if (s.2.2>x.2.1) then
 (aq (byM (x.2.2.2,(s.1.getD s.2.2.toNat 0),(s.1.getD (Int.toNat (av (s.2.2- 1))) 0))) fun y=>
 (if (y<0) then
 (aq (List.set s.1 s.2.2.toNat (s.1.getD (Int.toNat (av (s.2.2- 1))) 0)) fun aB=>
 (aq (List.set aB (Int.toNat (av (s.2.2- 1))) (s.1.getD s.2.2.toNat 0)) fun y_2=>
 (Sum.inl (y_2,s.2.1,(av (s.2.2- 1)))))) else
 (Sum.inr ((s.1,s.2.1))))) else
 (Sum.inr ((s.1,s.2.1))))
def gH (x:(List Int×Int×Int×List I9×Int)) (s:(List Int×I2)):Prop:=
 ((s.2.2>x.2.1)->
 (((0<=s.2.2)/\ (s.2.2<(s.1.length:Int)))/\
 ((s.2.2.toNat<s.1.length)/\
 ((s.2.2.toNat<s.1.length)/\
 (((0<=(av (s.2.2- 1)))/\ ((av (s.2.2- 1))<(s.1.length:Int)))/\
 (((Int.toNat (av (s.2.2- 1)))<s.1.length)/\
 (((Int.toNat (av (s.2.2- 1)))<s.1.length)/\
 ((y8 (x.2.2.2,(s.1.getD s.2.2.toNat 0),(s.1.getD (Int.toNat (av (s.2.2- 1))) 0)))/\
 aC (byM (x.2.2.2,(s.1.getD s.2.2.toNat 0),(s.1.getD (Int.toNat (av (s.2.2- 1))) 0))) fun y=>
 ((y<0)->
 (((0<=(av (s.2.2- 1)))/\ ((av (s.2.2- 1))<(s.1.length:Int)))/\
 (((Int.toNat (av (s.2.2- 1)))<s.1.length)/\
 (((Int.toNat (av (s.2.2- 1)))<s.1.length)/\
 (((0<=s.2.2)/\ (s.2.2<(s.1.length:Int)))/\
 ((s.2.2.toNat<s.1.length)/\
 ((s.2.2.toNat<s.1.length)/\
 (((0<=s.2.2)/\ (s.2.2<(s.1.length:Int)))/\
 ((s.2.2.toNat<s.1.length)/\
 ((s.2.2.toNat<s.1.length)/\
 (aC (List.set s.1 s.2.2.toNat (s.1.getD (Int.toNat (av (s.2.2- 1))) 0)) fun aB=>
 (((0<=(av (s.2.2- 1)))/\ ((av (s.2.2- 1))<(aB.length:Int)))/\
 (((Int.toNat (av (s.2.2- 1)))<aB.length)/\
 ((Int.toNat (av (s.2.2- 1)))<aB.length))))))))))))))))))))))
def CK (x:(List Int×Int×Int×List I9×Int)) (s:(List Int×I2)):Tr ((List Int×I2)⊕(List Int×Int)) true:=
 (.i10 (s.2.2>x.2.1)
 (.mS s.2.2 s.1
 (.mS (wm s.2.2) s.1
 (.fn Tx (x.2.2.2,(gI s.1 s.2.2),(gI s.1 (wm s.2.2))) fun y=>
 (.i10 (y<z0)
 (.mS (wm s.2.2) s.1
 (.mS s.2.2 s.1
 (.mS s.2.2 s.1
 (.lt (List.set s.1 (tN s.2.2) (gI s.1 (wm s.2.2))) fun aB=>
 (.mS (wm s.2.2) aB
 (.lt (List.set aB (tN (wm s.2.2)) (gI s.1 s.2.2)) fun y_2=>
 (.ret (.inl (y_2,s.2.1,(wm s.2.2))))))))))
 (.ret (.inr ((s.1,s.2.1))))))))
 (.ret (.inr ((s.1,s.2.1)))))
def JG (x:(List Int×Int×Int×List I9×Int)):aK:=⟨[.env],⟨di 53 0 [(0,.v (.one (.full 0))),(1,.v (.one (.i .i64))),(2,.v (.one (.i .i64))),(3,.v (.one (.mv 179 true [.full 1,.ext]))),(8,.v (.one (.i .i64)))],[.row yi 1,.row dF 0,.bT 2],3,none,[6],[0,1,2,5],[4,3],[(.l yi),.i],[.i x.2.1,.i x.2.2.1,.v (.int .i64 x.2.2.2.2),.l dF x.2.2.2.1]⟩,[⟨(.exit 0),.normal,⟨di 53 0 [],[.row yi 1,.row dF 0,.bT 2],3,none,[2],[1],[0],[(.l yi)],[.l dF x.2.2.2.1]⟩⟩]⟩
def dO (x:(List Int×Int×Int×List I9×Int)) (s:(List Int×Int)):(List Int×Int)⊕(List Int):=
 (if (s.2<x.2.2.1) then
 (aq (run (de x) (s.1,s.2,s.2)) fun r=>
 (Sum.inl (r.1,(av (r.2+1))))) else
 (Sum.inr (s.1)))
def jf (x:(List Int×Int×Int×List I9×Int)) (s:(List Int×Int)):Prop:=
 ((s.2<x.2.2.1)->
 (Term (de x) (gH x) (s.1,s.2,s.2)))
def CJ (x:(List Int×Int×Int×List I9×Int)) (s:(List Int×Int)):Tr ((List Int×Int)⊕(List Int)) true:=
 (.i10 (s.2<x.2.2.1)
 (aK.lp (JH x) (CK x) (s.1,s.2,s.2) fun r=>
 (.ret (.inl (r.1,(w1 r.2)))))
 (.ret (.inr (s.1))))
def Mh (x:(List Int×Int×Int×List I9×Int)):(Bool×List Int×Bool×Bool×Bool):=
 (aq (run (dO x) (x.1,(av (x.2.1+1)))) fun r=>
 (false,r,false,false,false))
def zG (x:(List Int×Int×Int×List I9×Int)):Prop:=
 (Term (dO x) (jf x) (x.1,(av (x.2.1+1)))/\
 aC (run (dO x) (x.1,(av (x.2.1+1)))) fun r=>
 (r.length=x.1.length))
def ahy (x:(List Int×Int×Int×List I9×Int)):Tr (Bool×List Int×Bool×Bool×Bool) true:=
 (aK.lp (JG x) (CJ x) (x.1,(w1 x.2.1)) fun r=>
 (.pn 0 2
 (.og ((decide (r.length=x.1.length))&&true) (r.length=x.1.length) (fun h=>(gV (decide_eq_true h) rfl))
 (.ret (false,r,false,false,false)))))
abbrev Mi:FnW:=⟨(.pair (.row yi) (.pair (.val (.one yi)) (.pair (.val (.one yi)) (.val agI)))),.none,zG,Mh⟩
theorem aeq:ai Tryz.prog 216 (jZ Mi):=ai.trW Mi ahy (fn:=Tryz.f216) aA wT mixed (by kernel_rfl) (ax.nil _ _) (fun x=>(ay.tr aA (ah.dX wT (ax.nil _ _)) mixed 0 (JG x) (CJ x) (ay.tr aA (ah.dX wT (ax.nil _ _)) mixed 2 (JH x) (CK x) ay.nil (by kernel_rfl) fun g s Q=>(by kernel_rfl)) (by kernel_rfl) fun g s Q=>(by kernel_rfl))) (fun x=>(by kernel_rfl)) fun x r0 Q=>(by kernel_rfl)
def UT:List (Nat×Ev.Spec):=(216,jZ Mi)::abC
theorem G6:ah Tryz.prog UT:=ah.add (fn:=Tryz.f216) (by kernel_rfl) aeq wT
abbrev w8:ByteArray:=(ByteArray.mk (List.toArray (([(OfNat.ofNat 0),(OfNat.ofNat 1),(OfNat.ofNat 2),(OfNat.ofNat 2),(OfNat.ofNat 3),(OfNat.ofNat 3),(OfNat.ofNat 3),(OfNat.ofNat 3),(OfNat.ofNat 4),(OfNat.ofNat 4),(OfNat.ofNat 4),(OfNat.ofNat 4),(OfNat.ofNat 4),(OfNat.ofNat 4),(OfNat.ofNat 4),(OfNat.ofNat 4),(OfNat.ofNat 5),(OfNat.ofNat 5),(OfNat.ofNat 5),(OfNat.ofNat 5),(OfNat.ofNat 5),(OfNat.ofNat 5),(OfNat.ofNat 5),(OfNat.ofNat 5),(OfNat.ofNat 5),(OfNat.ofNat 5),(OfNat.ofNat 5),(OfNat.ofNat 5),(OfNat.ofNat 5),(OfNat.ofNat 5),(OfNat.ofNat 5),(OfNat.ofNat 5),(OfNat.ofNat 6),(OfNat.ofNat 6),(OfNat.ofNat 6),(OfNat.ofNat 6),(OfNat.ofNat 6),(OfNat.ofNat 6),(OfNat.ofNat 6),(OfNat.ofNat 6),(OfNat.ofNat 6),(OfNat.ofNat 6),(OfNat.ofNat 6),(OfNat.ofNat 6),(OfNat.ofNat 6),(OfNat.ofNat 6),(OfNat.ofNat 6),(OfNat.ofNat 6),(OfNat.ofNat 6),(OfNat.ofNat 6),(OfNat.ofNat 6),(OfNat.ofNat 6),(OfNat.ofNat 6),(OfNat.ofNat 6),(OfNat.ofNat 6),(OfNat.ofNat 6),(OfNat.ofNat 6),(OfNat.ofNat 6),(OfNat.ofNat 6),(OfNat.ofNat 6),(OfNat.ofNat 6),(OfNat.ofNat 6),(OfNat.ofNat 6),(OfNat.ofNat 6)]++ [(OfNat.ofNat 7),(OfNat.ofNat 7),(OfNat.ofNat 7),(OfNat.ofNat 7),(OfNat.ofNat 7),(OfNat.ofNat 7),(OfNat.ofNat 7),(OfNat.ofNat 7),(OfNat.ofNat 7),(OfNat.ofNat 7),(OfNat.ofNat 7),(OfNat.ofNat 7),(OfNat.ofNat 7),(OfNat.ofNat 7),(OfNat.ofNat 7),(OfNat.ofNat 7),(OfNat.ofNat 7),(OfNat.ofNat 7),(OfNat.ofNat 7),(OfNat.ofNat 7),(OfNat.ofNat 7),(OfNat.ofNat 7),(OfNat.ofNat 7),(OfNat.ofNat 7),(OfNat.ofNat 7),(OfNat.ofNat 7),(OfNat.ofNat 7),(OfNat.ofNat 7),(OfNat.ofNat 7),(OfNat.ofNat 7),(OfNat.ofNat 7),(OfNat.ofNat 7),(OfNat.ofNat 7),(OfNat.ofNat 7),(OfNat.ofNat 7),(OfNat.ofNat 7),(OfNat.ofNat 7),(OfNat.ofNat 7),(OfNat.ofNat 7),(OfNat.ofNat 7),(OfNat.ofNat 7),(OfNat.ofNat 7),(OfNat.ofNat 7),(OfNat.ofNat 7),(OfNat.ofNat 7),(OfNat.ofNat 7),(OfNat.ofNat 7),(OfNat.ofNat 7),(OfNat.ofNat 7),(OfNat.ofNat 7),(OfNat.ofNat 7),(OfNat.ofNat 7),(OfNat.ofNat 7),(OfNat.ofNat 7),(OfNat.ofNat 7),(OfNat.ofNat 7),(OfNat.ofNat 7),(OfNat.ofNat 7),(OfNat.ofNat 7),(OfNat.ofNat 7),(OfNat.ofNat 7),(OfNat.ofNat 7),(OfNat.ofNat 7),(OfNat.ofNat 7)])++([(OfNat.ofNat 8),(OfNat.ofNat 8),(OfNat.ofNat 8),(OfNat.ofNat 8),(OfNat.ofNat 8),(OfNat.ofNat 8),(OfNat.ofNat 8),(OfNat.ofNat 8),(OfNat.ofNat 8),(OfNat.ofNat 8),(OfNat.ofNat 8),(OfNat.ofNat 8),(OfNat.ofNat 8),(OfNat.ofNat 8),(OfNat.ofNat 8),(OfNat.ofNat 8),(OfNat.ofNat 8),(OfNat.ofNat 8),(OfNat.ofNat 8),(OfNat.ofNat 8),(OfNat.ofNat 8),(OfNat.ofNat 8),(OfNat.ofNat 8),(OfNat.ofNat 8),(OfNat.ofNat 8),(OfNat.ofNat 8),(OfNat.ofNat 8),(OfNat.ofNat 8),(OfNat.ofNat 8),(OfNat.ofNat 8),(OfNat.ofNat 8),(OfNat.ofNat 8),(OfNat.ofNat 8),(OfNat.ofNat 8),(OfNat.ofNat 8),(OfNat.ofNat 8),(OfNat.ofNat 8),(OfNat.ofNat 8),(OfNat.ofNat 8),(OfNat.ofNat 8),(OfNat.ofNat 8),(OfNat.ofNat 8),(OfNat.ofNat 8),(OfNat.ofNat 8),(OfNat.ofNat 8),(OfNat.ofNat 8),(OfNat.ofNat 8),(OfNat.ofNat 8),(OfNat.ofNat 8),(OfNat.ofNat 8),(OfNat.ofNat 8),(OfNat.ofNat 8),(OfNat.ofNat 8),(OfNat.ofNat 8),(OfNat.ofNat 8),(OfNat.ofNat 8),(OfNat.ofNat 8),(OfNat.ofNat 8),(OfNat.ofNat 8),(OfNat.ofNat 8),(OfNat.ofNat 8),(OfNat.ofNat 8),(OfNat.ofNat 8),(OfNat.ofNat 8)]++ [(OfNat.ofNat 8),(OfNat.ofNat 8),(OfNat.ofNat 8),(OfNat.ofNat 8),(OfNat.ofNat 8),(OfNat.ofNat 8),(OfNat.ofNat 8),(OfNat.ofNat 8),(OfNat.ofNat 8),(OfNat.ofNat 8),(OfNat.ofNat 8),(OfNat.ofNat 8),(OfNat.ofNat 8),(OfNat.ofNat 8),(OfNat.ofNat 8),(OfNat.ofNat 8),(OfNat.ofNat 8),(OfNat.ofNat 8),(OfNat.ofNat 8),(OfNat.ofNat 8),(OfNat.ofNat 8),(OfNat.ofNat 8),(OfNat.ofNat 8),(OfNat.ofNat 8),(OfNat.ofNat 8),(OfNat.ofNat 8),(OfNat.ofNat 8),(OfNat.ofNat 8),(OfNat.ofNat 8),(OfNat.ofNat 8),(OfNat.ofNat 8),(OfNat.ofNat 8),(OfNat.ofNat 8),(OfNat.ofNat 8),(OfNat.ofNat 8),(OfNat.ofNat 8),(OfNat.ofNat 8),(OfNat.ofNat 8),(OfNat.ofNat 8),(OfNat.ofNat 8),(OfNat.ofNat 8),(OfNat.ofNat 8),(OfNat.ofNat 8),(OfNat.ofNat 8),(OfNat.ofNat 8),(OfNat.ofNat 8),(OfNat.ofNat 8),(OfNat.ofNat 8),(OfNat.ofNat 8),(OfNat.ofNat 8),(OfNat.ofNat 8),(OfNat.ofNat 8),(OfNat.ofNat 8),(OfNat.ofNat 8),(OfNat.ofNat 8),(OfNat.ofNat 8),(OfNat.ofNat 8),(OfNat.ofNat 8),(OfNat.ofNat 8),(OfNat.ofNat 8),(OfNat.ofNat 8),(OfNat.ofNat 8),(OfNat.ofNat 8),(OfNat.ofNat 8)]))))
def aay (x:Int):Int:=
 (if (x>=4294967296) then
 (if ((Int.fdiv x 4294967296)>=65536) then
 (if ((Int.fdiv (Int.fdiv x 4294967296) 65536)>=256) then
 (av (56+(av (((UInt8.toNat (ByteArray.get! w8 (Int.toNat (IntKind.wrap IntKind.u8 (Int.fdiv (Int.fdiv (Int.fdiv x 4294967296) 65536) 256))))):Nat):Int)))) else
 (av (48+(av (((UInt8.toNat (ByteArray.get! w8 (Int.toNat (IntKind.wrap IntKind.u8 (Int.fdiv (Int.fdiv x 4294967296) 65536))))):Nat):Int))))) else
 (if ((Int.fdiv x 4294967296)>=256) then
 (av (40+(av (((UInt8.toNat (ByteArray.get! w8 (Int.toNat (IntKind.wrap IntKind.u8 (Int.fdiv (Int.fdiv x 4294967296) 256))))):Nat):Int)))) else
 (av (32+(av (((UInt8.toNat (ByteArray.get! w8 (Int.toNat (IntKind.wrap IntKind.u8 (Int.fdiv x 4294967296))))):Nat):Int)))))) else
 (if (x>=65536) then
 (if ((Int.fdiv x 65536)>=256) then
 (av (24+(av (((UInt8.toNat (ByteArray.get! w8 (Int.toNat (IntKind.wrap IntKind.u8 (Int.fdiv (Int.fdiv x 65536) 256))))):Nat):Int)))) else
 (av (16+(av (((UInt8.toNat (ByteArray.get! w8 (Int.toNat (IntKind.wrap IntKind.u8 (Int.fdiv x 65536))))):Nat):Int))))) else
 (if (x>=256) then
 (av (8+(av (((UInt8.toNat (ByteArray.get! w8 (Int.toNat (IntKind.wrap IntKind.u8 (Int.fdiv x 256))))):Nat):Int)))) else
 (av (0+(av (((UInt8.toNat (ByteArray.get! w8 (Int.toNat (IntKind.wrap IntKind.u8 x)))):Nat):Int)))))))
def sg (x:Int):Prop:=
 (((x>=4294967296)->
 ((((Int.fdiv x 4294967296)>=65536)->
 ((((Int.fdiv (Int.fdiv x 4294967296) 65536)>=256)->
 ((0<=(IntKind.wrap IntKind.u8 (Int.fdiv (Int.fdiv (Int.fdiv x 4294967296) 65536) 256)))/\ ((IntKind.wrap IntKind.u8 (Int.fdiv (Int.fdiv (Int.fdiv x 4294967296) 65536) 256))<256)))/\
 (¬((Int.fdiv (Int.fdiv x 4294967296) 65536)>=256)->
 ((0<=(IntKind.wrap IntKind.u8 (Int.fdiv (Int.fdiv x 4294967296) 65536)))/\ ((IntKind.wrap IntKind.u8 (Int.fdiv (Int.fdiv x 4294967296) 65536))<256)))))/\
 (¬((Int.fdiv x 4294967296)>=65536)->
 ((((Int.fdiv x 4294967296)>=256)->
 ((0<=(IntKind.wrap IntKind.u8 (Int.fdiv (Int.fdiv x 4294967296) 256)))/\ ((IntKind.wrap IntKind.u8 (Int.fdiv (Int.fdiv x 4294967296) 256))<256)))/\
 (¬((Int.fdiv x 4294967296)>=256)->
 ((0<=(IntKind.wrap IntKind.u8 (Int.fdiv x 4294967296)))/\ ((IntKind.wrap IntKind.u8 (Int.fdiv x 4294967296))<256)))))))/\
 (¬(x>=4294967296)->
 (((x>=65536)->
 ((((Int.fdiv x 65536)>=256)->
 ((0<=(IntKind.wrap IntKind.u8 (Int.fdiv (Int.fdiv x 65536) 256)))/\ ((IntKind.wrap IntKind.u8 (Int.fdiv (Int.fdiv x 65536) 256))<256)))/\
 (¬((Int.fdiv x 65536)>=256)->
 ((0<=(IntKind.wrap IntKind.u8 (Int.fdiv x 65536)))/\ ((IntKind.wrap IntKind.u8 (Int.fdiv x 65536))<256)))))/\
 (¬(x>=65536)->
 (((x>=256)->
 ((0<=(IntKind.wrap IntKind.u8 (Int.fdiv x 256)))/\ ((IntKind.wrap IntKind.u8 (Int.fdiv x 256))<256)))/\
 (¬(x>=256)->
 ((0<=(IntKind.wrap IntKind.u8 x))/\ ((IntKind.wrap IntKind.u8 x)<256))))))))
def aaz (x:Int):Tr Int true:=
 (.i11 (x>=4294967296)
 (.i11 ((Int.fdiv x 4294967296)>=65536)
 (.i11 ((Int.fdiv (Int.fdiv x 4294967296) 65536)>=256)
 (.oR (IntKind.wrap IntKind.u8 (Int.fdiv (Int.fdiv (Int.fdiv x 4294967296) 65536) 256)) 256
 (.ret (av (56+(av (((UInt8.toNat (ByteArray.get! w8 (tN (IntKind.wrap IntKind.u8 (Int.fdiv (Int.fdiv (Int.fdiv x 4294967296) 65536) 256))))):Nat):Int))))))
 (.oR (IntKind.wrap IntKind.u8 (Int.fdiv (Int.fdiv x 4294967296) 65536)) 256
 (.ret (av (48+(av (((UInt8.toNat (ByteArray.get! w8 (tN (IntKind.wrap IntKind.u8 (Int.fdiv (Int.fdiv x 4294967296) 65536))))):Nat):Int)))))))
 (.i11 ((Int.fdiv x 4294967296)>=256)
 (.oR (IntKind.wrap IntKind.u8 (Int.fdiv (Int.fdiv x 4294967296) 256)) 256
 (.ret (av (40+(av (((UInt8.toNat (ByteArray.get! w8 (tN (IntKind.wrap IntKind.u8 (Int.fdiv (Int.fdiv x 4294967296) 256))))):Nat):Int))))))
 (.oR (IntKind.wrap IntKind.u8 (Int.fdiv x 4294967296)) 256
 (.ret (av (32+(av (((UInt8.toNat (ByteArray.get! w8 (tN (IntKind.wrap IntKind.u8 (Int.fdiv x 4294967296))))):Nat):Int))))))))
 (.i11 (x>=65536)
 (.i11 ((Int.fdiv x 65536)>=256)
 (.oR (IntKind.wrap IntKind.u8 (Int.fdiv (Int.fdiv x 65536) 256)) 256
 (.ret (av (24+(av (((UInt8.toNat (ByteArray.get! w8 (tN (IntKind.wrap IntKind.u8 (Int.fdiv (Int.fdiv x 65536) 256))))):Nat):Int))))))
 (.oR (IntKind.wrap IntKind.u8 (Int.fdiv x 65536)) 256
 (.ret (av (16+(av (((UInt8.toNat (ByteArray.get! w8 (tN (IntKind.wrap IntKind.u8 (Int.fdiv x 65536))))):Nat):Int)))))))
 (.i11 (x>=256)
 (.oR (IntKind.wrap IntKind.u8 (Int.fdiv x 256)) 256
 (.ret (av (8+(av (((UInt8.toNat (ByteArray.get! w8 (tN (IntKind.wrap IntKind.u8 (Int.fdiv x 256))))):Nat):Int))))))
 (.oR (IntKind.wrap IntKind.u8 x) 256
 (.ret (av (z0+(av (((UInt8.toNat (ByteArray.get! w8 (tN (IntKind.wrap IntKind.u8 x)))):Nat):Int)))))))))
abbrev zM:bY:=⟨(.one (Ty.int IntKind.u64)),(.one yi),sg,aay⟩
theorem WJ:ai Tryz.prog 225 (ak zM):=ai.tr zM aaz (fn:=Tryz.f225) aA G6 mixed (by kernel_rfl) (ax.nil _ _) (fun x=>ay.nil) (fun x=>(by kernel_rfl)) fun x Q=>(by kernel_rfl)
def KS:List (Nat×Ev.Spec):=(225,ak zM)::UT
theorem AO:ah Tryz.prog KS:=ah.add (fn:=Tryz.f225) (by kernel_rfl) WJ G6
def ahH (x:Int):Int:=
 (aq (aay x) fun y=>
 y)
def OS (x:Int):Prop:=
 (sg x)
def ahI (x:Int):Tr Int true:=
 (.fn zM x fun y=>
 (.ret y))
abbrev Mp:bY:=⟨(.one (Ty.int IntKind.u64)),(.one yi),OS,ahH⟩
theorem aeD:ai Tryz.prog 201 (ak Mp):=ai.tr Mp ahI (fn:=Tryz.f201) aA AO mixed (by kernel_rfl) (ax.nil _ _) (fun x=>ay.nil) (fun x=>(by kernel_rfl)) fun x Q=>(by kernel_rfl)
def UX:List (Nat×Ev.Spec):=(201,ak Mp)::KS
theorem yE:ah Tryz.prog UX:=ah.add (fn:=Tryz.f201) (by kernel_rfl) aeD AO
def aa4 (x:(List Int×Int×Int×Int×List I9×Int)):(Bool×List Int×Bool×Bool×Bool×Bool):=
 (if ((av (x.2.2.1- x.2.1))<=12) then
 (aq (Mh (x.1,x.2.1,x.2.2.1,x.2.2.2.2)) fun y=>
 (false,y.2.1,false,false,false,false)) else
 (if ((x.2.2.2.1==0)=true) then
 default else
 default))
def Gk (x:(List Int×Int×Int×Int×List I9×Int)):Prop:=
 ((((av (x.2.2.1- x.2.1))<=12)->
 ((zG (x.1,x.2.1,x.2.2.1,x.2.2.2.2))/\
 aC (Mh (x.1,x.2.1,x.2.2.1,x.2.2.2.2)) fun y=>
 (y.2.1.length=x.1.length)))/\
 (¬((av (x.2.2.1- x.2.1))<=12)->
 ((((x.2.2.2.1==0)=true)->
 False)/\
 (¬((x.2.2.2.1==0)=true)->
 False))))
def ahW (x:(List Int×Int×Int×Int×List I9×Int)):Tr (Bool×List Int×Bool×Bool×Bool×Bool) true:=
 (.i11 ((av (x.2.2.1- x.2.1))<=12)
 (.fnW Mi (x.1,x.2.1,x.2.2.1,x.2.2.2.2) fun y=>
 (.pn 0 2
 (.og ((decide (y.2.1.length=x.1.length))&&true) (y.2.1.length=x.1.length) (fun h=>(gV (decide_eq_true h) rfl))
 (.ret (false,y.2.1,false,false,false,false)))))
 (.b11 (x.2.2.2.1==z0)
 (.og false False False.elim (.ret default))
 (.og false False False.elim (.ret default))))
abbrev MF:FnW:=⟨(.pair (.row yi) (.pair (.val (.one yi)) (.pair (.val (.one yi)) (.pair (.val (.one yi)) (.val agI))))),.none,Gk,aa4⟩
theorem aeV:ai Tryz.prog 200 (jZ MF):=ai.trW MF ahW (fn:=Tryz.f200) aA yE mixed (by kernel_rfl) (ax.nil _ _) (fun x=>(ay.nH aA (ah.dX yE (ax.nil _ _)) mixed 0 2 ay.nil (by kernel_rfl))) (fun x=>(by kernel_rfl)) fun x r0 Q=>(by kernel_rfl)
def U0:List (Nat×Ev.Spec):=(200,jZ MF)::UX
theorem Hh:ah Tryz.prog U0:=ah.add (fn:=Tryz.f200) (by kernel_rfl) aeV yE
def GK (x:(List Int×List I9×Int)):(Bool×List Int×Bool):=
 (aq (ahH (IntKind.wrap IntKind.u64 (x.1.length:Int))) fun y=>
 (aq (aa4 (x.1,0,(x.1.length:Int),y,x.2)) fun aB=>
 (false,aB.2.1,false)))
def rh (x:(List Int×List I9×Int)):Prop:=
 ((OS (IntKind.wrap IntKind.u64 (x.1.length:Int)))/\
 aC (ahH (IntKind.wrap IntKind.u64 (x.1.length:Int))) fun y=>
 ((Gk (x.1,0,(x.1.length:Int),y,x.2))/\
 aC (aa4 (x.1,0,(x.1.length:Int),y,x.2)) fun aB=>
 (aB.2.1.length=x.1.length)))
def ae6 (x:(List Int×List I9×Int)):Tr (Bool×List Int×Bool) true:=
 (.fn Mp (IntKind.wrap IntKind.u64 (nL x.1)) fun y=>
 (.fnW MF (x.1,z0,(nL x.1),y,x.2) fun aB=>
 (.pn 0 2
 (.og ((decide (aB.2.1.length=x.1.length))&&true) (aB.2.1.length=x.1.length) (fun h=>(gV (decide_eq_true h) rfl))
 (.ret (false,aB.2.1,false))))))
abbrev MQ:FnW:=⟨(.pair (.row yi) (.val agI)),.none,rh,GK⟩
theorem abA:ai Tryz.prog 180 (jZ MQ):=ai.trW MQ ae6 (fn:=Tryz.f180) aA Hh mixed (by kernel_rfl) (ax.nil _ _) (fun x=>ay.nil) (fun x=>(by kernel_rfl)) fun x r0 Q=>(by kernel_rfl)
def Qh:List (Nat×Ev.Spec):=(180,jZ MQ)::U0
theorem vE:ah Tryz.prog Qh:=ah.add (fn:=Tryz.f180) (by kernel_rfl) abA Hh
end Go.Proofs.YtngdehlpoomaiaaGreat
