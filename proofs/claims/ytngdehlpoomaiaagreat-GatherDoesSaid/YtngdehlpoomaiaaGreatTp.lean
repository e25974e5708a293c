/- Models of slices' functions that sort: few elements. -/
import Derived.Test.YtngdehlpoomaiaaGreatCm
import Derived.Test.YtngdehlpoomaiaaGreatEvR
import Derived.Sort.AssemblyPlain
noncomputable section
set_option linter.unusedSectionVars false
set_option linter.unusedVariables false
set_option linter.unusedSimpArgs false
namespace Go.Proofs.YtngdehlpoomaiaaGreat
open Go Go.Ev Go.Proofs
abbrev Un:Type:=(List Int×Int×Int×Int×List I9×Int)
abbrev my:Type:=(List Int×Int×Int×List I9×Int)
def PK (x:my):aI:=⟨[.env],⟨cj 53 0 [(0,.v (.one (.full 0))),(1,.v (.one (.i .i64))),(2,.v (.one (.i .i64))),(3,.v (.one (.mv 179 true [.full 1,.ext]))),(8,.v (.one (.i .i64))),(9,.v (.one (.i .i64)))],[.row yi 1,.row cO 0,.cg 2],3,none,[7],[0,1,2,6],[5,3,4],[(.l yi),.i,.i],[.i x.2.1,.i x.2.2.1,.v (.int .i64 x.2.2.2.2),.l cO x.2.2.2.1]⟩,[⟨(.exit 2),.normal,⟨cj 53 0 [(0,.v (.one (.full 0))),(1,.v (.one (.i .i64))),(2,.v (.one (.i .i64))),(3,.v (.one (.mv 179 true [.full 1,.ext]))),(8,.v (.one (.i .i64)))],[.row yi 1,.row cO 0,.cg 2],3,none,[6],[0,1,2,5],[4,3],[(.l yi),.i],[.i x.2.1,.i x.2.2.1,.v (.int .i64 x.2.2.2.2),.l cO x.2.2.2.1]⟩⟩]⟩
def dH (x:my) (s:(List Int×I2)):(List Int×I2)⊕(List Int×Int):=
 (if (s.2.2>x.2.1) then
 (ak (byM (x.2.2.2,(s.1.getD s.2.2.toNat 0),(s.1.getD (Int.toNat (au (s.2.2- 1))) 0))) fun y=>
 (if (y<0) then
 (ak (List.set s.1 s.2.2.toNat (s.1.getD (Int.toNat (au (s.2.2- 1))) 0)) fun aB=>
 (ak (List.set aB (Int.toNat (au (s.2.2- 1))) (s.1.getD s.2.2.toNat 0)) fun y_2=>
 (Sum.inl (y_2,s.2.1,(au (s.2.2- 1)))))) else
 (Sum.inr ((s.1,s.2.1))))) else
 (Sum.inr ((s.1,s.2.1))))
def iR (x:my) (s:(List Int×I2)):Prop:=
 ((s.2.2>x.2.1)->
 (((0<=s.2.2)/\ (s.2.2<(s.1.length:Int)))/\
 ((s.2.2.toNat<s.1.length)/\
 ((s.2.2.toNat<s.1.length)/\
 (((0<=(au (s.2.2- 1)))/\ ((au (s.2.2- 1))<(s.1.length:Int)))/\
 (((Int.toNat (au (s.2.2- 1)))<s.1.length)/\
 (((Int.toNat (au (s.2.2- 1)))<s.1.length)/\
 ((CY (x.2.2.2,(s.1.getD s.2.2.toNat 0),(s.1.getD (Int.toNat (au (s.2.2- 1))) 0)))/\
 az (byM (x.2.2.2,(s.1.getD s.2.2.toNat 0),(s.1.getD (Int.toNat (au (s.2.2- 1))) 0))) fun y=>
 ((y<0)->
 (((0<=(au (s.2.2- 1)))/\ ((au (s.2.2- 1))<(s.1.length:Int)))/\
 (((Int.toNat (au (s.2.2- 1)))<s.1.length)/\
 (((Int.toNat (au (s.2.2- 1)))<s.1.length)/\
 (((0<=s.2.2)/\ (s.2.2<(s.1.length:Int)))/\
 ((s.2.2.toNat<s.1.length)/\
 ((s.2.2.toNat<s.1.length)/\
 (((0<=s.2.2)/\ (s.2.2<(s.1.length:Int)))/\
 ((s.2.2.toNat<s.1.length)/\
 ((s.2.2.toNat<s.1.length)/\
 (az (List.set s.1 s.2.2.toNat (s.1.getD (Int.toNat (au (s.2.2- 1))) 0)) fun aB=>
 (((0<=(au (s.2.2- 1)))/\ ((au (s.2.2- 1))<(aB.length:Int)))/\
 (((Int.toNat (au (s.2.2- 1)))<aB.length)/\
 ((Int.toNat (au (s.2.2- 1)))<aB.length))))))))))))))))))))))
def HB (x:my) (s:(List Int×I2)):Tr ((List Int×I2)⊕(List Int×Int)) true:=
 (.i10 (s.2.2>x.2.1)
 (.A7 s.2.2 s.1
 (.A7 (wm s.2.2) s.1
 (.fn abN (x.2.2.2,(gI s.1 s.2.2),(gI s.1 (wm s.2.2))) fun y=>
 (.i10 (y<z0)
 (.A7 (wm s.2.2) s.1
 (.A7 s.2.2 s.1
 (.A7 s.2.2 s.1
 (.lt (List.set s.1 (tN s.2.2) (gI s.1 (wm s.2.2))) fun aB=>
 (.A7 (wm s.2.2) aB
 (.lt (List.set aB (tN (wm s.2.2)) (gI s.1 s.2.2)) fun y_2=>
 (.ret (.inl (y_2,s.2.1,(wm s.2.2))))))))))
 (.ret (.inr ((s.1,s.2.1))))))))
 (.ret (.inr ((s.1,s.2.1)))))
def PJ (x:my):aI:=⟨[.env],⟨cj 53 0 [(0,.v (.one (.full 0))),(1,.v (.one (.i .i64))),(2,.v (.one (.i .i64))),(3,.v (.one (.mv 179 true [.full 1,.ext]))),(8,.v (.one (.i .i64)))],[.row yi 1,.row cO 0,.cg 2],3,none,[6],[0,1,2,5],[4,3],[(.l yi),.i],[.i x.2.1,.i x.2.2.1,.v (.int .i64 x.2.2.2.2),.l cO x.2.2.2.1]⟩,[⟨(.exit 0),.normal,⟨cj 53 0 [],[.row yi 1,.row cO 0,.cg 2],3,none,[2],[1],[0],[(.l yi)],[.l cO x.2.2.2.1]⟩⟩]⟩
def eD (x:my) (s:(List Int×Int)):(List Int×Int)⊕(List Int):=
 (if (s.2<x.2.2.1) then
 (ak (run (dH x) (s.1,s.2,s.2)) fun r=>
 (Sum.inl (r.1,(au (r.2+1))))) else
 (Sum.inr (s.1)))
def kg (x:my) (s:(List Int×Int)):Prop:=
 ((s.2<x.2.2.1)->
 (Term (dH x) (iR x) (s.1,s.2,s.2)))
def HA (x:my) (s:(List Int×Int)):Tr ((List Int×Int)⊕(List Int)) true:=
 (.i10 (s.2<x.2.2.1)
 (aI.lp (PK x) (HB x) (s.1,s.2,s.2) fun r=>
 (.ret (.inl (r.1,(w1 r.2)))))
 (.ret (.inr (s.1))))
def SY (x:my):(Bool×List Int×Bool×Bool×Bool):=
 (ak (run (eD x) (x.1,(au (x.2.1+1)))) fun r=>
 (false,r,false,false,false))
def Dv (x:my):Prop:=
 (Term (eD x) (kg x) (x.1,(au (x.2.1+1)))/\
 az (run (eD x) (x.1,(au (x.2.1+1)))) fun r=>
 (r.length=x.1.length))
def ap0 (x:my):Tr (Bool×List Int×Bool×Bool×Bool) true:=
 (aI.lp (PJ x) (HA x) (x.1,(w1 x.2.1)) fun r=>
 (.pn 0 2
 (.og ((decide (r.length=x.1.length))&&true) (r.length=x.1.length) (fun h=>(iu (decide_eq_true h) rfl))
 (.ret (false,r,false,false,false)))))
abbrev SZ:FnW:=⟨(.pair (.row yi) (.pair (.val (.one yi)) (.pair (.val (.one yi)) (.val ao5)))),.none,Dv,SY⟩
theorem amM:aq Tryz.prog 216 (lN SZ):=aq.trW SZ ap0 (fn:=Tryz.f216) bt AG mixed (by kernel_rfl) (aH.nil _ _) (fun x=>(bX AG 0 (PJ x) (HA x) (bX AG 2 (PK x) (HB x) aK.nil))) (fun x=>(by kernel_rfl)) fun x r0 Q=>(by kernel_rfl)
def ac8:List (Nat×Ev.Spec):=(216,lN SZ)::akb
theorem MY:aj Tryz.prog ac8:=aA (fn:=Tryz.f216) amM AG
abbrev AP:ByteArray:=(ByteArray.mk (List.toArray (([(OfNat.ofNat 0),(OfNat.ofNat 1),(OfNat.ofNat 2),(OfNat.ofNat 2),(OfNat.ofNat 3),(OfNat.ofNat 3),(OfNat.ofNat 3),(OfNat.ofNat 3),(OfNat.ofNat 4),(OfNat.ofNat 4),(OfNat.ofNat 4),(OfNat.ofNat 4),(OfNat.ofNat 4),(OfNat.ofNat 4),(OfNat.ofNat 4),(OfNat.ofNat 4),(OfNat.ofNat 5),(OfNat.ofNat 5),(OfNat.ofNat 5),(OfNat.ofNat 5),(OfNat.ofNat 5),(OfNat.ofNat 5),(OfNat.ofNat 5),(OfNat.ofNat 5),(OfNat.ofNat 5),(OfNat.ofNat 5),(OfNat.ofNat 5),(OfNat.ofNat 5),(OfNat.ofNat 5),(OfNat.ofNat 5),(OfNat.ofNat 5),(OfNat.ofNat 5),(OfNat.ofNat 6),(OfNat.ofNat 6),(OfNat.ofNat 6),(OfNat.ofNat 6),(OfNat.ofNat 6),(OfNat.ofNat 6),(OfNat.ofNat 6),(OfNat.ofNat 6),(OfNat.ofNat 6),(OfNat.ofNat 6),(OfNat.ofNat 6),(OfNat.ofNat 6),(OfNat.ofNat 6),(OfNat.ofNat 6),(OfNat.ofNat 6),(OfNat.ofNat 6),(OfNat.ofNat 6),(OfNat.ofNat 6),(OfNat.ofNat 6),(OfNat.ofNat 6),(OfNat.ofNat 6),(OfNat.ofNat 6),(OfNat.ofNat 6),(OfNat.ofNat 6),(OfNat.ofNat 6),(OfNat.ofNat 6),(OfNat.ofNat 6),(OfNat.ofNat 6),(OfNat.ofNat 6),(OfNat.ofNat 6),(OfNat.ofNat 6),(OfNat.ofNat 6)]++ [(OfNat.ofNat 7),(OfNat.ofNat 7),(OfNat.ofNat 7),(OfNat.ofNat 7),(OfNat.ofNat 7),(OfNat.ofNat 7),(OfNat.ofNat 7),(OfNat.ofNat 7),(OfNat.ofNat 7),(OfNat.ofNat 7),(OfNat.ofNat 7),(OfNat.ofNat 7),(OfNat.ofNat 7),(OfNat.ofNat 7),(OfNat.ofNat 7),(OfNat.ofNat 7),(OfNat.ofNat 7),(OfNat.ofNat 7),(OfNat.ofNat 7),(OfNat.ofNat 7),(OfNat.ofNat 7),(OfNat.ofNat 7),(OfNat.ofNat 7),(OfNat.ofNat 7),(OfNat.ofNat 7),(OfNat.ofNat 7),(OfNat.ofNat 7),(OfNat.ofNat 7),(OfNat.ofNat 7),(OfNat.ofNat 7),(OfNat.ofNat 7),(OfNat.ofNat 7),(OfNat.ofNat 7),(OfNat.ofNat 7),(OfNat.ofNat 7),(OfNat.ofNat 7),(OfNat.ofNat 7),(OfNat.ofNat 7),(OfNat.ofNat 7),(OfNat.ofNat 7),(OfNat.ofNat 7),(OfNat.ofNat 7),(OfNat.ofNat 7),(OfNat.ofNat 7),(OfNat.ofNat 7),(OfNat.ofNat 7),(OfNat.ofNat 7),(OfNat.ofNat 7),(OfNat.ofNat 7),(OfNat.ofNat 7),(OfNat.ofNat 7),(OfNat.ofNat 7),(OfNat.ofNat 7),(OfNat.ofNat 7),(OfNat.ofNat 7),(OfNat.ofNat 7),(OfNat.ofNat 7),(OfNat.ofNat 7),(OfNat.ofNat 7),(OfNat.ofNat 7),(OfNat.ofNat 7),(OfNat.ofNat 7),(OfNat.ofNat 7),(OfNat.ofNat 7)])++([(OfNat.ofNat 8),(OfNat.ofNat 8),(OfNat.ofNat 8),(OfNat.ofNat 8),(OfNat.ofNat 8),(OfNat.ofNat 8),(OfNat.ofNat 8),(OfNat.ofNat 8),(OfNat.ofNat 8),(OfNat.ofNat 8),(OfNat.ofNat 8),(OfNat.ofNat 8),(OfNat.ofNat 8),(OfNat.ofNat 8),(OfNat.ofNat 8),(OfNat.ofNat 8),(OfNat.ofNat 8),(OfNat.ofNat 8),(OfNat.ofNat 8),(OfNat.ofNat 8),(OfNat.ofNat 8),(OfNat.ofNat 8),(OfNat.ofNat 8),(OfNat.ofNat 8),(OfNat.ofNat 8),(OfNat.ofNat 8),(OfNat.ofNat 8),(OfNat.ofNat 8),(OfNat.ofNat 8),(OfNat.ofNat 8),(OfNat.ofNat 8),(OfNat.ofNat 8),(OfNat.ofNat 8),(OfNat.ofNat 8),(OfNat.ofNat 8),(OfNat.ofNat 8),(OfNat.ofNat 8),(OfNat.ofNat 8),(OfNat.ofNat 8),(OfNat.ofNat 8),(OfNat.ofNat 8),(OfNat.ofNat 8),(OfNat.ofNat 8),(OfNat.ofNat 8),(OfNat.ofNat 8),(OfNat.ofNat 8),(OfNat.ofNat 8),(OfNat.ofNat 8),(OfNat.ofNat 8),(OfNat.ofNat 8),(OfNat.ofNat 8),(OfNat.ofNat 8),(OfNat.ofNat 8),(OfNat.ofNat 8),(OfNat.ofNat 8),(OfNat.ofNat 8),(OfNat.ofNat 8),(OfNat.ofNat 8),(OfNat.ofNat 8),(OfNat.ofNat 8),(OfNat.ofNat 8),(OfNat.ofNat 8),(OfNat.ofNat 8),(OfNat.ofNat 8)]++ [(OfNat.ofNat 8),(OfNat.ofNat 8),(OfNat.ofNat 8),(OfNat.ofNat 8),(OfNat.ofNat 8),(OfNat.ofNat 8),(OfNat.ofNat 8),(OfNat.ofNat 8),(OfNat.ofNat 8),(OfNat.ofNat 8),(OfNat.ofNat 8),(OfNat.ofNat 8),(OfNat.ofNat 8),(OfNat.ofNat 8),(OfNat.ofNat 8),(OfNat.ofNat 8),(OfNat.ofNat 8),(OfNat.ofNat 8),(OfNat.ofNat 8),(OfNat.ofNat 8),(OfNat.ofNat 8),(OfNat.ofNat 8),(OfNat.ofNat 8),(OfNat.ofNat 8),(OfNat.ofNat 8),(OfNat.ofNat 8),(OfNat.ofNat 8),(OfNat.ofNat 8),(OfNat.ofNat 8),(OfNat.ofNat 8),(OfNat.ofNat 8),(OfNat.ofNat 8),(OfNat.ofNat 8),(OfNat.ofNat 8),(OfNat.ofNat 8),(OfNat.ofNat 8),(OfNat.ofNat 8),(OfNat.ofNat 8),(OfNat.ofNat 8),(OfNat.ofNat 8),(OfNat.ofNat 8),(OfNat.ofNat 8),(OfNat.ofNat 8),(OfNat.ofNat 8),(OfNat.ofNat 8),(OfNat.ofNat 8),(OfNat.ofNat 8),(OfNat.ofNat 8),(OfNat.ofNat 8),(OfNat.ofNat 8),(OfNat.ofNat 8),(OfNat.ofNat 8),(OfNat.ofNat 8),(OfNat.ofNat 8),(OfNat.ofNat 8),(OfNat.ofNat 8),(OfNat.ofNat 8),(OfNat.ofNat 8),(OfNat.ofNat 8),(OfNat.ofNat 8),(OfNat.ofNat 8),(OfNat.ofNat 8),(OfNat.ofNat 8),(OfNat.ofNat 8)]))))
def aiZ (x:Int):Int:=
 (if (x>=4294967296) then
 (if ((Int.fdiv x 4294967296)>=65536) then
 (if ((Int.fdiv (Int.fdiv x 4294967296) 65536)>=256) then
 (au (56+(au (((UInt8.toNat (ByteArray.get! AP (Int.toNat (IntKind.wrap IntKind.u8 (Int.fdiv (Int.fdiv (Int.fdiv x 4294967296) 65536) 256))))):Nat):Int)))) else
 (au (48+(au (((UInt8.toNat (ByteArray.get! AP (Int.toNat (IntKind.wrap IntKind.u8 (Int.fdiv (Int.fdiv x 4294967296) 65536))))):Nat):Int))))) else
 (if ((Int.fdiv x 4294967296)>=256) then
 (au (40+(au (((UInt8.toNat (ByteArray.get! AP (Int.toNat (IntKind.wrap IntKind.u8 (Int.fdiv (Int.fdiv x 4294967296) 256))))):Nat):Int)))) else
 (au (32+(au (((UInt8.toNat (ByteArray.get! AP (Int.toNat (IntKind.wrap IntKind.u8 (Int.fdiv x 4294967296))))):Nat):Int)))))) else
 (if (x>=65536) then
 (if ((Int.fdiv x 65536)>=256) then
 (au (24+(au (((UInt8.toNat (ByteArray.get! AP (Int.toNat (IntKind.wrap IntKind.u8 (Int.fdiv (Int.fdiv x 65536) 256))))):Nat):Int)))) else
 (au (16+(au (((UInt8.toNat (ByteArray.get! AP (Int.toNat (IntKind.wrap IntKind.u8 (Int.fdiv x 65536))))):Nat):Int))))) else
 (if (x>=256) then
 (au (8+(au (((UInt8.toNat (ByteArray.get! AP (Int.toNat (IntKind.wrap IntKind.u8 (Int.fdiv x 256))))):Nat):Int)))) else
 (au (0+(au (((UInt8.toNat (ByteArray.get! AP (Int.toNat (IntKind.wrap IntKind.u8 x)))):Nat):Int)))))))
def vp (x:Int):Prop:=
 (((x>=4294967296)->
 ((((Int.fdiv x 4294967296)>=65536)->
 ((((Int.fdiv (Int.fdiv x 4294967296) 65536)>=256)->
 ((0<=(IntKind.wrap IntKind.u8 (Int.fdiv (Int.fdiv (Int.fdiv x 4294967296) 65536) 256)))/\ ((IntKind.wrap IntKind.u8 (Int.fdiv (Int.fdiv (Int.fdiv x 4294967296) 65536) 256))<256)))/\
 (¬((Int.fdiv (Int.fdiv x 4294967296) 65536)>=256)->
 ((0<=(IntKind.wrap IntKind.u8 (Int.fdiv (Int.fdiv x 4294967296) 65536)))/\ ((IntKind.wrap IntKind.u8 (Int.fdiv (Int.fdiv x 4294967296) 65536))<256)))))/\
 (¬((Int.fdiv x 4294967296)>=65536)->
 ((((Int.fdiv x 4294967296)>=256)->
 ((0<=(IntKind.wrap IntKind.u8 (Int.fdiv (Int.fdiv x 4294967296) 256)))/\ ((IntKind.wrap IntKind.u8 (Int.fdiv (Int.fdiv x 4294967296) 256))<256)))/\
 (¬((Int.fdiv x 4294967296)>=256)->
 ((0<=(IntKind.wrap IntKind.u8 (Int.fdiv x 4294967296)))/\ ((IntKind.wrap IntKind.u8 (Int.fdiv x 4294967296))<256)))))))/\
 (¬(x>=4294967296)->
 (((x>=65536)->
 ((((Int.fdiv x 65536)>=256)->
 ((0<=(IntKind.wrap IntKind.u8 (Int.fdiv (Int.fdiv x 65536) 256)))/\ ((IntKind.wrap IntKind.u8 (Int.fdiv (Int.fdiv x 65536) 256))<256)))/\
 (¬((Int.fdiv x 65536)>=256)->
 ((0<=(IntKind.wrap IntKind.u8 (Int.fdiv x 65536)))/\ ((IntKind.wrap IntKind.u8 (Int.fdiv x 65536))<256)))))/\
 (¬(x>=65536)->
 (((x>=256)->
 ((0<=(IntKind.wrap IntKind.u8 (Int.fdiv x 256)))/\ ((IntKind.wrap IntKind.u8 (Int.fdiv x 256))<256)))/\
 (¬(x>=256)->
 ((0<=(IntKind.wrap IntKind.u8 x))/\ ((IntKind.wrap IntKind.u8 x)<256))))))))
def ai0 (x:Int):Tr Int true:=
 (.i11 (x>=4294967296)
 (.i11 ((Int.fdiv x 4294967296)>=65536)
 (.i11 ((Int.fdiv (Int.fdiv x 4294967296) 65536)>=256)
 (.oR (IntKind.wrap IntKind.u8 (Int.fdiv (Int.fdiv (Int.fdiv x 4294967296) 65536) 256)) 256
 (.ret (au (56+(au (((UInt8.toNat (ByteArray.get! AP (tN (IntKind.wrap IntKind.u8 (Int.fdiv (Int.fdiv (Int.fdiv x 4294967296) 65536) 256))))):Nat):Int))))))
 (.oR (IntKind.wrap IntKind.u8 (Int.fdiv (Int.fdiv x 4294967296) 65536)) 256
 (.ret (au (48+(au (((UInt8.toNat (ByteArray.get! AP (tN (IntKind.wrap IntKind.u8 (Int.fdiv (Int.fdiv x 4294967296) 65536))))):Nat):Int)))))))
 (.i11 ((Int.fdiv x 4294967296)>=256)
 (.oR (IntKind.wrap IntKind.u8 (Int.fdiv (Int.fdiv x 4294967296) 256)) 256
 (.ret (au (40+(au (((UInt8.toNat (ByteArray.get! AP (tN (IntKind.wrap IntKind.u8 (Int.fdiv (Int.fdiv x 4294967296) 256))))):Nat):Int))))))
 (.oR (IntKind.wrap IntKind.u8 (Int.fdiv x 4294967296)) 256
 (.ret (au (32+(au (((UInt8.toNat (ByteArray.get! AP (tN (IntKind.wrap IntKind.u8 (Int.fdiv x 4294967296))))):Nat):Int))))))))
 (.i11 (x>=65536)
 (.i11 ((Int.fdiv x 65536)>=256)
 (.oR (IntKind.wrap IntKind.u8 (Int.fdiv (Int.fdiv x 65536) 256)) 256
 (.ret (au (24+(au (((UInt8.toNat (ByteArray.get! AP (tN (IntKind.wrap IntKind.u8 (Int.fdiv (Int.fdiv x 65536) 256))))):Nat):Int))))))
 (.oR (IntKind.wrap IntKind.u8 (Int.fdiv x 65536)) 256
 (.ret (au (16+(au (((UInt8.toNat (ByteArray.get! AP (tN (IntKind.wrap IntKind.u8 (Int.fdiv x 65536))))):Nat):Int)))))))
 (.i11 (x>=256)
 (.oR (IntKind.wrap IntKind.u8 (Int.fdiv x 256)) 256
 (.ret (au (8+(au (((UInt8.toNat (ByteArray.get! AP (tN (IntKind.wrap IntKind.u8 (Int.fdiv x 256))))):Nat):Int))))))
 (.oR (IntKind.wrap IntKind.u8 x) 256
 (.ret (au (z0+(au (((UInt8.toNat (ByteArray.get! AP (tN (IntKind.wrap IntKind.u8 x)))):Nat):Int)))))))))
abbrev DB:bF:=⟨(.one (Ty.int IntKind.u64)),(.one yi),vp,aiZ⟩
theorem aeP:aq Tryz.prog 225 (ah DB):=aM DB ai0 (fn:=Tryz.f225) MY
def Rd:List (Nat×Ev.Spec):=(225,ah DB)::ac8
theorem EP:aj Tryz.prog Rd:=aA (fn:=Tryz.f225) aeP MY
def ap9 (x:Int):Int:=
 (ak (aiZ x) fun y=>
 y)
def V5 (x:Int):Prop:=
 (vp x)
def aqa (x:Int):Tr Int true:=
 (.fn DB x fun y=>
 (.ret y))
abbrev S6:bF:=⟨(.one (Ty.int IntKind.u64)),(.one yi),V5,ap9⟩
theorem amY:aq Tryz.prog 201 (ah S6):=aM S6 aqa (fn:=Tryz.f201) EP
def adb:List (Nat×Ev.Spec):=(201,ah S6)::Rd
theorem CG:aj Tryz.prog adb:=aA (fn:=Tryz.f201) amY EP
def ajv (x:Un):(Bool×List Int×Bool×Bool×Bool×Bool):=
 (if ((au (x.2.2.1- x.2.1))<=12) then
 (ak (SY (x.1,x.2.1,x.2.2.1,x.2.2.2.2)) fun y=>
 (false,y.2.1,false,false,false,false)) else
 (if ((x.2.2.2.1==0)=true) then
 default else
 default))
def L8 (x:Un):Prop:=
 ((((au (x.2.2.1- x.2.1))<=12)->
 ((Dv (x.1,x.2.1,x.2.2.1,x.2.2.2.2))/\
 az (SY (x.1,x.2.1,x.2.2.1,x.2.2.2.2)) fun y=>
 (y.2.1.length=x.1.length)))/\
 (¬((au (x.2.2.1- x.2.1))<=12)->
 ((((x.2.2.2.1==0)=true)->
 False)/\
 (¬((x.2.2.2.1==0)=true)->
 False))))
def aqn (x:Un):Tr (Bool×List Int×Bool×Bool×Bool×Bool) true:=
 (.i11 ((au (x.2.2.1- x.2.1))<=12)
 (.fnW SZ (x.1,x.2.1,x.2.2.1,x.2.2.2.2) fun y=>
 (.pn 0 2
 (.og ((decide (y.2.1.length=x.1.length))&&true) (y.2.1.length=x.1.length) (fun h=>(iu (decide_eq_true h) rfl))
 (.ret (false,y.2.1,false,false,false,false)))))
 (.b11 (x.2.2.2.1==z0)
 (.og false False False.elim (.ret default))
 (.og false False False.elim (.ret default))))
abbrev Ts:FnW:=⟨(.pair (.row yi) (.pair (.val (.one yi)) (.pair (.val (.one yi)) (.pair (.val (.one yi)) (.val ao5))))),.none,L8,ajv⟩
theorem anf:aq Tryz.prog 200 (lN Ts):=aq.trW Ts aqn (fn:=Tryz.f200) bt CG mixed (by kernel_rfl) (aH.nil _ _) (fun x=>(aK.pW bt (aj.F0 CG (aH.nil _ _)) mixed 0 2 aK.nil (by kernel_rfl))) (fun x=>(by kernel_rfl)) fun x r0 Q=>(by kernel_rfl)
def adg:List (Nat×Ev.Spec):=(200,lN Ts)::adb
theorem M6:aj Tryz.prog adg:=aA (fn:=Tryz.f200) anf CG
def MI (x:(List Int×List I9×Int)):(Bool×List Int×Bool):=
 (ak (ap9 (IntKind.wrap IntKind.u64 (x.1.length:Int))) fun y=>
 (ak (ajv (x.1,0,(x.1.length:Int),y,x.2)) fun aB=>
 (false,aB.2.1,false)))
def uF (x:(List Int×List I9×Int)):Prop:=
 ((V5 (IntKind.wrap IntKind.u64 (x.1.length:Int)))/\
 az (ap9 (IntKind.wrap IntKind.u64 (x.1.length:Int))) fun y=>
 ((L8 (x.1,0,(x.1.length:Int),y,x.2))/\
 az (ajv (x.1,0,(x.1.length:Int),y,x.2)) fun aB=>
 (aB.2.1.length=x.1.length)))
def anx (x:(List Int×List I9×Int)):Tr (Bool×List Int×Bool) true:=
 (.fn S6 (IntKind.wrap IntKind.u64 (nL x.1)) fun y=>
 (.fnW Ts (x.1,z0,(nL x.1),y,x.2) fun aB=>
 (.pn 0 2
 (.og ((decide (aB.2.1.length=x.1.length))&&true) (aB.2.1.length=x.1.length) (fun h=>(iu (decide_eq_true h) rfl))
 (.ret (false,aB.2.1,false))))))
abbrev Ub:FnW:=⟨(.pair (.row yi) (.val ao5)),.none,uF,MI⟩
theorem aj8:aq Tryz.prog 180 (lN Ub):=aq.trW Ub anx (fn:=Tryz.f180) bt M6 mixed (by kernel_rfl) (aH.nil _ _) (fun x=>aK.nil) (fun x=>(by kernel_rfl)) fun x r0 Q=>(by kernel_rfl)
def XY:List (Nat×Ev.Spec):=(180,lN Ub)::adg
theorem zi:aj Tryz.prog XY:=aA (fn:=Tryz.f180) aj8 M6
end Go.Proofs.YtngdehlpoomaiaaGreat
namespace Go.Proofs.YtngdehlpoomaiaaGreat
open Go Go.Ev Go.Proofs
theorem qJ {a b A B:Int} (h1: -A<=a) (h2:a<=A) (h3: -B<=b) (h4:b<=B): -(A*B)<=a*b/\ a*b<=A*B:=by
 have e1:=Int.mul_nonneg (show 0<=A- a by omega) (show 0<=B+b by omega)
 have e2:=Int.mul_nonneg (show 0<=A+a by omega) (show 0<=B- b by omega)
 have e3:=Int.mul_nonneg (show 0<=A- a by omega) (show 0<=B- b by omega)
 have e4:=Int.mul_nonneg (show 0<=A+a by omega) (show 0<=B+b by omega)
 constructor<;>grind
theorem ajW {α R:Type} [Inhabited R] (l:List α) (step:Int->Int⊕R) (pre:Int->Prop) (out:List α->R)
  (hp: ∀i:Nat,i<=l.length->pre i)
  (hs: ∀(i:Nat) (x:α),l[i]? =some x->(step i= .inl ((i:Int)+1)/\ out (l.drop i)=out (l.drop (i+1)))\/ step i= .inr (out (l.drop i)))
  (he:step l.length= .inr (out [])):Term step pre 0/\ run step 0=out l:=by
 refine ⟨Term.of (fun s:Int=> ∃i:Nat,s=i/\ i<=l.length) (fun s:Int=>l.length- s.toNat) (fun s ⟨i,e,hi⟩=> ?_) 0 ⟨0,rfl,Nat.zero_le _⟩,?_⟩
 ·subst e
  refine ⟨hp i hi,fun s' h=> ?_⟩
  rcases Nat.lt_or_ge i l.length with hlt|hge
  ·rcases hs i _ (List.getElem?_eq_getElem hlt) with ⟨h1,_⟩|h1
   ·rw [h1] at h
    cases h
    exact ⟨⟨i+1,by omega,hlt⟩,by simp only [Int.toNat_natCast];omega⟩
   ·rw [h1] at h;cases h
  ·have:i=l.length:=by omega
   subst this
   rw [he] at h;cases h
 ·have main: ∀k i:Nat,i+k=l.length→run step i=out (l.drop i):=by
   intro k
   induction k with
   |zero=>
    intro i hi
    have:i=l.length:=by omega
    subst this
    rw [run_eq,he,List.drop_length]
   |succ k ih=>
    intro i hi
    have hlt:i<l.length:=by omega
    rw [run_eq]
    rcases hs i _ (List.getElem?_eq_getElem hlt) with ⟨h1,h2⟩|h1
    ·rw [h1,h2]
     exact ih (i+1) (by omega)
    ·rw [h1]
  simpa using main l.length 0 (by omega)
def R3 {α:Type} (bad:α->Bool) (l:List α):Unit⊕Unit:=if l.any bad=true then .inl () else .inr ()
theorem gW {α:Type} {l:List α} {i:Nat} {x d:α} (h:l[i]? =some x):l.getD i d=x:=by rw [List.getD_eq_getElem?_getD,h];rfl
theorem cz {α:Type} {l:List α} {i:Nat} {x:α} (h:l[i]? =some x):i<l.length:=(List.getElem?_eq_some_iff.1 h).1
theorem alQ {α:Type} {l:List α} {i:Nat} {x:α} (h:l[i]? =some x):l.drop i=x::l.drop (i+1):=by
 obtain ⟨h1,h2⟩:=List.getElem?_eq_some_iff.1 h
 rw [List.drop_eq_getElem_cons h1,h2]
theorem iq {α:Type} (l:List α) (hl:l.length<4611686018427387904) (bad:α->Bool) (step:Int->Int⊕(Unit⊕Unit)) (pre:Int->Prop)
  (hp: ∀i:Nat,i<=l.length->pre i)
  (hs: ∀(i:Nat) (x:α),l[i]? =some x->step i=if bad x=true then .inr (.inl ()) else .inl (au ((i:Int)+1)))
  (he:step l.length= .inr (.inr ())):Term step pre 0/\ Sum.elim (fun _=>false) (fun _=>true) (run step 0)= !l.any bad:=by
 obtain ⟨h1,h2⟩:=ajW l step pre (R3 bad) hp (fun i x hx=>by
  have hlt:=cz hx
  rw [hs i x hx,alQ hx]
  unfold R3
  simp only [List.any_cons]
  by_cases hb:bad x=true
  ·exact .inr (by simp [hb])
  ·refine .inl ⟨?_,by simp [hb]⟩
   rw [if_neg hb,ax (by omega) (by omega)]) (by rw [he];simp [R3])
 refine ⟨h1,?_⟩
 rw [h2]
 unfold R3
 cases l.any bad<;>rfl
theorem V9 {S R:Type} [Inhabited R] {step:S->S⊕R} {pre:S->Prop} (J:S->Prop) (μ:S->Nat) (Post:R->Prop)
  (h: ∀s,J s->pre s/\ (∀s',step s= .inl s'->J s'/\ μ s'<μ s)/\ ∀r,step s= .inr r->Post r) (s:S) (hs:J s):Term step pre s/\ Post (run step s):=by
 refine ⟨Term.of J μ (fun s hs=>⟨(h s hs).1,(h s hs).2.1⟩) s hs,?_⟩
 obtain ⟨n,hn⟩: ∃n,n=μ s:=⟨_,rfl⟩
 induction n using Nat.strongRecOn generalizing s with
 |_ n ih=>
  obtain ⟨_,h2,h3⟩:=h s hs
  rw [run_eq]
  cases e:step s with
  |inl s'=>
   obtain ⟨h4,h5⟩:=h2 s' e
   exact ih (μ s') (by omega) s' h4 rfl
  |inr r=>exact h3 r e
theorem cnt {i n:Nat} (h:i<n) (hn:n<4611686018427387904):au ((i:Int)+1)=((i+1:Nat):Int):=by rw [ax (by omega) (by omega)];omega
theorem qD {α:Type} (l:List α) (hl:l.length<4611686018427387904) (bad:α->Bool) (step:Int->Int⊕(Int⊕Unit)) (pre:Int->Prop)
  (hp: ∀i:Nat,i<=l.length->pre i)
  (hs: ∀(i:Nat) (x:α),l[i]? =some x->step i=if bad x=true then .inr (.inl i) else .inl (au ((i:Int)+1)))
  (he:step l.length= .inr (.inr ())):Term step pre 0/\ Sum.elim (fun a=>a) (fun _=> -1) (run step 0)=match l.findIdx? bad with|some i=>(i:Int)|none=> -1:=by
 have key: ∀i:Nat,i<=l.length->(∀j x,j<i->l[j]? =some x->bad x=false)->True:=fun _ _ _=>trivial
 obtain ⟨h1,h2⟩:=V9 (step:=step) (pre:=pre) (fun s=> ∃i:Nat,s=i/\ i<=l.length/\ ∀j x,j<i->l[j]? =some x->bad x=false) (fun s=>l.length- s.toNat)
  (fun r=>Sum.elim (fun a=>a) (fun _=> -1) r=match l.findIdx? bad with|some i=>(i:Int)|none=> -1) (fun s ⟨i,e,hi,hb⟩=>by
   subst e
   refine ⟨hp i hi,fun s' h=> ?_,fun r h=> ?_⟩
   ·rcases Nat.lt_or_ge i l.length with hlt|hge
    ·have hg:=List.getElem?_eq_getElem hlt
     rw [hs i _ hg] at h
     split at h
     ·cases h
     ·rename_i hn
      cases h
      refine ⟨⟨i+1,by rw [ax (by omega) (by omega)];rfl,hlt,fun j x hj hx=> ?_⟩,?_⟩
      ·rcases Nat.lt_or_ge j i with h1|h1
       ·exact hb j x h1 hx
       ·have:j=i:=by omega
        subst this
        rw [hg] at hx;cases hx
        simpa using hn
      ·rw [ax (by omega) (by omega),Int.toNat_natCast,show ((i:Int)+1).toNat=i+1 by omega];omega
    ·have:i=l.length:=by omega
     subst this
     rw [he] at h;cases h
   ·rcases Nat.lt_or_ge i l.length with hlt|hge
    ·have hg:=List.getElem?_eq_getElem hlt
     rw [hs i _ hg] at h
     split at h
     ·rename_i hy
      cases h
      have:l.findIdx? bad=some i:=by
       rw [List.findIdx?_eq_some_iff_getElem]
       refine ⟨hlt,hy,fun j hj=> ?_⟩
       rw [hb j _ hj (List.getElem?_eq_getElem (by omega))];simp
      rw [this];rfl
     ·cases h
    ·have:i=l.length:=by omega
     subst this
     rw [he] at h;cases h
     have:l.findIdx? bad=none:=by
      rw [List.findIdx?_eq_none_iff]
      intro x hx
      obtain ⟨j,hj,rfl⟩:=List.getElem_of_mem hx
      exact hb j _ hj (List.getElem?_eq_getElem hj)
     rw [this];rfl) 0 ⟨0,rfl,Nat.zero_le _,fun j x hj=>absurd hj (Nat.not_lt_zero _)⟩
 exact ⟨h1,h2⟩
theorem xD {α:Type} (l:List α) (bad:α->Bool):decide ((match l.findIdx? bad with|some i=>(i:Int)|none=> -1)>=0)=l.any bad:=by
 cases h:l.findIdx? bad with
 |none=>
  rw [List.findIdx?_eq_none_iff] at h
  symm
  simp only [List.any_eq_false]
  refine Eq.trans ?_ (by decide:false=decide ((-1:Int)>=0))
  rw [List.any_eq_false]
  exact fun x hx=>by rw [h x hx];simp
 |some i=>
  rw [List.findIdx?_eq_some_iff_getElem] at h
  obtain ⟨h1,h2,_⟩:=h
  have:l.any bad=true:=List.any_eq_true.2 ⟨_,List.getElem_mem h1,h2⟩
  rw [this]
  exact decide_eq_true (by dsimp only;omega)
end Go.Proofs.YtngdehlpoomaiaaGreat
namespace Go.Proofs.YtngdehlpoomaiaaGreat
open Go Go.Ev Go.Proofs
def TR {S R:Type} [Inhabited R] (step:S->S⊕R) (pre:S->Prop) (s:S) (Post:R->Prop):Prop:=Term step pre s/\ Post (run step s)
theorem TR.stop {S R:Type} [Inhabited R] {step:S->S⊕R} {pre:S->Prop} {s:S} {Post:R->Prop} {r:R} (hp:pre s) (h:step s= .inr r) (hq:Post r):TR step pre s Post:=
 ⟨.mk s hp (fun s' e=>by rw [h] at e;cases e),by rw [run_eq,h];exact hq⟩
theorem TR.go {S R:Type} [Inhabited R] {step:S->S⊕R} {pre:S->Prop} {s s':S} {Post:R->Prop} (hp:pre s) (h:step s= .inl s') (hn:TR step pre s' Post):TR step pre s Post:=
 ⟨.mk s hp (fun t e=>by rw [h] at e;cases e;exact hn.1),by rw [run_eq,h];exact hn.2⟩
theorem TR.mono {S R:Type} [Inhabited R] {step:S->S⊕R} {pre:S->Prop} {s:S} {Post Post':R->Prop} (h:TR step pre s Post) (hq: ∀r,Post r->Post' r):TR step pre s Post':=⟨h.1,hq _ h.2⟩
theorem zY (l:List Int) (i:Nat):l.toArray[i]! =l.getD i 0:=by
 rw [List.getD_eq_getElem?_getD]
 simp only [List.getElem!_toArray]
 rw [List.getElem!_eq_getElem?_getD];rfl
def sw (l:List Int) (i j:Nat):List Int:=(l.set i (l.getD j 0)).set j (l.getD i 0)
theorem aqw (l:List Int) (i j:Nat):(sw l i j).toArray=Sort.swp l.toArray i j:=by
 unfold sw Sort.swp
 rw [zY,zY]
 simp
theorem abe (l:List Int) (i j:Nat):(sw l i j).length=l.length:=by simp [sw]
theorem ahS {l:List Int} {i:Nat} (h:i<l.length):l.getD i 0∈l:=by
 rw [List.getD_eq_getElem?_getD,List.getElem?_eq_getElem h];exact List.getElem_mem h
def okE (r:RT) (e:Int):Prop:=0<=e/\ e<(r.1.length:Int)
def RO (r:RT):Prop:=0<=r.2/\ r.2<3
theorem amP (x:Int):isNaN x=false:=by simp [isNaN]
theorem uZ (a b:Int):compare (a,b)=if a<b then-1 else if a>b then 1 else 0:=by
 simp [compare,amP,ak]
theorem zK (a b:Int):pZ [a,b]/\ KT [a,b]=if a≠0 then a else b:=by
 have key:TR (dZ [a,b]) (gQ [a,b]) 0 fun r=>Sum.elim (fun a=>a) (fun _=>(0:Int)) r=if a≠0 then a else b:=by
  by_cases ha:a=0
  ·subst ha
   refine TR.go (s':=1) (by simp [gQ]) (by simp [dZ,ax]) ?_
   by_cases hb:b=0
   ·subst hb
    refine TR.go (s':=2) (by simp [gQ]) (by simp [dZ,ax]) ?_
    exact TR.stop (r:= .inr ()) (by simp [gQ]) (by simp [dZ]) (by simp)
   ·exact TR.stop (r:= .inl b) (by simp [gQ]) (by simp [dZ,hb]) (by simp)
  ·exact TR.stop (r:= .inl a) (by simp [gQ]) (by simp [dZ,ha]) (by simp [ha])
 exact ⟨key.1,by unfold KT ak;exact key.2⟩
def ltM (r:RT) (x y:Int):Bool:=decide (byM (r,x,y)<0)
def mid (r:RT) (x:Int):Int:=middle (r,x)
theorem ao2 (r:RT) (x y:Int):byM (r,x,y)=if mid r x<mid r y then-1 else if mid r x>mid r y then 1 else if x<y then-1 else if x>y then 1 else 0:=by
 simp only [byM,ak,uZ,(zK _ _).2]
 unfold mid
 generalize middle (r,x)=p
 generalize middle (r,y)=q
 split
 ·simp
 ·split<;>simp
theorem acz (r:RT) (x y:Int):ltM r x y=true↔mid r x<mid r y\/ (mid r x=mid r y/\ x<y):=by
 unfold ltM
 rw [ao2,decide_eq_true_eq]
 split
 ·simp;omega
 ·split
  ·simp;omega
  ·split
   ·simp;omega
   ·split<;>simp<;>omega
theorem ai9 (r:RT) (x y:Int):ltM r x y=false↔ ¬(mid r x<mid r y\/ (mid r x=mid r y/\ x<y)):=by
 rw [<- acz];simp
theorem acA (r:RT):Sort.SWO (ltM r) where
 irrefl x:=by rw [ai9];omega
 trans x y z h1 h2:=by rw [acz] at*;omega
 ntrans x y z h1 h2:=by rw [ai9] at*;omega
theorem aeY (r:RT) (x y:Int) (h1:ltM r x y=false) (h2:ltM r y x=false):x=y:=by
 rw [ai9] at*;omega
theorem Wf {r:RT} (hr:RO r) {x:Int} (h:okE r x):qI (r,x):=by
 obtain ⟨h1,h2⟩:=hr
 have h:0<=x/\ x<(r.1.length:Int):=h
 simp only [qI]
 refine ⟨h,by omega,by omega,⟨h1,h2⟩,⟨h1,h2⟩,h1,h2⟩
theorem ars {r:RT} (hr:RO r) {x y:Int} (hx:okE r x) (hy:okE r y):CY (r,x,y):=by
 simp only [CY,az]
 exact ⟨Wf hr hx,Wf hr hy,(zK _ _).1⟩
def Ok (r:RT) (d:List Int):Prop:= ∀e∈d,okE r e
theorem Ok.at_ {r:RT} {d:List Int} (h:Ok r d) {i:Nat} (hi:i<d.length):okE r (d.getD i 0):=h _ (ahS hi)
theorem Ok.sw {r:RT} {d:List Int} (h:Ok r d) {i j:Nat} (hi:i<d.length) (hj:j<d.length):Ok r (sw d i j):=by
 intro e he
 unfold Go.Proofs.YtngdehlpoomaiaaGreat.sw at he
 rcases List.mem_or_eq_of_mem_set he with he|rfl
 ·rcases List.mem_or_eq_of_mem_set he with he|rfl
  ·exact h e he
  ·exact h.at_ hj
 ·exact h.at_ hi
structure FP (r:RT) (d:List Int):Prop where
 len:d.length<4611686018427387904
 ok:Ok r d
 ro:RO r
theorem FP.sw {r:RT} {d:List Int} (h:FP r d) {i j:Nat} (hi:i<d.length) (hj:j<d.length):FP r (sw d i j):=⟨by rw [abe];exact h.len,h.ok.sw hi hj,h.ro⟩
theorem FP.by_ {r:RT} {d:List Int} (h:FP r d) {i j:Nat} (hi:i<d.length) (hj:j<d.length):CY (r,d.getD i 0,d.getD j 0):=ars h.ro (h.ok.at_ hi) (h.ok.at_ hj)
theorem ag9 (r:RT) (x y:Int):(byM (r,x,y)<0)↔ltM r x y=true:=by unfold ltM;simp
def Out (r:RT) (d:List Int) (a b:Nat) (d':List Int):Prop:=Sort.PermIn a b d.toArray d'.toArray/\ d'.length=d.length/\ FP r d'
theorem aeG (x:List Int×Int×Int×RT) (a:Nat) (hx:x.2.1=(a:Int)): ∀(j:Nat) (d:List Int) (i:Int),FP x.2.2.2 d->j<d.length->
  TR (dH x) (iR x) (d,i,(j:Int)) fun r=>r.1.toArray=Sort.insInner (ltM x.2.2.2) a j d.toArray/\ r.2=i/\ r.1.length=d.length/\ FP x.2.2.2 r.1:=by
 intro j
 induction j with
 |zero=>
  intro d i hf hj
  refine TR.stop (r:=(d,i)) ?_ ?_ ⟨?_,rfl,rfl,hf⟩
  ·simp only [iR,hx];intro h;exfalso;omega
  ·simp only [dH,hx];rw [if_neg (by omega)]
  ·rw [Sort.insInner]
 |succ j ih=>
  intro d i hf hj
  have hl:=hf.len
  have e:au (((j+1:Nat):Int)- 1)=(j:Int):=by rw [ax (by omega) (by omega)];omega
  by_cases hja:j+1>a
  ·by_cases hlt:ltM x.2.2.2 (d.getD (j+1) 0) (d.getD j 0)=true
   ·refine TR.go (s':=(sw d (j+1) j,i,(j:Int))) ?_ ?_ ((ih _ i (hf.sw hj (by omega)) (by rw [abe];omega)).mono fun r hr=>⟨?_,hr.2.1,?_,hr.2.2.2⟩)
    ·simp only [iR,az,List.length_set,Int.toNat_natCast,e]
     intro _
     refine ⟨?_,?_,?_,?_,?_,?_,hf.by_ hj (by omega),fun _=> ?_⟩<;>omega
    ·simp only [dH,ak,Int.toNat_natCast,e,hx]
     rw [if_pos (by omega),if_pos ((ag9 _ _ _).2 hlt)];rfl
    ·rw [hr.1,aqw]
     conv=>rhs;rw [Sort.insInner,zY,zY,if_pos (by rw [Bool.and_eq_true];exact ⟨decide_eq_true hja,hlt⟩)]
    ·rw [hr.2.2.1,abe]
   ·refine TR.stop (r:=(d,i)) ?_ ?_ ⟨?_,rfl,rfl,hf⟩
    ·simp only [iR,az,List.length_set,Int.toNat_natCast,e]
     intro _
     refine ⟨?_,?_,?_,?_,?_,?_,hf.by_ hj (by omega),fun h=>absurd ((ag9 _ _ _).1 h) hlt⟩<;>omega
    ·simp only [dH,ak,Int.toNat_natCast,e,hx]
     rw [if_pos (by omega),if_neg (fun h=>hlt ((ag9 _ _ _).1 h))]
    ·rw [Sort.insInner,zY,zY,if_neg (by rw [Bool.and_eq_true];exact fun h=>hlt h.2)]
  ·refine TR.stop (r:=(d,i)) ?_ ?_ ⟨?_,rfl,rfl,hf⟩
   ·simp only [iR,hx];intro h;exfalso;omega
   ·simp only [dH,hx];rw [if_neg (by omega)]
   ·rw [Sort.insInner,if_neg (by simp [hja])]
theorem aeH (x:List Int×Int×Int×RT) (a b:Nat) (hx:x.2.1=(a:Int)) (hx2:x.2.2.1=(b:Int)): ∀(n:Nat) (d:List Int) (i:Nat),FP x.2.2.2 d->b<=d.length->b- i<=n->
  TR (eD x) (kg x) (d,(i:Int)) fun r=>r.toArray=Sort.insOuter (ltM x.2.2.2) a b i d.toArray/\ r.length=d.length/\ FP x.2.2.2 r:=by
 intro n
 induction n with
 |zero=>
  intro d i hf hj hn
  refine TR.stop (r:=d) ?_ ?_ ⟨?_,rfl,hf⟩
  ·simp only [kg,hx2];intro h;exfalso;omega
  ·simp only [eD,hx2];rw [if_neg (by omega)]
  ·rw [Sort.insOuter,if_neg (by omega)]
 |succ n ih=>
  intro d i hf hb hn
  have hl:=hf.len
  by_cases hi:i<b
  ·obtain ⟨k1,k2,k3,k4,k5⟩:=aeG x a hx i d i hf (by omega)
   refine TR.go (s':=((run (dH x) (d,(i:Int),(i:Int))).1,((i+1:Nat):Int))) ?_ ?_ ((ih _ _ k5 (by omega) (by omega)).mono fun r hr=>⟨?_,by omega,hr.2.2⟩)
   ·simp only [kg];exact fun _=>k1
   ·simp only [eD,ak,hx2,k3]
    rw [if_pos (by omega),ax (by omega) (by omega)];rfl
   ·rw [hr.1,k2]
    conv=>rhs;rw [Sort.insOuter,if_pos hi]
  ·refine TR.stop (r:=d) ?_ ?_ ⟨?_,rfl,hf⟩
   ·simp only [kg,hx2];intro h;exfalso;omega
   ·simp only [eD,hx2];rw [if_neg (by omega)]
   ·rw [Sort.insOuter,if_neg hi]
theorem amN {r:RT} {d:List Int} (hf:FP r d) {a b:Nat} (hab:a<=b) (hb:b<=d.length):
  Dv (d,(a:Int),(b:Int),r)/\ Out r d a b (SY (d,(a:Int),(b:Int),r)).2.1/\ Sort.SortedIn (ltM r) a b (SY (d,(a:Int),(b:Int),r)).2.1.toArray:=by
 have hl:=hf.len
 have e:au ((a:Int)+1)=((a+1:Nat):Int):=by rw [ax (by omega) (by omega)];omega
 obtain ⟨h1,h2,h3,h4⟩:=aeH (d,(a:Int),(b:Int),r) a b rfl rfl _ d (a+1) hf hb (Nat.le_refl _)
 obtain ⟨k1,k2⟩:=Sort.insertionSort_holds (acA r) d.toArray a b hab (by simpa using hb)
 unfold Sort.insertionSort at k1 k2
 refine ⟨?_,?_,?_⟩
 ·simp only [Dv,az,e]
  exact ⟨h1,h3⟩
 ·simp only [SY,ak,e]
  exact ⟨by rw [h2];exact k1,h3,h4⟩
 ·simp only [SY,ak,e]
  rw [h2];exact k2
theorem u8w (n:Int):IntKind.wrap IntKind.u8 n=n % 256:=by simp [IntKind.wrap,IntKind.bits,IntKind.signed]
theorem avs (n:Int):IntKind.wrap IntKind.u64 n=n % 18446744073709551616:=by simp [IntKind.wrap,IntKind.bits,IntKind.signed]
abbrev most:Nat:=12
theorem asG (n:Nat):vp (n:Int):=by
 simp only [vp,u8w]
 repeat' (first|with_reducible apply And.intro|intro _)
 all_goals omega
def srt (r:RT) (d:List Int):List Int:=d.mergeSort fun x y=> !ltM r y x
theorem aj9 {r:RT} {d:List Int} (hf:FP r d) (hm:d.length<=most):uF (d,r)/\ (MI (d,r)).2.1=srt r d:=by
 have hl:=hf.len
 have e:IntKind.wrap IntKind.u64 ((d.length:Nat):Int)=((d.length:Nat):Int):=by rw [avs];omega
 have e2:au (((d.length:Nat):Int)- 0)=((d.length:Nat):Int):=by rw [ax (by omega) (by omega)];omega
 have h12:d.length<=12:=hm
 have c:((d.length:Nat):Int)<=12:=by omega
 obtain ⟨i1,i2,i3⟩:=amN hf (Nat.zero_le _) (Nat.le_refl d.length)
 have hi:SY (d,((0:Nat):Int),((d.length:Nat):Int),r)=SY (d,(0:Int),(d.length:Int),r):=rfl
 rw [show (((0:Nat):Int))=0 from rfl] at i1 i2 i3
 refine ⟨?_,?_⟩
 ·simp only [uF,az,e,L8,ajv,ak,e2]
  refine ⟨asG _,⟨fun _=>⟨i1,i2.2.1⟩,fun q=>absurd c q⟩,?_⟩
  rw [if_pos c];exact i2.2.1
 ·simp only [MI,ak,e,ajv,e2]
  rw [if_pos c]
  have:=Sort.sorted_unique_holds (acA r) (aeY r) d.toArray _ (by simpa using i2.1) (by simpa using i3)
  simpa [srt] using this
theorem Yc (r:RT) (d:List Int):(srt r d).Perm d:=List.mergeSort_perm _ _
end Go.Proofs.YtngdehlpoomaiaaGreat
