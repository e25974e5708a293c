/- Models of functions of layers 10, 15, 16. -/
import Derived.Test.YtfgdjlhilladhaaGreatDb0
noncomputable section
set_option linter.unusedSectionVars false
set_option linter.unusedVariables false
set_option linter.unusedSimpArgs false
namespace Go.Proofs.YtfgdjlhilladhaaGreat
open Go Go.Ev Go.Proofs
abbrev Fw:Type:=(Int×Int×Int×Int×Int×Int×Int×Nat×I2)
abbrev SF:Type:=(List I3×List I2×List I3×List I9)
def Kw (x:(List I3×Bool)):aF:=⟨[],⟨bq 19 0 [(0,.v (.one (.full 0))),(1,.v (.one (.ik 78 0 []))),(7,.v (.one (.i .i64))),(8,.v (.one (.i .i64)))],[.row aU 0],0,none,[],[0,2],[1],[.i],[.i (x.1.length:Int),.l aU x.1]⟩,[⟨.ret,.ret,⟨bq 19 0 [(4,.v (.one (.i .i64)))],[],0,none,[],[],[0],[.i],[]⟩⟩,⟨(.exit 0),.normal,⟨bq 19 0 [],[],0,none,[],[],[],[],[]⟩⟩]⟩
def iH (x:(List I3×Bool)) (s:Int):Int⊕(Int⊕Unit):=
 (if (s<(x.1.length:Int)) then
 (aq (far (x.1.getD s.toNat (0,0,0))) fun y=>
 (if (y=true) then
 (Sum.inr (Sum.inl s)) else
 (Sum.inl (aj (s+1))))) else
 (Sum.inr (Sum.inr (()))))
def qB (x:(List I3×Bool)) (s:Int):Prop:=
 ((s<(x.1.length:Int))->
 (((0<=s)/\ (s<(x.1.length:Int)))/\
 ((s.toNat<x.1.length)/\
 (s.toNat<x.1.length))))
def Dc (x:(List I3×Bool)) (s:Int):Tr (Int⊕(Int⊕Unit)) true:=
 (.i10 (s<(nL x.1))
 (.gu s x.1
 (.fn0 YO (gT x.1 s ef) trivial fun y=>
 (.cQ y
 (.ret (.inr (Sum.inl s)))
 (.ret (.inl (w1 s))))))
 (.ret (.inr (Sum.inr (())))))
def Rm (x:(List I3×Bool)):Int:=
 (aq (run (iH x) 0) fun r=>
 (Sum.elim (fun a=>
 a) (fun b=>
 (-1)) r))
def Hh (x:(List I3×Bool)):Prop:=
 (Term (iH x) (qB x) 0)
def aaQ (x:(List I3×Bool)):Tr Int true:=
 (aF.lp (Kw x) (Dc x) z0 fun r=>
 (.ri r (fun a=>
 (.ret a)) (fun b=>
 (.ret (-1)))))
abbrev zE:bB:=⟨(.pair (.one (Ty.sl aU)) (.ik 78 .none)),(.one yi),Hh,Rm⟩
theorem WE:ah Tryz.prog 121 (ak zE):=ah.tr zE aaQ (fn:=Tryz.f121) ax yI mixed (by kernel_rfl) (av.nil _ _) (fun x=>(au.tr ax (ae.bD yI (av.nil _ _)) mixed 0 (Kw x) (Dc x) au.nil (by kernel_rfl) fun g s Q=>(by kernel_rfl))) (fun x=>(by kernel_rfl)) fun x Q=>(by kernel_rfl)
def L7:List (Nat×Ev.Spec):=(121,ak zE)::Vn
theorem Bc:ae Tryz.prog L7:=ae.add (fn:=Tryz.f121) (by kernel_rfl) WE yI
def uP (x:(List I3×Bool)):Bool:=
 (aq (Rm (x.1,false)) fun y=>
 (decide (y>=0)))
def qx (x:(List I3×Bool)):Prop:=
 (Hh (x.1,false))
def QY (x:(List I3×Bool)):Tr Bool true:=
 (.fn zE (x.1,false) fun y=>
 (.ret (decide (y>=z0))))
abbrev pP:bB:=⟨(.pair (.one (Ty.sl aU)) (.ik 78 .none)),(.one Ty.bool),qx,uP⟩
theorem M7:ah Tryz.prog 77 (ak pP):=ah.tr pP QY (fn:=Tryz.f77) ax Bc mixed (by kernel_rfl) (av.nil _ _) (fun x=>au.nil) (fun x=>(by kernel_rfl)) fun x Q=>(by kernel_rfl)
def Ba:List (Nat×Ev.Spec):=(77,ak pP)::L7
theorem ux:ae Tryz.prog Ba:=ae.add (fn:=Tryz.f77) (by kernel_rfl) M7 Bc
def GL (x:SF):Bool:=
 (aq (KM x) fun y=>
 (if (y=true) then
 (aq (uP (x.1,false)) fun aB=>
 (!aB)) else
 false))
def Fs (x:SF):Prop:=
 ((vh x)/\
 az (KM x) fun y=>
 ((y=true)->
 (qx (x.1,false))))
def akf (x:SF):Tr Bool true:=
 (.fn Dr x fun y=>
 (.FB y
 (.fn pP (x.1,false) fun aB=>
 (.ret (!aB)))
 (.ret false)))
abbrev SC:bB:=⟨(.agg (Ty.prod (Ty.sl aU) (Ty.prod (Ty.sl aQ) (Ty.prod (Ty.sl aU) (Ty.sl fk))))),(.one Ty.bool),Fs,GL⟩
theorem aie:ah Tryz.prog 35 (ak SC):=ah.tr SC akf (fn:=Tryz.f35) ax ux mixed (by kernel_rfl) (av.nil _ _) (fun x=>au.nil) (fun x=>(by kernel_rfl)) fun x Q=>(by kernel_rfl)
def ZS:List (Nat×Ev.Spec):=(35,ak SC)::Ba
theorem MA:ae Tryz.prog ZS:=ae.add (fn:=Tryz.f35) (by kernel_rfl) aie ux
def odd (x:I6):Bool:=
 (aq (mright x) fun y=>
 (!y))
def Zd (x:I6):Prop:=
 (fY x)
def al0 (x:I6):Tr Bool true:=
 (.fn l8 x fun y=>
 (.ret (!y)))
abbrev Zc:bB:=⟨(.agg aZ),(.one Ty.bool),Zd,odd⟩
theorem ajW:ah Tryz.prog 132 (ak Zc):=ah.tr Zc al0 (fn:=Tryz.f132) ax MA mixed (by kernel_rfl) (av.nil _ _) (fun x=>au.nil) (fun x=>(by kernel_rfl)) fun x Q=>(by kernel_rfl)
def afZ:List (Nat×Ev.Spec):=(132,ak Zc)::ZS
theorem GK:ae Tryz.prog afZ:=ae.add (fn:=Tryz.f132) (by kernel_rfl) ajW MA
def Oy (x:(List I6×Bool)):aF:=⟨[],⟨bq 19 0 [(0,.v (.one (.full 0))),(1,.v (.one (.ik 132 0 []))),(7,.v (.one (.i .i64))),(8,.v (.one (.i .i64)))],[.row aZ 0],0,none,[],[0,2],[1],[.i],[.i (x.1.length:Int),.l aZ x.1]⟩,[⟨.ret,.ret,⟨bq 19 0 [(4,.v (.one (.i .i64)))],[],0,none,[],[],[0],[.i],[]⟩⟩,⟨(.exit 0),.normal,⟨bq 19 0 [],[],0,none,[],[],[],[],[]⟩⟩]⟩
def jx (x:(List I6×Bool)) (s:Int):Int⊕(Int⊕Unit):=
 (if (s<(x.1.length:Int)) then
 (aq (odd (x.1.getD s.toNat ((0,0),(0,0),0,0))) fun y=>
 (if (y=true) then
 (Sum.inr (Sum.inl s)) else
 (Sum.inl (aj (s+1))))) else
 (Sum.inr (Sum.inr (()))))
def sW (x:(List I6×Bool)) (s:Int):Prop:=
 ((s<(x.1.length:Int))->
 (((0<=s)/\ (s<(x.1.length:Int)))/\
 ((s.toNat<x.1.length)/\
 ((s.toNat<x.1.length)/\
 (Zd (x.1.getD s.toNat ((0,0),(0,0),0,0)))))))
def Hf (x:(List I6×Bool)) (s:Int):Tr (Int⊕(Int⊕Unit)) true:=
 (.i10 (s<(nL x.1))
 (.gu s x.1
 (.fn Zc (gT x.1 s aK) fun y=>
 (.cQ y
 (.ret (.inr (Sum.inl s)))
 (.ret (.inl (w1 s))))))
 (.ret (.inr (Sum.inr (())))))
def WC (x:(List I6×Bool)):Int:=
 (aq (run (jx x) 0) fun r=>
 (Sum.elim (fun a=>
 a) (fun b=>
 (-1)) r))
def Ku (x:(List I6×Bool)):Prop:=
 (Term (jx x) (sW x) 0)
def ad5 (x:(List I6×Bool)):Tr Int true:=
 (aF.lp (Oy x) (Hf x) z0 fun r=>
 (.ri r (fun a=>
 (.ret a)) (fun b=>
 (.ret (-1)))))
abbrev Da:bB:=⟨(.pair (.one (Ty.sl aZ)) (.ik 132 .none)),(.one yi),Ku,WC⟩
theorem aaO:ah Tryz.prog 169 (ak Da):=ah.tr Da ad5 (fn:=Tryz.f169) ax GK mixed (by kernel_rfl) (av.nil _ _) (fun x=>(au.tr ax (ae.bD GK (av.nil _ _)) mixed 0 (Oy x) (Hf x) au.nil (by kernel_rfl) fun g s Q=>(by kernel_rfl))) (fun x=>(by kernel_rfl)) fun x Q=>(by kernel_rfl)
def PU:List (Nat×Ev.Spec):=(169,ak Da)::afZ
theorem EL:ae Tryz.prog PU:=ae.add (fn:=Tryz.f169) (by kernel_rfl) aaO GK
def tJ (x:(List I6×Bool)):Bool:=
 (aq (WC (x.1,false)) fun y=>
 (decide (y>=0)))
def sP (x:(List I6×Bool)):Prop:=
 (Ku (x.1,false))
def S8 (x:(List I6×Bool)):Tr Bool true:=
 (.fn Da (x.1,false) fun y=>
 (.ret (decide (y>=z0))))
abbrev rG:bB:=⟨(.pair (.one (Ty.sl aZ)) (.ik 132 .none)),(.one Ty.bool),sP,tJ⟩
theorem QW:ah Tryz.prog 133 (ak rG):=ah.tr rG S8 (fn:=Tryz.f133) ax EL mixed (by kernel_rfl) (av.nil _ _) (fun x=>au.nil) (fun x=>(by kernel_rfl)) fun x Q=>(by kernel_rfl)
def EC:List (Nat×Ev.Spec):=(133,ak rG)::PU
theorem dm:ae Tryz.prog EC:=ae.add (fn:=Tryz.f133) (by kernel_rfl) QW EL
def OE:acU Tryz.prog:=⟨_,(av.walk ax dm mixed 98 (fn:=Tryz.f98) (by kernel_rfl) (av.nil _ _) fun ys hy=>au.nil)⟩
def zL:acU Tryz.prog:=⟨_,(av.walk ax dm mixed 142 (fn:=Tryz.f142) (by kernel_rfl) OE.ok fun ys hy=>(au.j7 ax ⟨dm,hy,OE.ok⟩ mixed 0 4 au.nil (by kernel_rfl)))⟩
def Dm (x:(I6×Int×List I2)):aF:=⟨[.lo,.env,.env],⟨bq 30 0 [(4,.v (.one (.ptr 2 0))),(6,.v (.one (.ptr 4 0))),(7,.v (.one (.ik 143 0 [.loc 10 0,.loc 11 0,.loc 9 0]))),(8,.v (.one (.b))),(14,.v (.one (.full 0))),(15,.v (.one (.i .i64))),(16,.v (.one (.i .i64)))],[.row aQ 0,.cells [.i .i64,.i .i64,.i .i64,.i .i64,.i .i64,.i .i64] 24,.cells [.i .i64] 3,.cells [.full 0] 29,.cells [.b] 4,.gone,.cells [.i .i64,.i .i64,.i .i64,.i .i64,.i .i64,.i .i64] 24,.loop true,.ji 8,.cells [.i .i64] 3,.cells [.i .i64,.i .i64] 23,.cells [.i .i64,.i .i64] 23,.ji 12],13,none,[18,19,25],[1,3,4,5,6,7,8,9,10,11,12,13,14,15,16,17,21,22,23,24],[20,0,2],[.i,.b,.i],[.i (x.2.2.length:Int),.l aQ x.2.2,.i x.1.1.1,.i x.1.1.2,.i x.1.2.1.1,.i x.1.2.1.2,.i x.1.2.2.1,.i x.1.2.2.2,.i x.2.1,.b false,.i x.1.1.1,.i x.1.1.2,.i x.1.2.1.1,.i x.1.2.1.2,.i x.1.2.2.1,.i x.1.2.2.2,.i x.1.1.1,.i x.1.1.2,.i x.1.2.1.1,.i x.1.2.1.2]⟩,[⟨(.exit 2),.normal,⟨bq 30 0 [(6,.v (.one (.ptr 4 0))),(8,.v (.one (.b)))],[.row aQ 0,.cells [.i .i64,.i .i64,.i .i64,.i .i64,.i .i64,.i .i64] 24,.cells [.i .i64] 3,.cells [.full 0] 29,.cells [.b] 4,.gone,.cells [.i .i64,.i .i64,.i .i64,.i .i64,.i .i64,.i .i64] 24,.loop true,.ji 8,.cells [.i .i64] 3,.cells [.i .i64,.i .i64] 23,.cells [.i .i64,.i .i64] 23,.ji 12],13,none,[16,17,23],[1,2,3,4,5,6,7,8,9,10,11,12,13,14,15,19,20,21,22],[18,0],[.i,.b],[.l aQ x.2.2,.i x.1.1.1,.i x.1.1.2,.i x.1.2.1.1,.i x.1.2.1.2,.i x.1.2.2.1,.i x.1.2.2.2,.i x.2.1,.b false,.i x.1.1.1,.i x.1.1.2,.i x.1.2.1.1,.i x.1.2.1.2,.i x.1.2.2.1,.i x.1.2.2.2,.i x.1.1.1,.i x.1.1.2,.i x.1.2.1.1,.i x.1.2.1.2]⟩⟩]⟩
def cj (x:(I6×Int×List I2)) (s:(Int×Bool×Int)):(Int×Bool×Int)⊕(Int×Bool):=
 (if (s.2.2<(x.2.2.length:Int)) then
 (if (s.2.1=true) then
 (aq (xT ((x.2.2.getD s.2.2.toNat (0,0)),x.1.1,x.1.2.1,s.1)) fun y=>
 (Sum.inl (s.1,(decide (y<x.2.1)),(aj (s.2.2+1))))) else
 (Sum.inl (s.1,false,(aj (s.2.2+1))))) else
 (Sum.inr ((s.1,s.2.1))))
def tU (x:(I6×Int×List I2)) (s:(Int×Bool×Int)):Prop:=
 ((s.2.2<(x.2.2.length:Int))->
 (((0<=s.2.2)/\ (s.2.2<(x.2.2.length:Int)))/\
 ((s.2.2.toNat<x.2.2.length)/\
 ((s.2.2.toNat<x.2.2.length)/\
 ((s.2.1=true)->
 (lA ((x.2.2.getD s.2.2.toNat (0,0)),x.1.1,x.1.2.1,s.1)))))))
def xN (x:(I6×Int×List I2)) (s:(Int×Bool×Int)):Tr ((Int×Bool×Int)⊕(Int×Bool)) true:=
 (.i10 (s.2.2<(nL x.2.2))
 (.gu s.2.2 x.2.2
 (.FB s.2.1
 (.fn pS ((gT x.2.2 s.2.2 jg),x.1.1,x.1.2.1,s.1) fun y=>
 (.ret (.inl (s.1,(decide (y<x.2.1)),(w1 s.2.2)))))
 (.ret (.inl (s.1,false,(w1 s.2.2))))))
 (.ret (.inr ((s.1,s.2.1)))))
def Dn (x:(I6×Int×List I2)):aF:=⟨[.lo,.env,.env],⟨bq 30 0 [(4,.v (.one (.ptr 2 0))),(6,.v (.one (.ptr 4 0))),(7,.v (.one (.ik 143 0 [.loc 13 0,.loc 14 0,.loc 9 0]))),(8,.v (.one (.b))),(14,.v (.one (.full 0))),(15,.v (.one (.i .i64))),(16,.v (.one (.i .i64)))],[.row aQ 0,.cells [.i .i64,.i .i64,.i .i64,.i .i64,.i .i64,.i .i64] 24,.cells [.i .i64] 3,.cells [.full 0] 29,.cells [.b] 4,.gone,.cells [.i .i64,.i .i64,.i .i64,.i .i64,.i .i64,.i .i64] 24,.loop true,.ji 8,.cells [.i .i64] 3,.cells [.i .i64,.i .i64] 23,.cells [.i .i64,.i .i64] 23,.gone,.cells [.i .i64,.i .i64] 23,.cells [.i .i64,.i .i64] 23,.ji 15],16,none,[18,19,29],[1,3,4,5,6,7,8,9,10,11,12,13,14,15,16,17,21,22,23,24,25,26,27,28],[20,0,2],[.i,.b,.i],[.i (x.2.2.length:Int),.l aQ x.2.2,.i x.1.1.1,.i x.1.1.2,.i x.1.2.1.1,.i x.1.2.1.2,.i x.1.2.2.1,.i x.1.2.2.2,.i x.2.1,.b false,.i x.1.1.1,.i x.1.1.2,.i x.1.2.1.1,.i x.1.2.1.2,.i x.1.2.2.1,.i x.1.2.2.2,.i x.1.1.1,.i x.1.1.2,.i x.1.2.1.1,.i x.1.2.1.2,.i x.1.2.1.1,.i x.1.2.1.2,.i x.1.2.2.1,.i x.1.2.2.2]⟩,[⟨(.exit 2),.normal,⟨bq 30 0 [(6,.v (.one (.ptr 4 0))),(8,.v (.one (.b)))],[.row aQ 0,.cells [.i .i64,.i .i64,.i .i64,.i .i64,.i .i64,.i .i64] 24,.cells [.i .i64] 3,.cells [.full 0] 29,.cells [.b] 4,.gone,.cells [.i .i64,.i .i64,.i .i64,.i .i64,.i .i64,.i .i64] 24,.loop true,.ji 8,.cells [.i .i64] 3,.cells [.i .i64,.i .i64] 23,.cells [.i .i64,.i .i64] 23,.gone,.cells [.i .i64,.i .i64] 23,.cells [.i .i64,.i .i64] 23,.ji 15],16,none,[16,17,27],[1,2,3,4,5,6,7,8,9,10,11,12,13,14,15,19,20,21,22,23,24,25,26],[18,0],[.i,.b],[.l aQ x.2.2,.i x.1.1.1,.i x.1.1.2,.i x.1.2.1.1,.i x.1.2.1.2,.i x.1.2.2.1,.i x.1.2.2.2,.i x.2.1,.b false,.i x.1.1.1,.i x.1.1.2,.i x.1.2.1.1,.i x.1.2.1.2,.i x.1.2.2.1,.i x.1.2.2.2,.i x.1.1.1,.i x.1.1.2,.i x.1.2.1.1,.i x.1.2.1.2,.i x.1.2.1.1,.i x.1.2.1.2,.i x.1.2.2.1,.i x.1.2.2.2]⟩⟩]⟩
def ck (x:(I6×Int×List I2)) (s:(Int×Bool×Int)):(Int×Bool×Int)⊕(Int×Bool):=
 (if (s.2.2<(x.2.2.length:Int)) then
 (if (s.2.1=true) then
 (aq (xT ((x.2.2.getD s.2.2.toNat (0,0)),x.1.2.1,x.1.2.2,s.1)) fun y=>
 (Sum.inl (s.1,(decide (y<x.2.1)),(aj (s.2.2+1))))) else
 (Sum.inl (s.1,false,(aj (s.2.2+1))))) else
 (Sum.inr ((s.1,s.2.1))))
def tV (x:(I6×Int×List I2)) (s:(Int×Bool×Int)):Prop:=
 ((s.2.2<(x.2.2.length:Int))->
 (((0<=s.2.2)/\ (s.2.2<(x.2.2.length:Int)))/\
 ((s.2.2.toNat<x.2.2.length)/\
 ((s.2.2.toNat<x.2.2.length)/\
 ((s.2.1=true)->
 (lA ((x.2.2.getD s.2.2.toNat (0,0)),x.1.2.1,x.1.2.2,s.1)))))))
def xO (x:(I6×Int×List I2)) (s:(Int×Bool×Int)):Tr ((Int×Bool×Int)⊕(Int×Bool)) true:=
 (.i10 (s.2.2<(nL x.2.2))
 (.gu s.2.2 x.2.2
 (.FB s.2.1
 (.fn pS ((gT x.2.2 s.2.2 jg),x.1.2.1,x.1.2.2,s.1) fun y=>
 (.ret (.inl (s.1,(decide (y<x.2.1)),(w1 s.2.2)))))
 (.ret (.inl (s.1,false,(w1 s.2.2))))))
 (.ret (.inr ((s.1,s.2.1)))))
def Dp (x:(I6×Int×List I2)):aF:=⟨[.lo,.env,.env],⟨bq 30 0 [(4,.v (.one (.ptr 2 0))),(6,.v (.one (.ptr 4 0))),(7,.v (.one (.ik 143 0 [.loc 16 0,.loc 17 0,.loc 9 0]))),(8,.v (.one (.b))),(14,.v (.one (.full 0))),(15,.v (.one (.i .i64))),(16,.v (.one (.i .i64)))],[.row aQ 0,.cells [.i .i64,.i .i64,.i .i64,.i .i64,.i .i64,.i .i64] 24,.cells [.i .i64] 3,.cells [.full 0] 29,.cells [.b] 4,.gone,.cells [.i .i64,.i .i64,.i .i64,.i .i64,.i .i64,.i .i64] 24,.loop true,.ji 8,.cells [.i .i64] 3,.cells [.i .i64,.i .i64] 23,.cells [.i .i64,.i .i64] 23,.gone,.cells [.i .i64,.i .i64] 23,.cells [.i .i64,.i .i64] 23,.gone,.cells [.i .i64,.i .i64] 23,.cells [.i .i64,.i .i64] 23,.ji 18],19,none,[18,19,33],[1,3,4,5,6,7,8,9,10,11,12,13,14,15,16,17,21,22,23,24,25,26,27,28,29,30,31,32],[20,0,2],[.i,.b,.i],[.i (x.2.2.length:Int),.l aQ x.2.2,.i x.1.1.1,.i x.1.1.2,.i x.1.2.1.1,.i x.1.2.1.2,.i x.1.2.2.1,.i x.1.2.2.2,.i x.2.1,.b false,.i x.1.1.1,.i x.1.1.2,.i x.1.2.1.1,.i x.1.2.1.2,.i x.1.2.2.1,.i x.1.2.2.2,.i x.1.1.1,.i x.1.1.2,.i x.1.2.1.1,.i x.1.2.1.2,.i x.1.2.1.1,.i x.1.2.1.2,.i x.1.2.2.1,.i x.1.2.2.2,.i x.1.2.2.1,.i x.1.2.2.2,.i x.1.1.1,.i x.1.1.2]⟩,[⟨(.exit 2),.normal,⟨bq 30 0 [(6,.v (.one (.ptr 4 0))),(8,.v (.one (.b)))],[.row aQ 0,.cells [.i .i64,.i .i64,.i .i64,.i .i64,.i .i64,.i .i64] 24,.cells [.i .i64] 3,.cells [.full 0] 29,.cells [.b] 4,.gone,.cells [.i .i64,.i .i64,.i .i64,.i .i64,.i .i64,.i .i64] 24,.loop true,.ji 8,.cells [.i .i64] 3,.cells [.i .i64,.i .i64] 23,.cells [.i .i64,.i .i64] 23,.gone,.cells [.i .i64,.i .i64] 23,.cells [.i .i64,.i .i64] 23,.gone,.cells [.i .i64,.i .i64] 23,.cells [.i .i64,.i .i64] 23,.ji 18],19,none,[16,17,31],[1,2,3,4,5,6,7,8,9,10,11,12,13,14,15,19,20,21,22,23,24,25,26,27,28,29,30],[18,0],[.i,.b],[.l aQ x.2.2,.i x.1.1.1,.i x.1.1.2,.i x.1.2.1.1,.i x.1.2.1.2,.i x.1.2.2.1,.i x.1.2.2.2,.i x.2.1,.b false,.i x.1.1.1,.i x.1.1.2,.i x.1.2.1.1,.i x.1.2.1.2,.i x.1.2.2.1,.i x.1.2.2.2,.i x.1.1.1,.i x.1.1.2,.i x.1.2.1.1,.i x.1.2.1.2,.i x.1.2.1.1,.i x.1.2.1.2,.i x.1.2.2.1,.i x.1.2.2.2,.i x.1.2.2.1,.i x.1.2.2.2,.i x.1.1.1,.i x.1.1.2]⟩⟩]⟩
def cJ (x:(I6×Int×List I2)) (s:(Int×Bool×Int)):(Int×Bool×Int)⊕(Int×Bool):=
 (if (s.2.2<(x.2.2.length:Int)) then
 (if (s.2.1=true) then
 (aq (xT ((x.2.2.getD s.2.2.toNat (0,0)),x.1.2.2,x.1.1,s.1)) fun y=>
 (Sum.inl (s.1,(decide (y<x.2.1)),(aj (s.2.2+1))))) else
 (Sum.inl (s.1,false,(aj (s.2.2+1))))) else
 (Sum.inr ((s.1,s.2.1))))
def tW (x:(I6×Int×List I2)) (s:(Int×Bool×Int)):Prop:=
 ((s.2.2<(x.2.2.length:Int))->
 (((0<=s.2.2)/\ (s.2.2<(x.2.2.length:Int)))/\
 ((s.2.2.toNat<x.2.2.length)/\
 ((s.2.2.toNat<x.2.2.length)/\
 ((s.2.1=true)->
 (lA ((x.2.2.getD s.2.2.toNat (0,0)),x.1.2.2,x.1.1,s.1)))))))
def xP (x:(I6×Int×List I2)) (s:(Int×Bool×Int)):Tr ((Int×Bool×Int)⊕(Int×Bool)) true:=
 (.i10 (s.2.2<(nL x.2.2))
 (.gu s.2.2 x.2.2
 (.FB s.2.1
 (.fn pS ((gT x.2.2 s.2.2 jg),x.1.2.2,x.1.1,s.1) fun y=>
 (.ret (.inl (s.1,(decide (y<x.2.1)),(w1 s.2.2)))))
 (.ret (.inl (s.1,false,(w1 s.2.2))))))
 (.ret (.inr ((s.1,s.2.1)))))
def vg (x:(I6×Int×List I2)):Bool:=
 (aq (Bz x.1) fun y=>
 (aq (run (cj x) (y.1,true,0)) fun r_1=>
 (if (r_1.2=true) then
 true else
 (aq (run (ck x) (r_1.1,true,0)) fun r_2=>
 (if (r_2.2=true) then
 true else
 (aq (run (cJ x) (r_2.1,true,0)) fun r_3=>
 (if (r_3.2=true) then
 true else
 false)))))))
def qG (x:(I6×Int×List I2)):Prop:=
 ((uC x.1)/\
 az (Bz x.1) fun y=>
 (Term (cj x) (tU x) (y.1,true,0)/\
 az (run (cj x) (y.1,true,0)) fun r_1=>
 (¬(r_1.2=true)->
 (Term (ck x) (tV x) (r_1.1,true,0)/\
 az (run (ck x) (r_1.1,true,0)) fun r_2=>
 (¬(r_2.2=true)->
 (Term (cJ x) (tW x) (r_2.1,true,0)))))))
def aer (x:(I6×Int×List I2)):Tr Bool true:=
 (.CA
 (.pn 0 5
 (.aiY
 (.CA
 (.fn wk x.1 fun y=>
 (.fx
 (.pn 2 8
 (.fL 1
 (.CA
 (.pn 3 12
 (.fL 1
 (aF.lp (Dm x) (xN x) (y.1,true,z0) fun r_1=>
 (.dy r_1.2
 (.fL 1
 (.pn 3 12
 (.pn 2 8
 (.ret true))))
 (.fL 1
 (.pn 3 12
 (.fx
 (.pn 2 8
 (.fL 1
 (.CA
 (.pn 4 15
 (.fL 1
 (aF.lp (Dn x) (xO x) (r_1.1,true,z0) fun r_2=>
 (.dy r_2.2
 (.fL 1
 (.pn 4 15
 (.pn 2 8
 (.ret true))))
 (.fL 1
 (.pn 4 15
 (.fx
 (.pn 2 8
 (.fL 1
 (.CA
 (.pn 5 18
 (.fL 1
 (aF.lp (Dp x) (xP x) (r_2.1,true,z0) fun r_3=>
 (.cQ r_3.2
 (.fL 1
 (.pn 5 18
 (.pn 2 8
 (.ret true))))
 (.fL 1
 (.pn 5 18
 (.pn 2 8
 (.ret false)))))))))))))))))))))))))))))))))))))
abbrev tT:bB:=⟨(.pair (.agg aZ) (.pair (.one yi) (.one (Ty.sl aQ)))),(.one Ty.bool),qG,vg⟩
theorem aa6:ah Tryz.prog 141 (ak tT):=ah.tr tT aer (fn:=Tryz.f141) ax dm mixed (by kernel_rfl) zL.ok (fun x=>(au.trA 2 au.nil (by kernel_rfl) (wY.cons (n:=13) (wY.tr ax (ae.bD dm zL.ok) mixed (Dm x) (xN x) (by kernel_rfl) fun g s Q=>(by kernel_rfl)) (wY.cons (n:=16) (wY.tr ax (ae.bD dm zL.ok) mixed (Dn x) (xO x) (by kernel_rfl) fun g s Q=>(by kernel_rfl)) (wY.cons (n:=19) (wY.tr ax (ae.bD dm zL.ok) mixed (Dp x) (xP x) (by kernel_rfl) fun g s Q=>(by kernel_rfl)) wY.nil))))) (fun x=>(by kernel_rfl)) fun x Q=>(by kernel_rfl)
def PY:List (Nat×Ev.Spec):=(141,ak tT)::EC
theorem EO:ae Tryz.prog PY:=ae.add (fn:=Tryz.f141) (by kernel_rfl) aa6 dm
def aes (x:(I6×I6×Int)):(Bool×Int):=
 (aq (mright x.1) fun y=>
 (if ((!y)=true) then
 (false,1) else
 (aq (mright x.2.1) fun aB=>
 (if ((!aB)=true) then
 (false,1) else
 (aq (vg (x.1,x.2.2,[x.2.1.1,x.2.1.2.1,x.2.1.2.2])) fun y_2=>
 (if ((!y_2)=true) then
 (aq (vg (x.2.1,x.2.2,[x.1.1,x.1.2.1,x.1.2.2])) fun bh=>
 ((!bh),0)) else
 (false,0)))))))
def OH (x:(I6×I6×Int)):Prop:=
 ((fY x.1)/\
 az (mright x.1) fun y=>
 (¬((!y)=true)->
 ((fY x.2.1)/\
 az (mright x.2.1) fun aB=>
 (¬((!aB)=true)->
 ((qG (x.1,x.2.2,[x.2.1.1,x.2.1.2.1,x.2.1.2.2]))/\
 az (vg (x.1,x.2.2,[x.2.1.1,x.2.1.2.1,x.2.1.2.2])) fun y_2=>
 (((!y_2)=true)->
 (qG (x.2.1,x.2.2,[x.1.1,x.1.2.1,x.1.2.2]))))))))
def aho (x:(I6×I6×Int)):Tr (Bool×Int) true:=
 (.fn l8 x.1 fun y=>
 (.dy (!y)
 (.ret (false,z1))
 (.fn l8 x.2.1 fun aB=>
 (.dy (!aB)
 (.ret (false,z1))
 (.fn tT (x.1,x.2.2,[x.2.1.1,x.2.1.2.1,x.2.1.2.2]) fun y_2=>
 (.FB (!y_2)
 (.fn tT (x.2.1,x.2.2,[x.1.1,x.1.2.1,x.1.2.2]) fun bh=>
 (.ret ((!bh),z0)))
 (.ret (false,z0))))))))
abbrev Jl:bB:=⟨(.pair (.agg aZ) (.pair (.agg aZ) (.one yi))),(.pair (.one Ty.bool) (.one yi)),OH,aes⟩
theorem aeu:ah Tryz.prog 187 (ak Jl):=ah.tr Jl aho (fn:=Tryz.f187) ax EO mixed (by kernel_rfl) (av.nil _ _) (fun x=>au.nil) (fun x=>(by kernel_rfl)) fun x Q=>(by kernel_rfl)
def Vk:List (Nat×Ev.Spec):=(187,ak Jl)::PY
theorem Ia:ae Tryz.prog Vk:=ae.add (fn:=Tryz.f187) (by kernel_rfl) aeu EO
def gQ (x:(I6×I6)):(Bool×Int):=
 (aq (aes (x.1,x.2,1)) fun y=>
 y)
def vk (x:(I6×I6)):Prop:=
 (OH (x.1,x.2,1))
def WW (x:(I6×I6)):Tr (Bool×Int) true:=
 (.fn Jl (x.1,x.2,z1) fun y=>
 (.ret y))
abbrev vj:bB:=⟨(.pair (.agg aZ) (.agg aZ)),(.pair (.one Ty.bool) (.one yi)),vk,gQ⟩
theorem T0:ah Tryz.prog 172 (ak vj):=ah.tr vj WW (fn:=Tryz.f172) ax Ia mixed (by kernel_rfl) (av.nil _ _) (fun x=>au.nil) (fun x=>(by kernel_rfl)) fun x Q=>(by kernel_rfl)
def Ib:List (Nat×Ev.Spec):=(172,ak vj)::Vk
theorem mM:ae Tryz.prog Ib:=ae.add (fn:=Tryz.f172) (by kernel_rfl) T0 Ia
def Og (x:(List I6)):aF:=⟨[],⟨bq 37 0 [(0,.v (.one (.full 0))),(4,.v (.one (.ptr 1 0))),(9,.v (.one (.full 0))),(10,.v (.one (.i .i64))),(11,.v (.one (.i .i64))),(18,.v (.one (.full 2))),(19,.v (.one (.i .i64))),(20,.v (.one (.i .i64)))],[.row aZ 0,.cells [.i .i64,.i .i64,.i .i64,.i .i64,.i .i64,.i .i64] 24,.alias 0 true],0,none,[],[0,4,11],[5,6,7,8,9,10,1,12,2,3],[.i,.i,.i,.i,.i,.i,.i,.n,.i,.i],[.i (x.length:Int),.l aZ x,.n 0]⟩,[⟨.ret,.ret,⟨bq 37 0 [(2,.v (.one (.b)))],[],0,none,[],[0],[],[],[.b false]⟩⟩,⟨(.exit 2),.normal,⟨bq 37 0 [(0,.v (.one (.full 0))),(9,.v (.one (.full 0))),(10,.v (.one (.i .i64))),(11,.v (.one (.i .i64)))],[.row aZ 0],0,none,[],[0,2],[1],[.i],[.i (x.length:Int),.l aZ x]⟩⟩]⟩
def gK (x:(List I6)) (s:Fw):Fw⊕(Unit⊕Int):=
 (if (s.2.2.2.2.2.2.2.2.2<s.2.2.2.2.2.2.2.2.1) then
 (aq (gQ (((s.1,s.2.1),(s.2.2.1,s.2.2.2.1),s.2.2.2.2.1,s.2.2.2.2.2.1),(x.getD (0+s.2.2.2.2.2.2.2.2.2.toNat) ((0,0),(0,0),0,0)))) fun y=>
 (if (y.1=true) then
 (Sum.inr (Sum.inl ())) else
 (if ((y.2 !=0)=true) then
 (Sum.inr (Sum.inl ())) else
 (Sum.inl (s.1,s.2.1,s.2.2.1,s.2.2.2.1,s.2.2.2.2.1,s.2.2.2.2.2.1,s.2.2.2.2.2.2.1,s.2.2.2.2.2.2.2.1,s.2.2.2.2.2.2.2.2.1,(aj (s.2.2.2.2.2.2.2.2.2+1))))))) else
 (Sum.inr (Sum.inr (s.2.2.2.2.2.2.1))))
def nI (x:(List I6)) (s:Fw):Prop:=
 ((s.2.2.2.2.2.2.2.2.2<s.2.2.2.2.2.2.2.2.1)->
 (((0<=s.2.2.2.2.2.2.2.2.2)/\ (s.2.2.2.2.2.2.2.2.2<(((min s.2.2.2.2.2.2.2.1 (x.length- 0)):Nat):Int)))/\
 (((0+s.2.2.2.2.2.2.2.2.2.toNat)<x.length)/\
 (((0+s.2.2.2.2.2.2.2.2.2.toNat)<x.length)/\
 (vk (((s.1,s.2.1),(s.2.2.1,s.2.2.2.1),s.2.2.2.2.1,s.2.2.2.2.2.1),(x.getD (0+s.2.2.2.2.2.2.2.2.2.toNat) ((0,0),(0,0),0,0))))))))
def G1 (x:(List I6)) (s:Fw):Tr (Fw⊕(Unit⊕Int)) true:=
 (.i10 (s.2.2.2.2.2.2.2.2.2<s.2.2.2.2.2.2.2.2.1)
 (.oR s.2.2.2.2.2.2.2.2.2 (((min s.2.2.2.2.2.2.2.1 (x.length- 0)):Nat):Int)
 (.od ((0+(tN s.2.2.2.2.2.2.2.2.2))<x.length)
 (.od ((0+(tN s.2.2.2.2.2.2.2.2.2))<x.length)
 (.fn vj (((s.1,s.2.1),(s.2.2.1,s.2.2.2.1),s.2.2.2.2.1,s.2.2.2.2.2.1),(x.getD (0+(tN s.2.2.2.2.2.2.2.2.2)) aK)) fun y=>
 (.cQ y.1
 (.ret (.inr (Sum.inl ())))
 (.cQ (y.2 !=z0)
 (.ret (.inr (Sum.inl ())))
 (.ret (.inl (s.1,s.2.1,s.2.2.1,s.2.2.2.1,s.2.2.2.2.1,s.2.2.2.2.2.1,s.2.2.2.2.2.2.1,s.2.2.2.2.2.2.2.1,s.2.2.2.2.2.2.2.2.1,(w1 s.2.2.2.2.2.2.2.2.2))))))))))
 (.ret (.inr (Sum.inr (s.2.2.2.2.2.2.1)))))
def Oe (x:(List I6)):aF:=⟨[],⟨bq 37 0 [(0,.v (.one (.full 0))),(9,.v (.one (.full 0))),(10,.v (.one (.i .i64))),(11,.v (.one (.i .i64)))],[.row aZ 0],0,none,[],[0,2],[1],[.i],[.i (x.length:Int),.l aZ x]⟩,[⟨.ret,.ret,⟨bq 37 0 [(2,.v (.one (.b)))],[],0,none,[],[0],[],[],[.b false]⟩⟩,⟨(.exit 0),.normal,⟨bq 37 0 [],[],0,none,[],[],[],[],[]⟩⟩]⟩
def lS (x:(List I6)) (s:Int):Int⊕(Unit⊕Unit):=
 (if (s<(x.length:Int)) then
 (aq (run (gK x) ((x.getD s.toNat ((0,0),(0,0),0,0)).1.1,(x.getD s.toNat ((0,0),(0,0),0,0)).1.2,(x.getD s.toNat ((0,0),(0,0),0,0)).2.1.1,(x.getD s.toNat ((0,0),(0,0),0,0)).2.1.2,(x.getD s.toNat ((0,0),(0,0),0,0)).2.2.1,(x.getD s.toNat ((0,0),(0,0),0,0)).2.2.2,s,s.toNat,(((min s.toNat (x.length- 0)):Nat):Int),0)) fun r=>
 (Sum.elim (fun a=>
 (Sum.inr (Sum.inl ()))) (fun b=>
 (Sum.inl (aj (b+1)))) r)) else
 (Sum.inr (Sum.inr (()))))
def sR (x:(List I6)) (s:Int):Prop:=
 ((s<(x.length:Int))->
 (((0<=s)/\ (s<(x.length:Int)))/\
 ((s.toNat<x.length)/\
 ((s.toNat<x.length)/\
 (((0<=s)/\ (s<=(x.length:Int)))/\
 (Term (gK x) (nI x) ((x.getD s.toNat ((0,0),(0,0),0,0)).1.1,(x.getD s.toNat ((0,0),(0,0),0,0)).1.2,(x.getD s.toNat ((0,0),(0,0),0,0)).2.1.1,(x.getD s.toNat ((0,0),(0,0),0,0)).2.1.2,(x.getD s.toNat ((0,0),(0,0),0,0)).2.2.1,(x.getD s.toNat ((0,0),(0,0),0,0)).2.2.2,s,s.toNat,(((min s.toNat (x.length- 0)):Nat):Int),0)))))))
def G0 (x:(List I6)) (s:Int):Tr (Int⊕(Unit⊕Unit)) true:=
 (.i10 (s<(nL x))
 (.gu s x
 (.og ((decide (z0<=s))&&(decide (s<=(nL x)))) ((z0<=s)/\ (s<=(nL x))) (fun h=>(dK (decide_eq_true h.1) (decide_eq_true h.2)))
 (aF.lp (Og x) (G1 x) ((gT x s aK).1.1,(gT x s aK).1.2,(gT x s aK).2.1.1,(gT x s aK).2.1.2,(gT x s aK).2.2.1,(gT x s aK).2.2.2,s,(tN s),(((min (tN s) (x.length- 0)):Nat):Int),z0) fun r=>
 (.ri r (fun a=>
 (.ret (.inr (Sum.inl ())))) (fun b=>
 (.ret (.inl (w1 b))))))))
 (.ret (.inr (Sum.inr (())))))
def J2 (x:(List I6)):Bool:=
 (aq (run (lS x) 0) fun r=>
 (Sum.elim (fun a=>
 false) (fun b=>
 true) r))
def BT (x:(List I6)):Prop:=
 (Term (lS x) (sR x) 0)
def ado (x:(List I6)):Tr Bool true:=
 (aF.lp (Oe x) (G0 x) z0 fun r=>
 (.ri r (fun a=>
 (.ret false)) (fun b=>
 (.ret true))))
abbrev CR:bB:=⟨(.one (Ty.sl aZ)),(.one Ty.bool),BT,J2⟩
theorem aau:ah Tryz.prog 136 (ak CR):=ah.tr CR ado (fn:=Tryz.f136) ax mM mixed (by kernel_rfl) (av.nil _ _) (fun x=>(au.tr ax (ae.bD mM (av.nil _ _)) mixed 0 (Oe x) (G0 x) (au.tr ax (ae.bD mM (av.nil _ _)) mixed 2 (Og x) (G1 x) au.nil (by kernel_rfl) fun g s Q=>(by kernel_rfl)) (by kernel_rfl) fun g s Q=>(by kernel_rfl))) (fun x=>(by kernel_rfl)) fun x Q=>(by kernel_rfl)
def PE:List (Nat×Ev.Spec):=(136,ak CR)::Ib
theorem EE:ae Tryz.prog PE:=ae.add (fn:=Tryz.f136) (by kernel_rfl) aau mM
def RC (x:(I2×Int×I6)):(Bool×Int):=
 (if (x.2.1<1) then
 (false,5) else
 (if (x.2.1>4096) then
 (false,5) else
 (aq (fA [x.1]) fun y=>
 (if ((!y)=true) then
 (false,5) else
 (aq (fA [((aj (x.1.1+x.2.1)),(aj (x.1.2+x.2.1)))]) fun aB=>
 (if ((!aB)=true) then
 (false,5) else
 (aq (mright x.2.2) fun y_2=>
 (if ((!y_2)=true) then
 (false,1) else
 (if ((aG (aG x.2.2.1.1 x.2.2.2.1.1) x.2.2.2.2.1)<=(aj (x.1.1+x.2.1))) then
 (if ((aI (aI x.2.2.1.1 x.2.2.2.1.1) x.2.2.2.2.1)>=x.1.1) then
 (if ((aG (aG x.2.2.1.2 x.2.2.2.1.2) x.2.2.2.2.2)<=(aj (x.1.2+x.2.1))) then
 (if ((aI (aI x.2.2.1.2 x.2.2.2.1.2) x.2.2.2.2.2)>=x.1.2) then
 (aq (vg (x.2.2,0,[x.1,((aj (x.1.1+x.2.1)),x.1.2),((aj (x.1.1+x.2.1)),(aj (x.1.2+x.2.1))),(x.1.1,(aj (x.1.2+x.2.1)))])) fun bh=>
 ((!bh),0)) else
 (false,0)) else
 (false,0)) else
 (if ((aG (aG x.2.2.1.2 x.2.2.2.1.2) x.2.2.2.2.2)<=(aj (x.1.2+x.2.1))) then
 (false,0) else
 (false,0))) else
 (if ((aI (aI x.2.2.1.1 x.2.2.2.1.1) x.2.2.2.2.1)>=x.1.1) then
 (false,0) else
 (false,0)))))))))))
def xU (x:(I2×Int×I6)):Prop:=
 (¬(x.2.1<1)->
 (¬(x.2.1>4096)->
 ((dD [x.1])/\
 az (fA [x.1]) fun y=>
 (¬((!y)=true)->
 ((dD [((aj (x.1.1+x.2.1)),(aj (x.1.2+x.2.1)))])/\
 az (fA [((aj (x.1.1+x.2.1)),(aj (x.1.2+x.2.1)))]) fun aB=>
 (¬((!aB)=true)->
 ((fY x.2.2)/\
 az (mright x.2.2) fun y_2=>
 (¬((!y_2)=true)->
 (((aG (aG x.2.2.1.1 x.2.2.2.1.1) x.2.2.2.2.1)<=(aj (x.1.1+x.2.1)))->
 (((aI (aI x.2.2.1.1 x.2.2.2.1.1) x.2.2.2.2.1)>=x.1.1)->
 (((aG (aG x.2.2.1.2 x.2.2.2.1.2) x.2.2.2.2.2)<=(aj (x.1.2+x.2.1)))->
 (((aI (aI x.2.2.1.2 x.2.2.2.1.2) x.2.2.2.2.2)>=x.1.2)->
 (qG (x.2.2,0,[x.1,((aj (x.1.1+x.2.1)),x.1.2),((aj (x.1.1+x.2.1)),(aj (x.1.2+x.2.1))),(x.1.1,(aj (x.1.2+x.2.1)))]))))))))))))))
def abb (x:(I2×Int×I6)):Tr (Bool×Int) true:=
 (.nK (x.2.1<z1)
 (.ret (false,5))
 (.nK (x.2.1>4096)
 (.ret (false,5))
 (.fn oZ [x.1] fun y=>
 (.dy (!y)
 (.ret (false,5))
 (.fn oZ [((aj (x.1.1+x.2.1)),(aj (x.1.2+x.2.1)))] fun aB=>
 (.dy (!aB)
 (.ret (false,5))
 (.fn l8 x.2.2 fun y_2=>
 (.dy (!y_2)
 (.ret (false,z1))
 (.i10 ((aG (aG x.2.2.1.1 x.2.2.2.1.1) x.2.2.2.2.1)<=(aj (x.1.1+x.2.1)))
 (.i10 ((aI (aI x.2.2.1.1 x.2.2.2.1.1) x.2.2.2.2.1)>=x.1.1)
 (.i10 ((aG (aG x.2.2.1.2 x.2.2.2.1.2) x.2.2.2.2.2)<=(aj (x.1.2+x.2.1)))
 (.i10 ((aI (aI x.2.2.1.2 x.2.2.2.1.2) x.2.2.2.2.2)>=x.1.2)
 (.fn tT (x.2.2,z0,[x.1,((aj (x.1.1+x.2.1)),x.1.2),((aj (x.1.1+x.2.1)),(aj (x.1.2+x.2.1))),(x.1.1,(aj (x.1.2+x.2.1)))]) fun bh=>
 (.ret ((!bh),z0)))
 (.ret (false,z0)))
 (.ret (false,z0)))
 (.fm ((aG (aG x.2.2.1.2 x.2.2.2.1.2) x.2.2.2.2.2)<=(aj (x.1.2+x.2.1)))
 (.ret (false,z0))
 (.ret (false,z0))))
 (.fm ((aI (aI x.2.2.1.1 x.2.2.2.1.1) x.2.2.2.2.1)>=x.1.1)
 (.ret (false,z0))
 (.ret (false,z0))))))))))))
abbrev zU:bB:=⟨(.pair (.agg aQ) (.pair (.one yi) (.agg aZ))),(.pair (.one Ty.bool) (.one yi)),xU,RC⟩
theorem WX:ah Tryz.prog 97 (ak zU):=ah.tr zU abb (fn:=Tryz.f97) ax EE mixed (by kernel_rfl) (av.nil _ _) (fun x=>au.nil) (fun x=>(by kernel_rfl)) fun x Q=>(by kernel_rfl)
def bu:List (Nat×Ev.Spec):=(97,ak zU)::PE
theorem dI:ae Tryz.prog bu:=ae.add (fn:=Tryz.f97) (by kernel_rfl) WX EE
end Go.Proofs.YtfgdjlhilladhaaGreat
