/- Models of functions of layers 10, 15, 16. -/
import Derived.Test.YtojielnkfeoccaaGreatDa
noncomputable section
set_option linter.unusedSectionVars false
set_option linter.unusedVariables false
set_option linter.unusedSimpArgs false
namespace Go.Proofs.YtojielnkfeoccaaGreat
open Go Go.Ev Go.Proofs
def C5 (x:(List I3×Bool)):aW:=⟨[],⟨dy 19 0 [(0,.v (.one (.full 0))),(1,.v (.one (.eN 68 0 []))),(7,.v (.one (.i .i64))),(8,.v (.one (.i .i64)))],[.row cj 0],0,none,[],[0,2],[1],[.i],[.i (x.1.length:Int),.l cj x.1]⟩,[⟨.ret,.ret,⟨dy 19 0 [(4,.v (.one (.i .i64)))],[],0,none,[],[],[0],[.i],[]⟩⟩,⟨(.exit 0),.normal,⟨dy 19 0 [],[],0,none,[],[],[],[],[]⟩⟩]⟩
def gF (x:(List I3×Bool)) (s:Int):Int⊕(Int⊕Unit):=
 (if (s<(x.1.length:Int)) then
 (au (Z9 (x.1.getD s.toNat (0,0,0))) fun y=>
 (if (y=true) then
 (Sum.inr (Sum.inl s)) else
 (Sum.inl (aj (s+1))))) else
 (Sum.inr (Sum.inr (()))))
def nx (x:(List I3×Bool)) (s:Int):Prop:=
 ((s<(x.1.length:Int))->
 (((0<=s)/\ (s<(x.1.length:Int)))/\
 ((s.toNat<x.1.length)/\
 (s.toNat<x.1.length))))
def w9 (x:(List I3×Bool)) (s:Int):Tr (Int⊕(Int⊕Unit)) true:=
 (.i10 (s<(nL x.1))
 (.lA s x.1
 (.fn0 NV (gT x.1 s EY) trivial fun y=>
 (.jM y
 (.ret (.inr (Sum.inl s)))
 (.ret (.inl (w1 s))))))
 (.ret (.inr (Sum.inr (())))))
def HK (x:(List I3×Bool)):Int:=
 (au (run (gF x) 0) fun r=>
 (Sum.elim (fun a=>
 a) (fun b=>
 (-1)) r))
def AA (x:(List I3×Bool)):Prop:=
 (Term (gF x) (nx x) 0)
def Qw (x:(List I3×Bool)):Tr Int true:=
 (aW.lp (C5 x) (w9 x) z0 fun r=>
 (.Bq r (fun a=>
 (.ret a)) (fun b=>
 (.ret (-1)))))
abbrev tG:fg:=⟨(.pair (.one (Ty.sl cj)) (.eN 68 .none)),(.one yi),AA,HK⟩
theorem Mv:ak Tryz.prog 91 (aq tG):=ak.tr tG Qw (fn:=Tryz.f91) aD sX mixed (by kernel_rfl) (aA.nil _ _) (fun x=>(ay.tr aD (af.eO sX (aA.nil _ _)) mixed 0 (C5 x) (w9 x) ay.nil (by kernel_rfl) fun g s Q=>(by kernel_rfl))) (fun x=>(by kernel_rfl)) fun x Q=>(by kernel_rfl)
def D0:List (Nat×Ev.Spec):=(91,aq tG)::KW
theorem uG:af Tryz.prog D0:=af.add (fn:=Tryz.f91) (by kernel_rfl) Mv sX
def qg (x:(List I3×Bool)):Bool:=
 (au (HK (x.1,false)) fun y=>
 (decide (y>=0)))
def mX (x:(List I3×Bool)):Prop:=
 (AA (x.1,false))
def Hq (x:(List I3×Bool)):Tr Bool true:=
 (.fn tG (x.1,false) fun y=>
 (.ret (decide (y>=z0))))
abbrev mo:fg:=⟨(.pair (.one (Ty.sl cj)) (.eN 68 .none)),(.one Ty.bool),mX,qg⟩
theorem Ey:ak Tryz.prog 67 (aq mo):=ak.tr mo Hq (fn:=Tryz.f67) aD uG mixed (by kernel_rfl) (aA.nil _ _) (fun x=>ay.nil) (fun x=>(by kernel_rfl)) fun x Q=>(by kernel_rfl)
def uE:List (Nat×Ev.Spec):=(67,aq mo)::D0
theorem pY:af Tryz.prog uE:=af.add (fn:=Tryz.f67) (by kernel_rfl) Ey uG
def K6 (x:(List I3×List I2×List I3×List I9)):Bool:=
 (au (pe x) fun y=>
 (if (y=true) then
 (au (qg (x.1,false)) fun bq=>
 (!bq)) else
 false))
def sZ (x:(List I3×List I2×List I3×List I9)):Prop:=
 ((kL x)/\
 aM (pe x) fun y=>
 ((y=true)->
 (mX (x.1,false))))
def Zq (x:(List I3×List I2×List I3×List I9)):Tr Bool true:=
 (.fn xy x fun y=>
 (.Es y
 (.fn mo (x.1,false) fun bq=>
 (.ret (!bq)))
 (.ret false)))
abbrev Ed:fg:=⟨(.agg (Ty.prod (Ty.sl cj) (Ty.prod (Ty.sl aH) (Ty.prod (Ty.sl cj) (Ty.sl kB))))),(.one Ty.bool),sZ,K6⟩
theorem W0:ak Tryz.prog 39 (aq Ed):=ak.tr Ed Zq (fn:=Tryz.f39) aD pY mixed (by kernel_rfl) (aA.nil _ _) (fun x=>ay.nil) (fun x=>(by kernel_rfl)) fun x Q=>(by kernel_rfl)
def O7:List (Nat×Ev.Spec):=(39,aq Ed)::uE
theorem D7:af Tryz.prog O7:=af.add (fn:=Tryz.f39) (by kernel_rfl) W0 pY
def odd (x:I6):Bool:=
 (au (mright x) fun y=>
 (!y))
def Ox (x:I6):Prop:=
 (gy x)
def aby (x:I6):Tr Bool true:=
 (.fn lU x fun y=>
 (.ret (!y)))
abbrev Ow:fg:=⟨(.agg bZ),(.one Ty.bool),Ox,odd⟩
theorem Y9:ak Tryz.prog 81 (aq Ow):=ak.tr Ow aby (fn:=Tryz.f81) aD D7 mixed (by kernel_rfl) (aA.nil _ _) (fun x=>ay.nil) (fun x=>(by kernel_rfl)) fun x Q=>(by kernel_rfl)
def UJ:List (Nat×Ev.Spec):=(81,aq Ow)::O7
theorem zV:af Tryz.prog UJ:=af.add (fn:=Tryz.f81) (by kernel_rfl) Y9 D7
def Fx (x:(List I6×Bool)):aW:=⟨[],⟨dy 19 0 [(0,.v (.one (.full 0))),(1,.v (.one (.eN 81 0 []))),(7,.v (.one (.i .i64))),(8,.v (.one (.i .i64)))],[.row bZ 0],0,none,[],[0,2],[1],[.i],[.i (x.1.length:Int),.l bZ x.1]⟩,[⟨.ret,.ret,⟨dy 19 0 [(4,.v (.one (.i .i64)))],[],0,none,[],[],[0],[.i],[]⟩⟩,⟨(.exit 0),.normal,⟨dy 19 0 [],[],0,none,[],[],[],[],[]⟩⟩]⟩
def iH (x:(List I6×Bool)) (s:Int):Int⊕(Int⊕Unit):=
 (if (s<(x.1.length:Int)) then
 (au (odd (x.1.getD s.toNat ((0,0),(0,0),0,0))) fun y=>
 (if (y=true) then
 (Sum.inr (Sum.inl s)) else
 (Sum.inl (aj (s+1))))) else
 (Sum.inr (Sum.inr (()))))
def pc (x:(List I6×Bool)) (s:Int):Prop:=
 ((s<(x.1.length:Int))->
 (((0<=s)/\ (s<(x.1.length:Int)))/\
 ((s.toNat<x.1.length)/\
 ((s.toNat<x.1.length)/\
 (Ox (x.1.getD s.toNat ((0,0),(0,0),0,0)))))))
def Ay (x:(List I6×Bool)) (s:Int):Tr (Int⊕(Int⊕Unit)) true:=
 (.i10 (s<(nL x.1))
 (.lA s x.1
 (.fn Ow (gT x.1 s aV) fun y=>
 (.jM y
 (.ret (.inr (Sum.inl s)))
 (.ret (.inl (w1 s))))))
 (.ret (.inr (Sum.inr (())))))
def Mt (x:(List I6×Bool)):Int:=
 (au (run (iH x) 0) fun r=>
 (Sum.elim (fun a=>
 a) (fun b=>
 (-1)) r))
def C3 (x:(List I6×Bool)):Prop:=
 (Term (iH x) (pc x) 0)
def S7 (x:(List I6×Bool)):Tr Int true:=
 (aW.lp (Fx x) (Ay x) z0 fun r=>
 (.Bq r (fun a=>
 (.ret a)) (fun b=>
 (.ret (-1)))))
abbrev w7:fg:=⟨(.pair (.one (Ty.sl bZ)) (.eN 81 .none)),(.one yi),C3,Mt⟩
theorem Qu:ak Tryz.prog 106 (aq w7):=ak.tr w7 S7 (fn:=Tryz.f106) aD zV mixed (by kernel_rfl) (aA.nil _ _) (fun x=>(ay.tr aD (af.eO zV (aA.nil _ _)) mixed 0 (Fx x) (Ay x) ay.nil (by kernel_rfl) fun g s Q=>(by kernel_rfl))) (fun x=>(by kernel_rfl)) fun x Q=>(by kernel_rfl)
def Gy:List (Nat×Ev.Spec):=(106,aq w7)::UJ
theorem ym:af Tryz.prog Gy:=af.add (fn:=Tryz.f106) (by kernel_rfl) Qu zV
def pH (x:(List I6×Bool)):Bool:=
 (au (Mt (x.1,false)) fun y=>
 (decide (y>=0)))
def oU (x:(List I6×Bool)):Prop:=
 (C3 (x.1,false))
def Jl (x:(List I6×Bool)):Tr Bool true:=
 (.fn w7 (x.1,false) fun y=>
 (.ret (decide (y>=z0))))
abbrev ot:fg:=⟨(.pair (.one (Ty.sl bZ)) (.eN 81 .none)),(.one Ty.bool),oU,pH⟩
theorem Ho:ak Tryz.prog 82 (aq ot):=ak.tr ot Jl (fn:=Tryz.f82) aD ym mixed (by kernel_rfl) (aA.nil _ _) (fun x=>ay.nil) (fun x=>(by kernel_rfl)) fun x Q=>(by kernel_rfl)
def ye:List (Nat×Ev.Spec):=(82,aq ot)::Gy
theorem dA:af Tryz.prog ye:=af.add (fn:=Tryz.f82) (by kernel_rfl) Ho ym
def FK:Lq Tryz.prog:=⟨_,(aA.walk aD dA mixed 112 (fn:=Tryz.f112) (by kernel_rfl) (aA.nil _ _) fun ys hy=>ay.nil)⟩
def tK:Lq Tryz.prog:=⟨_,(aA.walk aD dA mixed 120 (fn:=Tryz.f120) (by kernel_rfl) FK.ok fun ys hy=>(ay.yM aD ⟨dA,hy,FK.ok⟩ mixed 0 4 ay.nil (by kernel_rfl)))⟩
def xp (x:(I6×Int×List I2)):aW:=⟨[.lo,.env,.env],⟨dy 30 0 [(4,.v (.one (.ptr 2 0))),(6,.v (.one (.ptr 4 0))),(7,.v (.one (.eN 122 0 [.loc 10 0,.loc 11 0,.loc 9 0]))),(8,.v (.one (.b))),(14,.v (.one (.full 0))),(15,.v (.one (.i .i64))),(16,.v (.one (.i .i64)))],[.row aH 0,.cells [.i .i64,.i .i64,.i .i64,.i .i64,.i .i64,.i .i64] 91,.cells [.i .i64] 3,.cells [.full 0] 38,.cells [.b] 4,.gone,.cells [.i .i64,.i .i64,.i .i64,.i .i64,.i .i64,.i .i64] 91,.loop true,.eJ 8,.cells [.i .i64] 3,.cells [.i .i64,.i .i64] 31,.cells [.i .i64,.i .i64] 31,.eJ 12],13,none,[18,19,25],[1,3,4,5,6,7,8,9,10,11,12,13,14,15,16,17,21,22,23,24],[20,0,2],[.i,.b,.i],[.i (x.2.2.length:Int),.l aH x.2.2,.i x.1.1.1,.i x.1.1.2,.i x.1.2.1.1,.i x.1.2.1.2,.i x.1.2.2.1,.i x.1.2.2.2,.i x.2.1,.b false,.i x.1.1.1,.i x.1.1.2,.i x.1.2.1.1,.i x.1.2.1.2,.i x.1.2.2.1,.i x.1.2.2.2,.i x.1.1.1,.i x.1.1.2,.i x.1.2.1.1,.i x.1.2.1.2]⟩,[⟨(.exit 2),.normal,⟨dy 30 0 [(6,.v (.one (.ptr 4 0))),(8,.v (.one (.b)))],[.row aH 0,.cells [.i .i64,.i .i64,.i .i64,.i .i64,.i .i64,.i .i64] 91,.cells [.i .i64] 3,.cells [.full 0] 38,.cells [.b] 4,.gone,.cells [.i .i64,.i .i64,.i .i64,.i .i64,.i .i64,.i .i64] 91,.loop true,.eJ 8,.cells [.i .i64] 3,.cells [.i .i64,.i .i64] 31,.cells [.i .i64,.i .i64] 31,.eJ 12],13,none,[16,17,23],[1,2,3,4,5,6,7,8,9,10,11,12,13,14,15,19,20,21,22],[18,0],[.i,.b],[.l aH x.2.2,.i x.1.1.1,.i x.1.1.2,.i x.1.2.1.1,.i x.1.2.1.2,.i x.1.2.2.1,.i x.1.2.2.2,.i x.2.1,.b false,.i x.1.1.1,.i x.1.1.2,.i x.1.2.1.1,.i x.1.2.1.2,.i x.1.2.2.1,.i x.1.2.2.2,.i x.1.1.1,.i x.1.1.2,.i x.1.2.1.1,.i x.1.2.1.2]⟩⟩]⟩
def cu (x:(I6×Int×List I2)) (s:(Int×Bool×Int)):(Int×Bool×Int)⊕(Int×Bool):=
 (if (s.2.2<(x.2.2.length:Int)) then
 (if (s.2.1=true) then
 (au (FP ((x.2.2.getD s.2.2.toNat (0,0)),x.1.1,x.1.2.1,s.1)) fun y=>
 (Sum.inl (s.1,(decide (y<x.2.1)),(aj (s.2.2+1))))) else
 (Sum.inl (s.1,false,(aj (s.2.2+1))))) else
 (Sum.inr ((s.1,s.2.1))))
def pQ (x:(I6×Int×List I2)) (s:(Int×Bool×Int)):Prop:=
 ((s.2.2<(x.2.2.length:Int))->
 (((0<=s.2.2)/\ (s.2.2<(x.2.2.length:Int)))/\
 ((s.2.2.toNat<x.2.2.length)/\
 ((s.2.2.toNat<x.2.2.length)/\
 ((s.2.1=true)->
 (pU ((x.2.2.getD s.2.2.toNat (0,0)),x.1.1,x.1.2.1,s.1)))))))
def sC (x:(I6×Int×List I2)) (s:(Int×Bool×Int)):Tr ((Int×Bool×Int)⊕(Int×Bool)) true:=
 (.i10 (s.2.2<(nL x.2.2))
 (.lA s.2.2 x.2.2
 (.Es s.2.1
 (.fn tM ((gT x.2.2 s.2.2 aY),x.1.1,x.1.2.1,s.1) fun y=>
 (.ret (.inl (s.1,(decide (y<x.2.1)),(w1 s.2.2)))))
 (.ret (.inl (s.1,false,(w1 s.2.2))))))
 (.ret (.inr ((s.1,s.2.1)))))
def xq (x:(I6×Int×List I2)):aW:=⟨[.lo,.env,.env],⟨dy 30 0 [(4,.v (.one (.ptr 2 0))),(6,.v (.one (.ptr 4 0))),(7,.v (.one (.eN 122 0 [.loc 13 0,.loc 14 0,.loc 9 0]))),(8,.v (.one (.b))),(14,.v (.one (.full 0))),(15,.v (.one (.i .i64))),(16,.v (.one (.i .i64)))],[.row aH 0,.cells [.i .i64,.i .i64,.i .i64,.i .i64,.i .i64,.i .i64] 91,.cells [.i .i64] 3,.cells [.full 0] 38,.cells [.b] 4,.gone,.cells [.i .i64,.i .i64,.i .i64,.i .i64,.i .i64,.i .i64] 91,.loop true,.eJ 8,.cells [.i .i64] 3,.cells [.i .i64,.i .i64] 31,.cells [.i .i64,.i .i64] 31,.gone,.cells [.i .i64,.i .i64] 31,.cells [.i .i64,.i .i64] 31,.eJ 15],16,none,[18,19,29],[1,3,4,5,6,7,8,9,10,11,12,13,14,15,16,17,21,22,23,24,25,26,27,28],[20,0,2],[.i,.b,.i],[.i (x.2.2.length:Int),.l aH x.2.2,.i x.1.1.1,.i x.1.1.2,.i x.1.2.1.1,.i x.1.2.1.2,.i x.1.2.2.1,.i x.1.2.2.2,.i x.2.1,.b false,.i x.1.1.1,.i x.1.1.2,.i x.1.2.1.1,.i x.1.2.1.2,.i x.1.2.2.1,.i x.1.2.2.2,.i x.1.1.1,.i x.1.1.2,.i x.1.2.1.1,.i x.1.2.1.2,.i x.1.2.1.1,.i x.1.2.1.2,.i x.1.2.2.1,.i x.1.2.2.2]⟩,[⟨(.exit 2),.normal,⟨dy 30 0 [(6,.v (.one (.ptr 4 0))),(8,.v (.one (.b)))],[.row aH 0,.cells [.i .i64,.i .i64,.i .i64,.i .i64,.i .i64,.i .i64] 91,.cells [.i .i64] 3,.cells [.full 0] 38,.cells [.b] 4,.gone,.cells [.i .i64,.i .i64,.i .i64,.i .i64,.i .i64,.i .i64] 91,.loop true,.eJ 8,.cells [.i .i64] 3,.cells [.i .i64,.i .i64] 31,.cells [.i .i64,.i .i64] 31,.gone,.cells [.i .i64,.i .i64] 31,.cells [.i .i64,.i .i64] 31,.eJ 15],16,none,[16,17,27],[1,2,3,4,5,6,7,8,9,10,11,12,13,14,15,19,20,21,22,23,24,25,26],[18,0],[.i,.b],[.l aH x.2.2,.i x.1.1.1,.i x.1.1.2,.i x.1.2.1.1,.i x.1.2.1.2,.i x.1.2.2.1,.i x.1.2.2.2,.i x.2.1,.b false,.i x.1.1.1,.i x.1.1.2,.i x.1.2.1.1,.i x.1.2.1.2,.i x.1.2.2.1,.i x.1.2.2.2,.i x.1.1.1,.i x.1.1.2,.i x.1.2.1.1,.i x.1.2.1.2,.i x.1.2.1.1,.i x.1.2.1.2,.i x.1.2.2.1,.i x.1.2.2.2]⟩⟩]⟩
def cw (x:(I6×Int×List I2)) (s:(Int×Bool×Int)):(Int×Bool×Int)⊕(Int×Bool):=
 (if (s.2.2<(x.2.2.length:Int)) then
 (if (s.2.1=true) then
 (au (FP ((x.2.2.getD s.2.2.toNat (0,0)),x.1.2.1,x.1.2.2,s.1)) fun y=>
 (Sum.inl (s.1,(decide (y<x.2.1)),(aj (s.2.2+1))))) else
 (Sum.inl (s.1,false,(aj (s.2.2+1))))) else
 (Sum.inr ((s.1,s.2.1))))
def pR (x:(I6×Int×List I2)) (s:(Int×Bool×Int)):Prop:=
 ((s.2.2<(x.2.2.length:Int))->
 (((0<=s.2.2)/\ (s.2.2<(x.2.2.length:Int)))/\
 ((s.2.2.toNat<x.2.2.length)/\
 ((s.2.2.toNat<x.2.2.length)/\
 ((s.2.1=true)->
 (pU ((x.2.2.getD s.2.2.toNat (0,0)),x.1.2.1,x.1.2.2,s.1)))))))
def sD (x:(I6×Int×List I2)) (s:(Int×Bool×Int)):Tr ((Int×Bool×Int)⊕(Int×Bool)) true:=
 (.i10 (s.2.2<(nL x.2.2))
 (.lA s.2.2 x.2.2
 (.Es s.2.1
 (.fn tM ((gT x.2.2 s.2.2 aY),x.1.2.1,x.1.2.2,s.1) fun y=>
 (.ret (.inl (s.1,(decide (y<x.2.1)),(w1 s.2.2)))))
 (.ret (.inl (s.1,false,(w1 s.2.2))))))
 (.ret (.inr ((s.1,s.2.1)))))
def xu (x:(I6×Int×List I2)):aW:=⟨[.lo,.env,.env],⟨dy 30 0 [(4,.v (.one (.ptr 2 0))),(6,.v (.one (.ptr 4 0))),(7,.v (.one (.eN 122 0 [.loc 16 0,.loc 17 0,.loc 9 0]))),(8,.v (.one (.b))),(14,.v (.one (.full 0))),(15,.v (.one (.i .i64))),(16,.v (.one (.i .i64)))],[.row aH 0,.cells [.i .i64,.i .i64,.i .i64,.i .i64,.i .i64,.i .i64] 91,.cells [.i .i64] 3,.cells [.full 0] 38,.cells [.b] 4,.gone,.cells [.i .i64,.i .i64,.i .i64,.i .i64,.i .i64,.i .i64] 91,.loop true,.eJ 8,.cells [.i .i64] 3,.cells [.i .i64,.i .i64] 31,.cells [.i .i64,.i .i64] 31,.gone,.cells [.i .i64,.i .i64] 31,.cells [.i .i64,.i .i64] 31,.gone,.cells [.i .i64,.i .i64] 31,.cells [.i .i64,.i .i64] 31,.eJ 18],19,none,[18,19,33],[1,3,4,5,6,7,8,9,10,11,12,13,14,15,16,17,21,22,23,24,25,26,27,28,29,30,31,32],[20,0,2],[.i,.b,.i],[.i (x.2.2.length:Int),.l aH x.2.2,.i x.1.1.1,.i x.1.1.2,.i x.1.2.1.1,.i x.1.2.1.2,.i x.1.2.2.1,.i x.1.2.2.2,.i x.2.1,.b false,.i x.1.1.1,.i x.1.1.2,.i x.1.2.1.1,.i x.1.2.1.2,.i x.1.2.2.1,.i x.1.2.2.2,.i x.1.1.1,.i x.1.1.2,.i x.1.2.1.1,.i x.1.2.1.2,.i x.1.2.1.1,.i x.1.2.1.2,.i x.1.2.2.1,.i x.1.2.2.2,.i x.1.2.2.1,.i x.1.2.2.2,.i x.1.1.1,.i x.1.1.2]⟩,[⟨(.exit 2),.normal,⟨dy 30 0 [(6,.v (.one (.ptr 4 0))),(8,.v (.one (.b)))],[.row aH 0,.cells [.i .i64,.i .i64,.i .i64,.i .i64,.i .i64,.i .i64] 91,.cells [.i .i64] 3,.cells [.full 0] 38,.cells [.b] 4,.gone,.cells [.i .i64,.i .i64,.i .i64,.i .i64,.i .i64,.i .i64] 91,.loop true,.eJ 8,.cells [.i .i64] 3,.cells [.i .i64,.i .i64] 31,.cells [.i .i64,.i .i64] 31,.gone,.cells [.i .i64,.i .i64] 31,.cells [.i .i64,.i .i64] 31,.gone,.cells [.i .i64,.i .i64] 31,.cells [.i .i64,.i .i64] 31,.eJ 18],19,none,[16,17,31],[1,2,3,4,5,6,7,8,9,10,11,12,13,14,15,19,20,21,22,23,24,25,26,27,28,29,30],[18,0],[.i,.b],[.l aH x.2.2,.i x.1.1.1,.i x.1.1.2,.i x.1.2.1.1,.i x.1.2.1.2,.i x.1.2.2.1,.i x.1.2.2.2,.i x.2.1,.b false,.i x.1.1.1,.i x.1.1.2,.i x.1.2.1.1,.i x.1.2.1.2,.i x.1.2.2.1,.i x.1.2.2.2,.i x.1.1.1,.i x.1.1.2,.i x.1.2.1.1,.i x.1.2.1.2,.i x.1.2.1.1,.i x.1.2.1.2,.i x.1.2.2.1,.i x.1.2.2.2,.i x.1.2.2.1,.i x.1.2.2.2,.i x.1.1.1,.i x.1.1.2]⟩⟩]⟩
def cP (x:(I6×Int×List I2)) (s:(Int×Bool×Int)):(Int×Bool×Int)⊕(Int×Bool):=
 (if (s.2.2<(x.2.2.length:Int)) then
 (if (s.2.1=true) then
 (au (FP ((x.2.2.getD s.2.2.toNat (0,0)),x.1.2.2,x.1.1,s.1)) fun y=>
 (Sum.inl (s.1,(decide (y<x.2.1)),(aj (s.2.2+1))))) else
 (Sum.inl (s.1,false,(aj (s.2.2+1))))) else
 (Sum.inr ((s.1,s.2.1))))
def pS (x:(I6×Int×List I2)) (s:(Int×Bool×Int)):Prop:=
 ((s.2.2<(x.2.2.length:Int))->
 (((0<=s.2.2)/\ (s.2.2<(x.2.2.length:Int)))/\
 ((s.2.2.toNat<x.2.2.length)/\
 ((s.2.2.toNat<x.2.2.length)/\
 ((s.2.1=true)->
 (pU ((x.2.2.getD s.2.2.toNat (0,0)),x.1.2.2,x.1.1,s.1)))))))
def sE (x:(I6×Int×List I2)) (s:(Int×Bool×Int)):Tr ((Int×Bool×Int)⊕(Int×Bool)) true:=
 (.i10 (s.2.2<(nL x.2.2))
 (.lA s.2.2 x.2.2
 (.Es s.2.1
 (.fn tM ((gT x.2.2 s.2.2 aY),x.1.2.2,x.1.1,s.1) fun y=>
 (.ret (.inl (s.1,(decide (y<x.2.1)),(w1 s.2.2)))))
 (.ret (.inl (s.1,false,(w1 s.2.2))))))
 (.ret (.inr ((s.1,s.2.1)))))
def sy (x:(I6×Int×List I2)):Bool:=
 (au (GO x.1) fun y=>
 (au (run (cu x) (y.1,true,0)) fun r_1=>
 (if (r_1.2=true) then
 true else
 (au (run (cw x) (r_1.1,true,0)) fun r_2=>
 (if (r_2.2=true) then
 true else
 (au (run (cP x) (r_2.1,true,0)) fun r_3=>
 (if (r_3.2=true) then
 true else
 false)))))))
def nD (x:(I6×Int×List I2)):Prop:=
 ((zW x.1)/\
 aM (GO x.1) fun y=>
 (Term (cu x) (pQ x) (y.1,true,0)/\
 aM (run (cu x) (y.1,true,0)) fun r_1=>
 (¬(r_1.2=true)->
 (Term (cw x) (pR x) (r_1.1,true,0)/\
 aM (run (cw x) (r_1.1,true,0)) fun r_2=>
 (¬(r_2.2=true)->
 (Term (cP x) (pS x) (r_2.1,true,0)))))))
def TC (x:(I6×Int×List I2)):Tr Bool true:=
 (.we
 (.pn 0 5
 (.ZR
 (.we
 (.fn yD x.1 fun y=>
 (.fx
 (.pn 2 8
 (.fL 1
 (.we
 (.pn 3 12
 (.fL 1
 (aW.lp (xp x) (sC x) (y.1,true,z0) fun r_1=>
 (.n9 r_1.2
 (.fL 1
 (.pn 3 12
 (.pn 2 8
 (.ret true))))
 (.fL 1
 (.pn 3 12
 (.fx
 (.pn 2 8
 (.fL 1
 (.we
 (.pn 4 15
 (.fL 1
 (aW.lp (xq x) (sD x) (r_1.1,true,z0) fun r_2=>
 (.n9 r_2.2
 (.fL 1
 (.pn 4 15
 (.pn 2 8
 (.ret true))))
 (.fL 1
 (.pn 4 15
 (.fx
 (.pn 2 8
 (.fL 1
 (.we
 (.pn 5 18
 (.fL 1
 (aW.lp (xu x) (sE x) (r_2.1,true,z0) fun r_3=>
 (.jM r_3.2
 (.fL 1
 (.pn 5 18
 (.pn 2 8
 (.ret true))))
 (.fL 1
 (.pn 5 18
 (.pn 2 8
 (.ret false)))))))))))))))))))))))))))))))))))))
abbrev pP:fg:=⟨(.pair (.agg bZ) (.pair (.one yi) (.one (Ty.sl aH)))),(.one Ty.bool),nD,sy⟩
theorem QD:ak Tryz.prog 90 (aq pP):=ak.tr pP TC (fn:=Tryz.f90) aD dA mixed (by kernel_rfl) tK.ok (fun x=>(ay.trA 2 ay.nil (by kernel_rfl) (rf.cons (n:=13) (rf.tr aD (af.eO dA tK.ok) mixed (xp x) (sC x) (by kernel_rfl) fun g s Q=>(by kernel_rfl)) (rf.cons (n:=16) (rf.tr aD (af.eO dA tK.ok) mixed (xq x) (sD x) (by kernel_rfl) fun g s Q=>(by kernel_rfl)) (rf.cons (n:=19) (rf.tr aD (af.eO dA tK.ok) mixed (xu x) (sE x) (by kernel_rfl) fun g s Q=>(by kernel_rfl)) rf.nil))))) (fun x=>(by kernel_rfl)) fun x Q=>(by kernel_rfl)
def Gz:List (Nat×Ev.Spec):=(90,aq pP)::ye
theorem yn:af Tryz.prog Gz:=af.add (fn:=Tryz.f90) (by kernel_rfl) QD dA
def XE (x:(I6×I6×Int)):(Bool×Int):=
 (au (mright x.1) fun y=>
 (if ((!y)=true) then
 (false,1) else
 (au (mright x.2.1) fun bq=>
 (if ((!bq)=true) then
 (false,1) else
 (au (sy (x.1,x.2.2,[x.2.1.1,x.2.1.2.1,x.2.1.2.2])) fun y_2=>
 (if ((!y_2)=true) then
 (au (sy (x.2.1,x.2.2,[x.1.1,x.1.2.1,x.1.2.2])) fun bJ=>
 ((!bJ),0)) else
 (false,0)))))))
def FN (x:(I6×I6×Int)):Prop:=
 ((gy x.1)/\
 aM (mright x.1) fun y=>
 (¬((!y)=true)->
 ((gy x.2.1)/\
 aM (mright x.2.1) fun bq=>
 (¬((!bq)=true)->
 ((nD (x.1,x.2.2,[x.2.1.1,x.2.1.2.1,x.2.1.2.2]))/\
 aM (sy (x.1,x.2.2,[x.2.1.1,x.2.1.2.1,x.2.1.2.2])) fun y_2=>
 (((!y_2)=true)->
 (nD (x.2.1,x.2.2,[x.1.1,x.1.2.1,x.1.2.2]))))))))
def Wl (x:(I6×I6×Int)):Tr (Bool×Int) true:=
 (.fn lU x.1 fun y=>
 (.n9 (!y)
 (.ret (false,z1))
 (.fn lU x.2.1 fun bq=>
 (.n9 (!bq)
 (.ret (false,z1))
 (.fn pP (x.1,x.2.2,[x.2.1.1,x.2.1.2.1,x.2.1.2.2]) fun y_2=>
 (.Es (!y_2)
 (.fn pP (x.2.1,x.2.2,[x.1.1,x.1.2.1,x.1.2.2]) fun bJ=>
 (.ret ((!bJ),z0)))
 (.ret (false,z0))))))))
abbrev B2:fg:=⟨(.pair (.agg bZ) (.pair (.agg bZ) (.one yi))),(.pair (.one Ty.bool) (.one yi)),FN,XE⟩
theorem TD:ak Tryz.prog 119 (aq B2):=ak.tr B2 Wl (fn:=Tryz.f119) aD yn mixed (by kernel_rfl) (aA.nil _ _) (fun x=>ay.nil) (fun x=>(by kernel_rfl)) fun x Q=>(by kernel_rfl)
def KU:List (Nat×Ev.Spec):=(119,aq B2)::Gz
theorem AU:af Tryz.prog KU:=af.add (fn:=Tryz.f119) (by kernel_rfl) TD yn
def pT (x:(I6×I6)):(Bool×Int):=
 (au (XE (x.1,x.2,1)) fun y=>
 y)
def qC (x:(I6×I6)):Prop:=
 (FN (x.1,x.2,1))
def MN (x:(I6×I6)):Tr (Bool×Int) true:=
 (.fn B2 (x.1,x.2,z1) fun y=>
 (.ret y))
abbrev qB:fg:=⟨(.pair (.agg bZ) (.agg bZ)),(.pair (.one Ty.bool) (.one yi)),qC,pT⟩
theorem Kb:ak Tryz.prog 109 (aq qB):=ak.tr qB MN (fn:=Tryz.f109) aD AU mixed (by kernel_rfl) (aA.nil _ _) (fun x=>ay.nil) (fun x=>(by kernel_rfl)) fun x Q=>(by kernel_rfl)
def AW:List (Nat×Ev.Spec):=(109,aq qB)::KU
theorem kq:af Tryz.prog AW:=af.add (fn:=Tryz.f109) (by kernel_rfl) Kb AU
def Fk (x:(List I6)):aW:=⟨[],⟨dy 37 0 [(0,.v (.one (.full 0))),(4,.v (.one (.ptr 1 0))),(9,.v (.one (.full 0))),(10,.v (.one (.i .i64))),(11,.v (.one (.i .i64))),(18,.v (.one (.full 2))),(19,.v (.one (.i .i64))),(20,.v (.one (.i .i64)))],[.row bZ 0,.cells [.i .i64,.i .i64,.i .i64,.i .i64,.i .i64,.i .i64] 91,.alias 0 true],0,none,[],[0,4,11],[5,6,7,8,9,10,1,12,2,3],[.i,.i,.i,.i,.i,.i,.i,.n,.i,.i],[.i (x.length:Int),.l bZ x,.n 0]⟩,[⟨.ret,.ret,⟨dy 37 0 [(2,.v (.one (.b)))],[],0,none,[],[0],[],[],[.b false]⟩⟩,⟨(.exit 2),.normal,⟨dy 37 0 [(0,.v (.one (.full 0))),(9,.v (.one (.full 0))),(10,.v (.one (.i .i64))),(11,.v (.one (.i .i64)))],[.row bZ 0],0,none,[],[0,2],[1],[.i],[.i (x.length:Int),.l bZ x]⟩⟩]⟩
def fS (x:(List I6)) (s:(Int×Int×Int×Int×Int×Int×Int×Nat×I2)):(Int×Int×Int×Int×Int×Int×Int×Nat×I2)⊕(Unit⊕Int):=
 (if (s.2.2.2.2.2.2.2.2.2<s.2.2.2.2.2.2.2.2.1) then
 (au (pT (((s.1,s.2.1),(s.2.2.1,s.2.2.2.1),s.2.2.2.2.1,s.2.2.2.2.2.1),(x.getD (0+s.2.2.2.2.2.2.2.2.2.toNat) ((0,0),(0,0),0,0)))) fun y=>
 (if (y.1=true) then
 (Sum.inr (Sum.inl ())) else
 (if ((y.2 !=0)=true) then
 (Sum.inr (Sum.inl ())) else
 (Sum.inl (s.1,s.2.1,s.2.2.1,s.2.2.2.1,s.2.2.2.2.1,s.2.2.2.2.2.1,s.2.2.2.2.2.2.1,s.2.2.2.2.2.2.2.1,s.2.2.2.2.2.2.2.2.1,(aj (s.2.2.2.2.2.2.2.2.2+1))))))) else
 (Sum.inr (Sum.inr (s.2.2.2.2.2.2.1))))
def k7 (x:(List I6)) (s:(Int×Int×Int×Int×Int×Int×Int×Nat×I2)):Prop:=
 ((s.2.2.2.2.2.2.2.2.2<s.2.2.2.2.2.2.2.2.1)->
 (((0<=s.2.2.2.2.2.2.2.2.2)/\ (s.2.2.2.2.2.2.2.2.2<(((min s.2.2.2.2.2.2.2.1 (x.length- 0)):Nat):Int)))/\
 (((0+s.2.2.2.2.2.2.2.2.2.toNat)<x.length)/\
 (((0+s.2.2.2.2.2.2.2.2.2.toNat)<x.length)/\
 (qC (((s.1,s.2.1),(s.2.2.1,s.2.2.2.1),s.2.2.2.2.1,s.2.2.2.2.2.1),(x.getD (0+s.2.2.2.2.2.2.2.2.2.toNat) ((0,0),(0,0),0,0))))))))
def An (x:(List I6)) (s:(Int×Int×Int×Int×Int×Int×Int×Nat×I2)):Tr ((Int×Int×Int×Int×Int×Int×Int×Nat×I2)⊕(Unit⊕Int)) true:=
 (.i10 (s.2.2.2.2.2.2.2.2.2<s.2.2.2.2.2.2.2.2.1)
 (.oR s.2.2.2.2.2.2.2.2.2 (((min s.2.2.2.2.2.2.2.1 (x.length- 0)):Nat):Int)
 (.od ((0+(tN s.2.2.2.2.2.2.2.2.2))<x.length)
 (.od ((0+(tN s.2.2.2.2.2.2.2.2.2))<x.length)
 (.fn qB (((s.1,s.2.1),(s.2.2.1,s.2.2.2.1),s.2.2.2.2.1,s.2.2.2.2.2.1),(x.getD (0+(tN s.2.2.2.2.2.2.2.2.2)) aV)) fun y=>
 (.jM y.1
 (.ret (.inr (Sum.inl ())))
 (.jM (y.2 !=z0)
 (.ret (.inr (Sum.inl ())))
 (.ret (.inl (s.1,s.2.1,s.2.2.1,s.2.2.2.1,s.2.2.2.2.1,s.2.2.2.2.2.1,s.2.2.2.2.2.2.1,s.2.2.2.2.2.2.2.1,s.2.2.2.2.2.2.2.2.1,(w1 s.2.2.2.2.2.2.2.2.2))))))))))
 (.ret (.inr (Sum.inr (s.2.2.2.2.2.2.1)))))
def Fj (x:(List I6)):aW:=⟨[],⟨dy 37 0 [(0,.v (.one (.full 0))),(9,.v (.one (.full 0))),(10,.v (.one (.i .i64))),(11,.v (.one (.i .i64)))],[.row bZ 0],0,none,[],[0,2],[1],[.i],[.i (x.length:Int),.l bZ x]⟩,[⟨.ret,.ret,⟨dy 37 0 [(2,.v (.one (.b)))],[],0,none,[],[0],[],[],[.b false]⟩⟩,⟨(.exit 0),.normal,⟨dy 37 0 [],[],0,none,[],[],[],[],[]⟩⟩]⟩
def jW (x:(List I6)) (s:Int):Int⊕(Unit⊕Unit):=
 (if (s<(x.length:Int)) then
 (au (run (fS x) ((x.getD s.toNat ((0,0),(0,0),0,0)).1.1,(x.getD s.toNat ((0,0),(0,0),0,0)).1.2,(x.getD s.toNat ((0,0),(0,0),0,0)).2.1.1,(x.getD s.toNat ((0,0),(0,0),0,0)).2.1.2,(x.getD s.toNat ((0,0),(0,0),0,0)).2.2.1,(x.getD s.toNat ((0,0),(0,0),0,0)).2.2.2,s,s.toNat,(((min s.toNat (x.length- 0)):Nat):Int),0)) fun r=>
 (Sum.elim (fun a=>
 (Sum.inr (Sum.inl ()))) (fun b=>
 (Sum.inl (aj (b+1)))) r)) else
 (Sum.inr (Sum.inr (()))))
def oZ (x:(List I6)) (s:Int):Prop:=
 ((s<(x.length:Int))->
 (((0<=s)/\ (s<(x.length:Int)))/\
 ((s.toNat<x.length)/\
 ((s.toNat<x.length)/\
 (((0<=s)/\ (s<=(x.length:Int)))/\
 (Term (fS x) (k7 x) ((x.getD s.toNat ((0,0),(0,0),0,0)).1.1,(x.getD s.toNat ((0,0),(0,0),0,0)).1.2,(x.getD s.toNat ((0,0),(0,0),0,0)).2.1.1,(x.getD s.toNat ((0,0),(0,0),0,0)).2.1.2,(x.getD s.toNat ((0,0),(0,0),0,0)).2.2.1,(x.getD s.toNat ((0,0),(0,0),0,0)).2.2.2,s,s.toNat,(((min s.toNat (x.length- 0)):Nat):Int),0)))))))
def Am (x:(List I6)) (s:Int):Tr (Int⊕(Unit⊕Unit)) true:=
 (.i10 (s<(nL x))
 (.lA s x
 (.og ((decide (z0<=s))&&(decide (s<=(nL x)))) ((z0<=s)/\ (s<=(nL x))) (fun h=>(jR (decide_eq_true h.1) (decide_eq_true h.2)))
 (aW.lp (Fk x) (An x) ((gT x s aV).1.1,(gT x s aV).1.2,(gT x s aV).2.1.1,(gT x s aV).2.1.2,(gT x s aV).2.2.1,(gT x s aV).2.2.2,s,(tN s),(((min (tN s) (x.length- 0)):Nat):Int),z0) fun r=>
 (.Bq r (fun a=>
 (.ret (.inr (Sum.inl ())))) (fun b=>
 (.ret (.inl (w1 b))))))))
 (.ret (.inr (Sum.inr (())))))
def Hz (x:(List I6)):Bool:=
 (au (run (jW x) 0) fun r=>
 (Sum.elim (fun a=>
 false) (fun b=>
 true) r))
def u9 (x:(List I6)):Prop:=
 (Term (jW x) (oZ x) 0)
def Sl (x:(List I6)):Tr Bool true:=
 (aW.lp (Fj x) (Am x) z0 fun r=>
 (.Bq r (fun a=>
 (.ret false)) (fun b=>
 (.ret true))))
abbrev wJ:fg:=⟨(.one (Ty.sl bZ)),(.one Ty.bool),u9,Hz⟩
theorem P9:ak Tryz.prog 85 (aq wJ):=ak.tr wJ Sl (fn:=Tryz.f85) aD kq mixed (by kernel_rfl) (aA.nil _ _) (fun x=>(ay.tr aD (af.eO kq (aA.nil _ _)) mixed 0 (Fj x) (Am x) (ay.tr aD (af.eO kq (aA.nil _ _)) mixed 2 (Fk x) (An x) ay.nil (by kernel_rfl) fun g s Q=>(by kernel_rfl)) (by kernel_rfl) fun g s Q=>(by kernel_rfl))) (fun x=>(by kernel_rfl)) fun x Q=>(by kernel_rfl)
def Gs:List (Nat×Ev.Spec):=(85,aq wJ)::AW
theorem yg:af Tryz.prog Gs:=af.add (fn:=Tryz.f85) (by kernel_rfl) P9 kq
def H8 (x:(I2×Int×I6)):(Bool×Int):=
 (if (x.2.1<1) then
 (false,5) else
 (if (x.2.1>4096) then
 (false,5) else
 (au (fI [x.1]) fun y=>
 (if ((!y)=true) then
 (false,5) else
 (au (fI [((aj (x.1.1+x.2.1)),(aj (x.1.2+x.2.1)))]) fun bq=>
 (if ((!bq)=true) then
 (false,5) else
 (au (mright x.2.2) fun y_2=>
 (if ((!y_2)=true) then
 (false,1) else
 (if ((aO (aO x.2.2.1.1 x.2.2.2.1.1) x.2.2.2.2.1)<=(aj (x.1.1+x.2.1))) then
 (if ((aS (aS x.2.2.1.1 x.2.2.2.1.1) x.2.2.2.2.1)>=x.1.1) then
 (if ((aO (aO x.2.2.1.2 x.2.2.2.1.2) x.2.2.2.2.2)<=(aj (x.1.2+x.2.1))) then
 (if ((aS (aS x.2.2.1.2 x.2.2.2.1.2) x.2.2.2.2.2)>=x.1.2) then
 (au (sy (x.2.2,0,[x.1,((aj (x.1.1+x.2.1)),x.1.2),((aj (x.1.1+x.2.1)),(aj (x.1.2+x.2.1))),(x.1.1,(aj (x.1.2+x.2.1)))])) fun bJ=>
 ((!bJ),0)) else
 (false,0)) else
 (false,0)) else
 (if ((aO (aO x.2.2.1.2 x.2.2.2.1.2) x.2.2.2.2.2)<=(aj (x.1.2+x.2.1))) then
 (false,0) else
 (false,0))) else
 (if ((aS (aS x.2.2.1.1 x.2.2.2.1.1) x.2.2.2.2.1)>=x.1.1) then
 (false,0) else
 (false,0)))))))))))
def sF (x:(I2×Int×I6)):Prop:=
 (¬(x.2.1<1)->
 (¬(x.2.1>4096)->
 ((ep [x.1])/\
 aM (fI [x.1]) fun y=>
 (¬((!y)=true)->
 ((ep [((aj (x.1.1+x.2.1)),(aj (x.1.2+x.2.1)))])/\
 aM (fI [((aj (x.1.1+x.2.1)),(aj (x.1.2+x.2.1)))]) fun bq=>
 (¬((!bq)=true)->
 ((gy x.2.2)/\
 aM (mright x.2.2) fun y_2=>
 (¬((!y_2)=true)->
 (((aO (aO x.2.2.1.1 x.2.2.2.1.1) x.2.2.2.2.1)<=(aj (x.1.1+x.2.1)))->
 (((aS (aS x.2.2.1.1 x.2.2.2.1.1) x.2.2.2.2.1)>=x.1.1)->
 (((aO (aO x.2.2.1.2 x.2.2.2.1.2) x.2.2.2.2.2)<=(aj (x.1.2+x.2.1)))->
 (((aS (aS x.2.2.1.2 x.2.2.2.1.2) x.2.2.2.2.2)>=x.1.2)->
 (nD (x.2.2,0,[x.1,((aj (x.1.1+x.2.1)),x.1.2),((aj (x.1.1+x.2.1)),(aj (x.1.2+x.2.1))),(x.1.1,(aj (x.1.2+x.2.1)))]))))))))))))))
def QH (x:(I2×Int×I6)):Tr (Bool×Int) true:=
 (.uu (x.2.1<z1)
 (.ret (false,5))
 (.uu (x.2.1>4096)
 (.ret (false,5))
 (.fn nO [x.1] fun y=>
 (.n9 (!y)
 (.ret (false,5))
 (.fn nO [((aj (x.1.1+x.2.1)),(aj (x.1.2+x.2.1)))] fun bq=>
 (.n9 (!bq)
 (.ret (false,5))
 (.fn lU x.2.2 fun y_2=>
 (.n9 (!y_2)
 (.ret (false,z1))
 (.i10 ((aO (aO x.2.2.1.1 x.2.2.2.1.1) x.2.2.2.2.1)<=(aj (x.1.1+x.2.1)))
 (.i10 ((aS (aS x.2.2.1.1 x.2.2.2.1.1) x.2.2.2.2.1)>=x.1.1)
 (.i10 ((aO (aO x.2.2.1.2 x.2.2.2.1.2) x.2.2.2.2.2)<=(aj (x.1.2+x.2.1)))
 (.i10 ((aS (aS x.2.2.1.2 x.2.2.2.1.2) x.2.2.2.2.2)>=x.1.2)
 (.fn pP (x.2.2,z0,[x.1,((aj (x.1.1+x.2.1)),x.1.2),((aj (x.1.1+x.2.1)),(aj (x.1.2+x.2.1))),(x.1.1,(aj (x.1.2+x.2.1)))]) fun bJ=>
 (.ret ((!bJ),z0)))
 (.ret (false,z0)))
 (.ret (false,z0)))
 (.tB ((aO (aO x.2.2.1.2 x.2.2.2.1.2) x.2.2.2.2.2)<=(aj (x.1.2+x.2.1)))
 (.ret (false,z0))
 (.ret (false,z0))))
 (.tB ((aS (aS x.2.2.1.1 x.2.2.2.1.1) x.2.2.2.2.1)>=x.1.1)
 (.ret (false,z0))
 (.ret (false,z0))))))))))))
abbrev tO:fg:=⟨(.pair (.agg aH) (.pair (.one yi) (.agg bZ))),(.pair (.one Ty.bool) (.one yi)),sF,H8⟩
theorem MO:ak Tryz.prog 66 (aq tO):=ak.tr tO QH (fn:=Tryz.f66) aD yg mixed (by kernel_rfl) (aA.nil _ _) (fun x=>ay.nil) (fun x=>(by kernel_rfl)) fun x Q=>(by kernel_rfl)
def bG:List (Nat×Ev.Spec):=(66,aq tO)::Gs
theorem dS:af Tryz.prog bG:=af.add (fn:=Tryz.f66) (by kernel_rfl) MO yg
end Go.Proofs.YtojielnkfeoccaaGreat
