/- Models of tree's functions: split. -/
import Derived.Test.YtngdehlpoomaiaaGreatTp
noncomputable section
set_option linter.unusedSectionVars false
set_option linter.unusedVariables false
set_option linter.unusedSimpArgs false
namespace Go.Proofs.YtngdehlpoomaiaaGreat
open Go Go.Ev Go.Proofs
abbrev Fz:Type:=(Int×Int×Int×Int×Int×Int×Int×Int×I3)
abbrev FA:Type:=(Int×Int×Int×Int×Int×I3)
def RU (x:(Int×List Int)):aI:=⟨[],⟨cj 23 0 [(0,.v (.one (.i .i64))),(7,.v (.one (.full 0))),(8,.v (.one (.i .i64))),(9,.v (.one (.i .i64)))],[.row yi 0],0,none,[],[0,1,3],[2],[.i],[.i x.1,.i (x.2.length:Int),.l yi x.2]⟩,[⟨.ret,.ret,⟨cj 23 0 [(4,.v (.one (.b)))],[],0,none,[],[0],[],[],[.b false]⟩⟩,⟨(.exit 0),.normal,⟨cj 23 0 [],[],0,none,[],[],[],[],[]⟩⟩]⟩
def mA (x:(Int×List Int)) (s:Int):Int⊕(Unit⊕Unit):=
 (if (s<(x.2.length:Int)) then
 (if ((x.2.getD s.toNat 0)<(au (0- x.1))) then
 (Sum.inr (Sum.inl ())) else
 (if ((x.2.getD s.toNat 0)>x.1) then
 (Sum.inr (Sum.inl ())) else
 (Sum.inl (au (s+1))))) else
 (Sum.inr (Sum.inr (()))))
def BL (x:(Int×List Int)) (s:Int):Prop:=
 ((s<(x.2.length:Int))->
 (((0<=s)/\ (s<(x.2.length:Int)))/\
 ((s.toNat<x.2.length)/\
 (s.toNat<x.2.length))))
def I8 (x:(Int×List Int)) (s:Int):Tr (Int⊕(Unit⊕Unit)) true:=
 (.i10 (s<(nL x.2))
 (.A7 s x.2
 (.iz ((gI x.2 s)<(au (z0- x.1)))
 (.ret (.inr (Sum.inl ())))
 (.iz ((gI x.2 s)>x.1)
 (.ret (.inr (Sum.inl ())))
 (.ret (.inl (w1 s))))))
 (.ret (.inr (Sum.inr (())))))
def within (x:(Int×List Int)):Bool:=
 (ak (run (mA x) 0) fun r=>
 (Sum.elim (fun a=>
 false) (fun b=>
 true) r))
def CQ (x:(Int×List Int)):Prop:=
 (Term (mA x) (BL x) 0)
def akY (x:(Int×List Int)):Tr Bool true:=
 (aI.lp (RU x) (I8 x) z0 fun r=>
 (.Jr r (fun a=>
 (.ret false)) (fun b=>
 (.ret true))))
abbrev FI:bF:=⟨(.pair (.one yi) (.one (Ty.sl yi))),(.one Ty.bool),CQ,within⟩
theorem agn:aq Tryz.prog 58 (ah FI):=bS FI akY (fn:=Tryz.f58) zi (aH.nil _ _) (fun x=>(bX zi 0 (RU x) (I8 x) aK.nil))
def RE:List (Nat×Ev.Spec):=(58,ah FI)::XY
theorem wv:aj Tryz.prog RE:=aA (fn:=Tryz.f58) agn zi
def QK (x:(List I3)):aI:=⟨[],⟨cj 21 0 [(5,.v (.one (.full 0))),(6,.v (.one (.i .i64))),(7,.v (.one (.i .i64)))],[.row aG 0],0,none,[],[0,2],[1],[.i],[.i (x.length:Int),.l aG x]⟩,[⟨.ret,.ret,⟨cj 21 0 [(2,.v (.one (.b)))],[],0,none,[],[0],[],[],[.b false]⟩⟩,⟨(.exit 0),.normal,⟨cj 21 0 [],[],0,none,[],[],[],[],[]⟩⟩]⟩
def me (x:(List I3)) (s:Int):Int⊕(Unit⊕Unit):=
 (if (s<(x.length:Int)) then
 (ak (within (16384,[(x.getD s.toNat (0,0,0)).1,(x.getD s.toNat (0,0,0)).2.1,(x.getD s.toNat (0,0,0)).2.2])) fun y=>
 (if ((!y)=true) then
 (Sum.inr (Sum.inl ())) else
 (Sum.inl (au (s+1))))) else
 (Sum.inr (Sum.inr (()))))
def Bi (x:(List I3)) (s:Int):Prop:=
 ((s<(x.length:Int))->
 (((0<=s)/\ (s<(x.length:Int)))/\
 ((s.toNat<x.length)/\
 ((s.toNat<x.length)/\
 (CQ (16384,[(x.getD s.toNat (0,0,0)).1,(x.getD s.toNat (0,0,0)).2.1,(x.getD s.toNat (0,0,0)).2.2]))))))
def Ic (x:(List I3)) (s:Int):Tr (Int⊕(Unit⊕Unit)) true:=
 (.i10 (s<(nL x))
 (.A7 s x
 (.fn FI (16384,[(gT x s bn).1,(gT x s bn).2.1,(gT x s bn).2.2]) fun y=>
 (.iY (!y)
 (.ret (.inr (Sum.inl ())))
 (.ret (.inl (w1 s))))))
 (.ret (.inr (Sum.inr (())))))
def oP (x:(List I3)):Bool:=
 (ak (run (me x) 0) fun r=>
 (Sum.elim (fun a=>
 false) (fun b=>
 true) r))
def hO (x:(List I3)):Prop:=
 (Term (me x) (Bi x) 0)
def aj5 (x:(List I3)):Tr Bool true:=
 (aI.lp (QK x) (Ic x) z0 fun r=>
 (.Jr r (fun a=>
 (.ret false)) (fun b=>
 (.ret true))))
abbrev eN:bF:=⟨(.one (Ty.sl aG)),(.one Ty.bool),hO,oP⟩
theorem afU:aq Tryz.prog 26 (ah eN):=bS eN aj5 (fn:=Tryz.f26) wv (aH.nil _ _) (fun x=>(bX wv 0 (QK x) (Ic x) aK.nil))
def Ry:List (Nat×Ev.Spec):=(26,ah eN)::RE
theorem Ff:aj Tryz.prog Ry:=aA (fn:=Tryz.f26) afU wv
def GV (x:I9):Bool:=
 (ak (oP [x.1,x.2.1,x.2.2]) fun y=>
 (!y))
def Cz (x:I9):Prop:=
 (hO [x.1,x.2.1,x.2.2])
def aj7 (x:I9):Tr Bool true:=
 (.fn eN [x.1,x.2.1,x.2.2] fun y=>
 (.ret (!y)))
abbrev Es:bF:=⟨(.agg cO),(.one Ty.bool),Cz,GV⟩
theorem afW:aq Tryz.prog 176 (ah Es):=aM Es aj7 (fn:=Tryz.f176) Ff
def RA:List (Nat×Ev.Spec):=(176,ah Es)::Ry
theorem wu:aj Tryz.prog RA:=aA (fn:=Tryz.f176) afW Ff
def PG (x:(List I9×Bool)):aI:=⟨[],⟨cj 19 0 [(0,.v (.one (.full 0))),(1,.v (.one (.jO 176 0 []))),(7,.v (.one (.i .i64))),(8,.v (.one (.i .i64)))],[.row cO 0],0,none,[],[0,2],[1],[.i],[.i (x.1.length:Int),.l cO x.1]⟩,[⟨.ret,.ret,⟨cj 19 0 [(4,.v (.one (.i .i64)))],[],0,none,[],[],[0],[.i],[]⟩⟩,⟨(.exit 0),.normal,⟨cj 19 0 [],[],0,none,[],[],[],[],[]⟩⟩]⟩
def jv (x:(List I9×Bool)) (s:Int):Int⊕(Int⊕Unit):=
 (if (s<(x.1.length:Int)) then
 (ak (GV (x.1.getD s.toNat ((0,0,0),(0,0,0),0,0,0))) fun y=>
 (if (y=true) then
 (Sum.inr (Sum.inl s)) else
 (Sum.inl (au (s+1))))) else
 (Sum.inr (Sum.inr (()))))
def sV (x:(List I9×Bool)) (s:Int):Prop:=
 ((s<(x.1.length:Int))->
 (((0<=s)/\ (s<(x.1.length:Int)))/\
 ((s.toNat<x.1.length)/\
 ((s.toNat<x.1.length)/\
 (Cz (x.1.getD s.toNat ((0,0,0),(0,0,0),0,0,0)))))))
def Hy (x:(List I9×Bool)) (s:Int):Tr (Int⊕(Int⊕Unit)) true:=
 (.i10 (s<(nL x.1))
 (.A7 s x.1
 (.fn Es (gT x.1 s Ju) fun y=>
 (.iY y
 (.ret (.inr (Sum.inl s)))
 (.ret (.inl (w1 s))))))
 (.ret (.inr (Sum.inr (())))))
def ZD (x:(List I9×Bool)):Int:=
 (ak (run (jv x) 0) fun r=>
 (Sum.elim (fun a=>
 a) (fun b=>
 (-1)) r))
def LF (x:(List I9×Bool)):Prop:=
 (Term (jv x) (sV x) 0)
def aiF (x:(List I9×Bool)):Tr Int true:=
 (aI.lp (PG x) (Hy x) z0 fun r=>
 (.Jr r (fun a=>
 (.ret a)) (fun b=>
 (.ret (-1)))))
abbrev Dt:bF:=⟨(.pair (.one (Ty.sl cO)) (.jO 176 .none)),(.one yi),LF,ZD⟩
theorem aeD:aq Tryz.prog 195 (ah Dt):=bS Dt aiF (fn:=Tryz.f195) wu (aH.nil _ _) (fun x=>(bX wu 0 (PG x) (Hy x) aK.nil))
def Q9:List (Nat×Ev.Spec):=(195,ah Dt)::RA
theorem EM:aj Tryz.prog Q9:=aA (fn:=Tryz.f195) aeD wu
def FZ (x:(List I9×Bool)):Bool:=
 (ak (ZD (x.1,false)) fun y=>
 (decide (y>=0)))
def AZ (x:(List I9×Bool)):Prop:=
 (LF (x.1,false))
def Vg (x:(List I9×Bool)):Tr Bool true:=
 (.fn Dt (x.1,false) fun y=>
 (.ret (decide (y>=z0))))
abbrev rL:bF:=⟨(.pair (.one (Ty.sl cO)) (.jO 176 .none)),(.one Ty.bool),AZ,FZ⟩
theorem Sj:aq Tryz.prog 175 (ah rL):=aM rL Vg (fn:=Tryz.f175) EM
def ED:List (Nat×Ev.Spec):=(175,ah rL)::Q9
theorem wN:aj Tryz.prog ED:=aA (fn:=Tryz.f175) Sj EM
def GU (x:(List I9)):Bool:=
 (ak (FZ (x,false)) fun y=>
 (!y))
def Cx (x:(List I9)):Prop:=
 (AZ (x,false))
def aj6 (x:(List I9)):Tr Bool true:=
 (.fn rL (x,false) fun y=>
 (.ret (!y)))
abbrev Er:bF:=⟨(.one (Ty.sl cO)),(.one Ty.bool),Cx,GU⟩
theorem afV:aq Tryz.prog 154 (ah Er):=aM Er aj6 (fn:=Tryz.f154) wN
def Rz:List (Nat×Ev.Spec):=(154,ah Er)::ED
theorem Fg:aj Tryz.prog Rz:=aA (fn:=Tryz.f154) afV wN
def xm (x:(List Int)):(List Int):=
 ((List.replicate 0 (0:Int))++x)
def mN (x:(List Int)):Prop:=
 (∀b:Bool,((0<x.length)->(b=false))->(((if (b=true) then
 [] else
 ((List.replicate 0 (0:Int))++x))=((List.replicate 0 (0:Int))++x))/\ (¬(b=true)->
 ((0+x.length)<1099511627776))))
def ahe (x:(List Int)):Tr (List Int) true:=
 (.nil (fun b=>((0<x.length)->(b=false))) fun b=>
 (.gG b
 (.ret [])
 (.od ((0+x.length)<1099511627776)
 (.ret ((List.replicate 0 z0)++x)))))
abbrev C1:bF:=⟨(.one (Ty.sl yi)),(.one (Ty.sl yi)),mN,xm⟩
theorem adO:aq Tryz.prog 157 (ah C1):=bS C1 ahe (fn:=Tryz.f157) Fg (aH.dead 157 (fn:=Tryz.f157) (by kernel_rfl)) (fun x=>aK.nil)
def QM:List (Nat×Ev.Spec):=(157,ah C1)::Rz
theorem Ex:aj Tryz.prog QM:=aA (fn:=Tryz.f157) adO Fg
def point (x:I3):I3:=
 x
def aff (_:I3):Prop:=True
def ang (x:I3):Tr I3 false:=
 (.ret x)
abbrev DS:bF:=⟨(.agg aG),(.agg aG),aff,point⟩
theorem ajx:aq Tryz.prog 196 (ah DS):=aM DS ang (fn:=Tryz.f196) Ex
def XQ:List (Nat×Ev.Spec):=(196,ah DS)::QM
theorem Iv:aj Tryz.prog XQ:=aA (fn:=Tryz.f196) ajx Ex
def parts (x:I3):I3:=
 x
def afe (_:I3):Prop:=True
def ane (x:I3):Tr I3 false:=
 (.ret x)
abbrev gX:bF:=⟨(.agg aG),(.agg aG),afe,parts⟩
theorem ajs:aq Tryz.prog 172 (ah gX):=aM gX ane (fn:=Tryz.f172) Iv
def XP:List (Nat×Ev.Spec):=(172,ah gX)::XQ
theorem y8:aj Tryz.prog XP:=aA (fn:=Tryz.f172) ajs Iv
def hasB (x:((I3×I3)×I3)):Bool:=
 (ak (parts x.1.1) fun y=>
 (ak (parts x.1.2) fun aB=>
 (ak (parts x.2) fun y_2=>
 (if (y_2.1<y.1) then
 false else
 (if (y_2.1>aB.1) then
 false else
 (if (y_2.2.1<y.2.1) then
 false else
 (if (y_2.2.1>aB.2.1) then
 false else
 (if (y_2.2.2<y.2.2) then
 false else
 (if (y_2.2.2>aB.2.2) then
 false else
 true)))))))))
def ah2 (_:((I3×I3)×I3)):Prop:=True
def apr (x:((I3×I3)×I3)):Tr Bool false:=
 (.fn0 gX x.1.1 trivial fun y=>
 (.fn0 gX x.1.2 trivial fun aB=>
 (.fn0 gX x.2 trivial fun y_2=>
 (.iz (y_2.1<y.1)
 (.ret false)
 (.iz (y_2.1>aB.1)
 (.ret false)
 (.iz (y_2.2.1<y.2.1)
 (.ret false)
 (.iz (y_2.2.1>aB.2.1)
 (.ret false)
 (.iz (y_2.2.2<y.2.2)
 (.ret false)
 (.iz (y_2.2.2>aB.2.2)
 (.ret false)
 (.ret true))))))))))
abbrev Ll:bF:=⟨(.pair (.agg (Ty.prod aG aG)) (.agg aG)),(.one Ty.bool),ah2,hasB⟩
theorem amk:aq Tryz.prog 188 (ah Ll):=bS Ll apr (fn:=Tryz.f188) y8 (aH.nil _ _) (fun x=>(aK.pW bt (aj.F0 y8 (aH.nil _ _)) mixed 0 4 aK.nil (by kernel_rfl)))
def ac3:List (Nat×Ev.Spec):=(188,ah Ll)::XP
theorem MS:aj Tryz.prog ac3:=aA (fn:=Tryz.f188) amk y8
def ta (x:(I3×I3)):Bool:=
 (ak (oP [x.1,x.2]) fun y=>
 (if (y=true) then
 (ak (hasB (x,x.1)) fun aB=>
 aB) else
 false))
def qY (x:(I3×I3)):Prop:=
 (hO [x.1,x.2])
def aj2 (x:(I3×I3)):Tr Bool true:=
 (.fn eN [x.1,x.2] fun y=>
 (.iY y
 (.fn0 Ll (x,x.1) trivial fun aB=>
 (.ret aB))
 (.ret false)))
abbrev uE:bF:=⟨(.agg (Ty.prod aG aG)),(.one Ty.bool),qY,ta⟩
theorem afS:aq Tryz.prog 169 (ah uE):=aM uE aj2 (fn:=Tryz.f169) MS
def Rw:List (Nat×Ev.Spec):=(169,ah uE)::ac3
theorem pS:aj Tryz.prog Rw:=aA (fn:=Tryz.f169) afS MS
def QJ (x:(List I3)):aI:=⟨[],⟨cj 64 0 [(2,.v (.one (.ptr 0 0))),(4,.v (.one (.ptr 1 0))),(5,.v (.one (.ptr 2 0))),(8,.v (.one (.ptr 3 0))),(28,.v (.one (.full 4))),(29,.v (.one (.i .i64))),(30,.v (.one (.i .i64))),(36,.v (.one (.i .i64)))],[.cells [.i .i64,.i .i64,.i .i64,.i .i64,.i .i64,.i .i64] 194,.cells [.i .i64,.i .i64,.i .i64] 124,.cells [.i .i64,.i .i64,.i .i64] 124,.cells [.i .i64,.i .i64,.i .i64] 124,.row aG 0],0,none,[],[0,3,4,5,6,7,8,18],[9,10,11,12,13,14,15,16,17,1,2],[.i,.i,.i,.i,.i,.i,.i,.i,.i,.i,.i],[.i (x.length:Int),.i 0,.i 0,.i 0,.i 0,.i 0,.i 0,.l aG x]⟩,[⟨(.exit 3),.normal,⟨cj 64 0 [(2,.v (.one (.ptr 0 0))),(4,.v (.one (.ptr 1 0))),(5,.v (.one (.ptr 2 0))),(28,.v (.one (.full 3))),(29,.v (.one (.i .i64))),(30,.v (.one (.i .i64)))],[.cells [.i .i64,.i .i64,.i .i64,.i .i64,.i .i64,.i .i64] 194,.cells [.i .i64,.i .i64,.i .i64] 124,.cells [.i .i64,.i .i64,.i .i64] 124,.row aG 0],0,none,[],[0,2,3,4,5,6,7,14],[8,9,10,11,12,13,1],[.i,.i,.i,.i,.i,.i,.i],[.i (x.length:Int),.i 0,.i 0,.i 0,.i 0,.i 0,.i 0,.l aG x]⟩⟩]⟩
def gJ (x:(List I3)) (s:Fz):Tr (Fz⊕(Int×Int×Int×Int×I3)) true:=
 (.i10 (s.2.2.2.2.2.2.2.2.2.2<3)
 (.oR s.2.2.2.2.2.2.2.2.2.2 3
 (.od (((0+(s.2.2.2.2.2.2.2.2.2.2.toNat*1))+1)<=3)
 (.oR s.2.2.2.2.2.2.2.2.2.2 3
 (.od (((0+(s.2.2.2.2.2.2.2.2.2.2.toNat*1))+1)<=3)
 (.oR s.2.2.2.2.2.2.2.2.2.2 3
 (.od (((0+(s.2.2.2.2.2.2.2.2.2.2.toNat*1))+1)<=3)
 (.oR s.2.2.2.2.2.2.2.2.2.2 3
 (.od (((0+(s.2.2.2.2.2.2.2.2.2.2.toNat*1))+1)<=3)
 (.oR s.2.2.2.2.2.2.2.2.2.2 3
 (.od (((0+(s.2.2.2.2.2.2.2.2.2.2.toNat*1))+1)<=3)
 (.oR s.2.2.2.2.2.2.2.2.2.2 3
 (.od (((0+(s.2.2.2.2.2.2.2.2.2.2.toNat*1))+1)<=3)
 (.ret (.inl ((cond (Nat.beq (0+(s.2.2.2.2.2.2.2.2.2.2.toNat*1)) 0) (bB (List.getD [s.1,s.2.1,s.2.2.1] (0+(s.2.2.2.2.2.2.2.2.2.2.toNat*1)) 0) (List.getD [s.2.2.2.2.2.2.1,s.2.2.2.2.2.2.2.1,s.2.2.2.2.2.2.2.2.1] (0+(s.2.2.2.2.2.2.2.2.2.2.toNat*1)) 0)) s.1),(cond (Nat.beq (0+(s.2.2.2.2.2.2.2.2.2.2.toNat*1)) 1) (bB (List.getD [s.1,s.2.1,s.2.2.1] (0+(s.2.2.2.2.2.2.2.2.2.2.toNat*1)) 0) (List.getD [s.2.2.2.2.2.2.1,s.2.2.2.2.2.2.2.1,s.2.2.2.2.2.2.2.2.1] (0+(s.2.2.2.2.2.2.2.2.2.2.toNat*1)) 0)) s.2.1),(cond (Nat.beq (0+(s.2.2.2.2.2.2.2.2.2.2.toNat*1)) 2) (bB (List.getD [s.1,s.2.1,s.2.2.1] (0+(s.2.2.2.2.2.2.2.2.2.2.toNat*1)) 0) (List.getD [s.2.2.2.2.2.2.1,s.2.2.2.2.2.2.2.1,s.2.2.2.2.2.2.2.2.1] (0+(s.2.2.2.2.2.2.2.2.2.2.toNat*1)) 0)) s.2.2.1),(cond (Nat.beq (0+(s.2.2.2.2.2.2.2.2.2.2.toNat*1)) 0) (bw (List.getD [s.2.2.2.1,s.2.2.2.2.1,s.2.2.2.2.2.1] (0+(s.2.2.2.2.2.2.2.2.2.2.toNat*1)) 0) (List.getD [s.2.2.2.2.2.2.1,s.2.2.2.2.2.2.2.1,s.2.2.2.2.2.2.2.2.1] (0+(s.2.2.2.2.2.2.2.2.2.2.toNat*1)) 0)) s.2.2.2.1),(cond (Nat.beq (0+(s.2.2.2.2.2.2.2.2.2.2.toNat*1)) 1) (bw (List.getD [s.2.2.2.1,s.2.2.2.2.1,s.2.2.2.2.2.1] (0+(s.2.2.2.2.2.2.2.2.2.2.toNat*1)) 0) (List.getD [s.2.2.2.2.2.2.1,s.2.2.2.2.2.2.2.1,s.2.2.2.2.2.2.2.2.1] (0+(s.2.2.2.2.2.2.2.2.2.2.toNat*1)) 0)) s.2.2.2.2.1),(cond (Nat.beq (0+(s.2.2.2.2.2.2.2.2.2.2.toNat*1)) 2) (bw (List.getD [s.2.2.2.1,s.2.2.2.2.1,s.2.2.2.2.2.1] (0+(s.2.2.2.2.2.2.2.2.2.2.toNat*1)) 0) (List.getD [s.2.2.2.2.2.2.1,s.2.2.2.2.2.2.2.1,s.2.2.2.2.2.2.2.2.1] (0+(s.2.2.2.2.2.2.2.2.2.2.toNat*1)) 0)) s.2.2.2.2.2.1),s.2.2.2.2.2.2.1,s.2.2.2.2.2.2.2.1,s.2.2.2.2.2.2.2.2.1,s.2.2.2.2.2.2.2.2.2.1,(au (s.2.2.2.2.2.2.2.2.2.2+1)))))))))))))))))
 (.ret (.inr ((s.1,s.2.1,s.2.2.1,s.2.2.2.1,s.2.2.2.2.1,s.2.2.2.2.2.1,s.2.2.2.2.2.2.2.2.2.1)))))
abbrev qZ (x:(List I3)) (s:Fz):Fz⊕(Int×Int×Int×Int×I3):=(gJ x s).val
abbrev iW (x:(List I3)) (s:Fz):Prop:=(gJ x s).pre
def QI (x:(List I3)):aI:=⟨[],⟨cj 64 0 [(2,.v (.one (.ptr 0 0))),(4,.v (.one (.ptr 1 0))),(5,.v (.one (.ptr 2 0))),(28,.v (.one (.full 3))),(29,.v (.one (.i .i64))),(30,.v (.one (.i .i64)))],[.cells [.i .i64,.i .i64,.i .i64,.i .i64,.i .i64,.i .i64] 194,.cells [.i .i64,.i .i64,.i .i64] 124,.cells [.i .i64,.i .i64,.i .i64] 124,.row aG 0],0,none,[],[0,2,3,4,5,6,7,14],[8,9,10,11,12,13,1],[.i,.i,.i,.i,.i,.i,.i],[.i (x.length:Int),.i 0,.i 0,.i 0,.i 0,.i 0,.i 0,.l aG x]⟩,[⟨(.exit 1),.normal,⟨cj 64 0 [(2,.v (.one (.ptr 0 0))),(4,.v (.one (.ptr 1 0))),(5,.v (.one (.ptr 2 0)))],[.cells [.i .i64,.i .i64,.i .i64,.i .i64,.i .i64,.i .i64] 194,.cells [.i .i64,.i .i64,.i .i64] 124,.cells [.i .i64,.i .i64,.i .i64] 124],0,none,[],[0,1,2,3,4,5],[6,7,8,9,10,11],[.i,.i,.i,.i,.i,.i],[.i 0,.i 0,.i 0,.i 0,.i 0,.i 0]⟩⟩]⟩
def jJ (x:(List I3)) (s:(Int×Int×Int×Int×I3)):(Int×Int×Int×Int×I3)⊕(Int×Int×Int×I3):=
 (if (s.2.2.2.2.2.2<(x.length:Int)) then
 (ak (parts (x.getD s.2.2.2.2.2.2.toNat (0,0,0))) fun y=>
 (ak (run (qZ x) (s.1,s.2.1,s.2.2.1,s.2.2.2.1,s.2.2.2.2.1,s.2.2.2.2.2.1,y.1,y.2.1,y.2.2,s.2.2.2.2.2.2,0)) fun r=>
 (Sum.inl (r.1,r.2.1,r.2.2.1,r.2.2.2.1,r.2.2.2.2.1,r.2.2.2.2.2.1,(au (r.2.2.2.2.2.2+1)))))) else
 (Sum.inr ((s.1,s.2.1,s.2.2.1,s.2.2.2.1,s.2.2.2.2.1,s.2.2.2.2.2.1))))
def nM (x:(List I3)) (s:(Int×Int×Int×Int×I3)):Prop:=
 ((s.2.2.2.2.2.2<(x.length:Int))->
 (((0<=s.2.2.2.2.2.2)/\ (s.2.2.2.2.2.2<(x.length:Int)))/\
 ((s.2.2.2.2.2.2.toNat<x.length)/\
 ((s.2.2.2.2.2.2.toNat<x.length)/\
 (az (parts (x.getD s.2.2.2.2.2.2.toNat (0,0,0))) fun y=>
 (Term (qZ x) (iW x) (s.1,s.2.1,s.2.2.1,s.2.2.2.1,s.2.2.2.2.1,s.2.2.2.2.2.1,y.1,y.2.1,y.2.2,s.2.2.2.2.2.2,0)))))))
def Ia (x:(List I3)) (s:(Int×Int×Int×Int×I3)):Tr ((Int×Int×Int×Int×I3)⊕(Int×Int×Int×I3)) true:=
 (.i10 (s.2.2.2.2.2.2<(nL x))
 (.A7 s.2.2.2.2.2.2 x
 (.fn0 gX (gT x s.2.2.2.2.2.2 bn) trivial fun y=>
 (aI.lp (QJ x) (gJ x) (s.1,s.2.1,s.2.2.1,s.2.2.2.1,s.2.2.2.2.1,s.2.2.2.2.2.1,y.1,y.2.1,y.2.2,s.2.2.2.2.2.2,z0) fun r=>
 (.ret (.inl (r.1,r.2.1,r.2.2.1,r.2.2.2.1,r.2.2.2.2.1,r.2.2.2.2.2.1,(w1 r.2.2.2.2.2.2)))))))
 (.ret (.inr ((s.1,s.2.1,s.2.2.1,s.2.2.2.1,s.2.2.2.2.1,s.2.2.2.2.2.1)))))
def yM (x:(List I3)):((I3×I3)×Int):=
 (if (((x.length:Int)==0)=true) then
 (((0,0,0),0,0,0),1) else
 (ak (oP x) fun y=>
 (if ((!y)=true) then
 (((0,0,0),0,0,0),5) else
 (ak (parts (x.getD 0 (0,0,0))) fun aB=>
 (ak (parts (x.getD 0 (0,0,0))) fun y_2=>
 (ak (run (jJ x) (aB.1,aB.2.1,aB.2.2,y_2.1,y_2.2.1,y_2.2.2,0)) fun r=>
 (ak (point (r.1,r.2.1,r.2.2.1)) fun bI=>
 (ak (point r.2.2.2) fun dG=>
 ((bI,dG),0)))))))))
def wh (x:(List I3)):Prop:=
 (¬(((x.length:Int)==0)=true)->
 ((hO x)/\
 az (oP x) fun y=>
 (¬((!y)=true)->
 ((0<(x.length:Int))/\
 ((0<x.length)/\
 ((0<x.length)/\
 (az (parts (x.getD 0 (0,0,0))) fun aB=>
 ((0<(x.length:Int))/\
 ((0<x.length)/\
 ((0<x.length)/\
 (az (parts (x.getD 0 (0,0,0))) fun y_2=>
 (Term (jJ x) (nM x) (aB.1,aB.2.1,aB.2.2,y_2.1,y_2.2.1,y_2.2.2,0)))))))))))))
def aj3 (x:(List I3)):Tr ((I3×I3)×Int) true:=
 (.gG ((nL x)==z0)
 (.ret ((bn,bn),z1))
 (.fn eN x fun y=>
 (.gG (!y)
 (.ret ((bn,bn),5))
 (.og (true&&(decide (z0<(nL x)))) (z0<(nL x)) (fun h=>(iu rfl (decide_eq_true h)))
 (.od (0<x.length)
 (.od (0<x.length)
 (.fn0 gX (x.getD 0 bn) trivial fun aB=>
 (.og (true&&(decide (z0<(nL x)))) (z0<(nL x)) (fun h=>(iu rfl (decide_eq_true h)))
 (.od (0<x.length)
 (.od (0<x.length)
 (.fn0 gX (x.getD 0 bn) trivial fun y_2=>
 (aI.lp (QI x) (Ia x) (aB.1,aB.2.1,aB.2.2,y_2.1,y_2.2.1,y_2.2.2,z0) fun r=>
 (.fn0 DS (r.1,r.2.1,r.2.2.1) trivial fun bI=>
 (.fn0 DS r.2.2.2 trivial fun dG=>
 (.ret ((bI,dG),z0))))))))))))))))
abbrev Eo:bF:=⟨(.one (Ty.sl aG)),(.pair (.agg (Ty.prod aG aG)) (.one yi)),wh,yM⟩
theorem afT:aq Tryz.prog 177 (ah Eo):=bS Eo aj3 (fn:=Tryz.f177) pS (aH.nil _ _) (fun x=>(bX pS 1 (QI x) (Ia x) (bX pS 3 (QJ x) (gJ x) aK.nil)))
def Rx:List (Nat×Ev.Spec):=(177,ah Eo)::Rw
theorem wq:aj Tryz.prog Rx:=aA (fn:=Tryz.f177) afT pS
def LR (x:(I3×I3)):aI:=⟨[],⟨cj 38 0 [(4,.v (.one (.ptr 0 0))),(5,.v (.one (.ptr 1 0))),(6,.v (.one (.i .i64))),(17,.v (.one (.i .i64)))],[.cells [.i .i64,.i .i64,.i .i64] 124,.cells [.i .i64,.i .i64,.i .i64] 124],0,none,[],[],[2,3,4,5,6,7,0,1],[.i,.i,.i,.i,.i,.i,.i,.i],[]⟩,[⟨(.exit 0),.normal,⟨cj 38 0 [(6,.v (.one (.i .i64)))],[],0,none,[],[],[0],[.i],[]⟩⟩]⟩
def fk (x:(I3×I3)) (s:FA):Tr (FA⊕Int) true:=
 (.i10 (s.2.2.2.2.2.2.2<3)
 (.oR s.2.2.2.2.2.2.2 3
 (.od (((0+(s.2.2.2.2.2.2.2.toNat*1))+1)<=3)
 (.oR s.2.2.2.2.2.2.2 3
 (.od (((0+(s.2.2.2.2.2.2.2.toNat*1))+1)<=3)
 (.oR s.2.2.2.2.2.2.1 3
 (.od (((0+(s.2.2.2.2.2.2.1.toNat*1))+1)<=3)
 (.oR s.2.2.2.2.2.2.1 3
 (.od (((0+(s.2.2.2.2.2.2.1.toNat*1))+1)<=3)
 (.iz ((au ((List.getD [s.2.2.2.1,s.2.2.2.2.1,s.2.2.2.2.2.1] (0+(s.2.2.2.2.2.2.2.toNat*1)) 0)- (List.getD [s.1,s.2.1,s.2.2.1] (0+(s.2.2.2.2.2.2.2.toNat*1)) 0)))>(au ((List.getD [s.2.2.2.1,s.2.2.2.2.1,s.2.2.2.2.2.1] (0+(s.2.2.2.2.2.2.1.toNat*1)) 0)- (List.getD [s.1,s.2.1,s.2.2.1] (0+(s.2.2.2.2.2.2.1.toNat*1)) 0))))
 (.ret (.inl (s.1,s.2.1,s.2.2.1,s.2.2.2.1,s.2.2.2.2.1,s.2.2.2.2.2.1,s.2.2.2.2.2.2.2,(au (s.2.2.2.2.2.2.2+1)))))
 (.ret (.inl (s.1,s.2.1,s.2.2.1,s.2.2.2.1,s.2.2.2.2.1,s.2.2.2.2.2.1,s.2.2.2.2.2.2.1,(au (s.2.2.2.2.2.2.2+1))))))))))))))
 (.ret (.inr (s.2.2.2.2.2.2.1))))
abbrev iB (x:(I3×I3)) (s:FA):FA⊕Int:=(fk x s).val
abbrev lP (x:(I3×I3)) (s:FA):Prop:=(fk x s).pre
def pG (x:(I3×I3)):I2:=
 (ak (ta x) fun y=>
 (if ((!y)=true) then
 (0,1) else
 (ak (parts x.1) fun aB=>
 (ak (parts x.2) fun y_2=>
 (ak (run (iB x) (aB.1,aB.2.1,aB.2.2,y_2.1,y_2.2.1,y_2.2.2,0,0)) fun r=>
 (r,0))))))
def oq (x:(I3×I3)):Prop:=
 ((qY x)/\
 az (ta x) fun y=>
 (¬((!y)=true)->
 (az (parts x.1) fun aB=>
 (az (parts x.2) fun y_2=>
 (Term (iB x) (lP x) (aB.1,aB.2.1,aB.2.2,y_2.1,y_2.2.1,y_2.2.2,0,0))))))
def aeS (x:(I3×I3)):Tr I2 true:=
 (.fn uE x fun y=>
 (.gG (!y)
 (.ret (z0,z1))
 (.fn0 gX x.1 trivial fun aB=>
 (.fn0 gX x.2 trivial fun y_2=>
 (aI.lp (LR x) (fk x) (aB.1,aB.2.1,aB.2.2,y_2.1,y_2.2.1,y_2.2.2,uQ) fun r=>
 (.ret (r,z0)))))))
abbrev Gp:bF:=⟨(.agg (Ty.prod aG aG)),(.pair (.one yi) (.one yi)),oq,pG⟩
theorem ZQ:aq Tryz.prog 178 (ah Gp):=bS Gp aeS (fn:=Tryz.f178) wq (aH.nil _ _) (fun x=>(bX wq 0 (LR x) (fk x) aK.nil))
def M0:List (Nat×Ev.Spec):=(178,ah Gp)::Rx
theorem tg:aj Tryz.prog M0:=aA (fn:=Tryz.f178) ZQ wq
def abM (x:(List I9×List Int)):aI:=⟨[],⟨cj 31 0 [(0,.v (.one (.full 0))),(4,.v (.one (.ptr 1 0))),(5,.v (.one (.full 2))),(11,.v (.one (.full 3))),(12,.v (.one (.i .i64))),(13,.v (.one (.i .i64)))],[.row cO 0,.cells [.i .i64,.i .i64,.i .i64,.i .i64,.i .i64,.i .i64] 194,.row aG 2,.row yi 0],0,none,[],[0,2,3,4,5,6,7,8,10],[9,1],[(.l aG),.i],[.i (x.2.length:Int),.l cO x.1,.i 0,.i 0,.i 0,.i 0,.i 0,.i 0,.l yi x.2]⟩,[⟨(.exit 0),.normal,⟨cj 31 0 [(4,.v (.one (.ptr 0 0))),(5,.v (.one (.full 1)))],[.cells [.i .i64,.i .i64,.i .i64,.i .i64,.i .i64,.i .i64] 194,.row aG 2],0,none,[],[0,1,2,3,4,5],[6],[(.l aG)],[.i 0,.i 0,.i 0,.i 0,.i 0,.i 0]⟩⟩]⟩
def kW (x:(List I9×List Int)) (s:(List I3×Int)):Tr ((List I3×Int)⊕(List I3)) true:=
 (.i10 (s.2<(x.2.length:Int))
 (.oR s.2 (x.2.length:Int)
 (.od (s.2.toNat<x.2.length)
 (.od (s.2.toNat<x.2.length)
 (.oR (x.2.getD s.2.toNat 0) (x.1.length:Int)
 (.od ((Int.toNat (x.2.getD s.2.toNat 0))<x.1.length)
 (.od ((Int.toNat (x.2.getD s.2.toNat 0))<x.1.length)
 (.od ((s.1.length+3)<1099511627776)
 (.ret (.inl ((s.1++ [(x.1.getD (Int.toNat (x.2.getD s.2.toNat 0)) Ju).1,(x.1.getD (Int.toNat (x.2.getD s.2.toNat 0)) Ju).2.1,(x.1.getD (Int.toNat (x.2.getD s.2.toNat 0)) Ju).2.2]),(au (s.2+1))))))))))))
 (.ret (.inr (s.1))))
abbrev jM (x:(List I9×List Int)) (s:(List I3×Int)):(List I3×Int)⊕(List I3):=(kW x s).val
abbrev rF (x:(List I9×List Int)) (s:(List I3×Int)):Prop:=(kW x s).pre
def gH (x:(List I9×List Int)):(I3×I3):=
 (ak (run (jM x) ([],0)) fun r=>
 (ak (yM r) fun y=>
 y.1))
def tJ (x:(List I9×List Int)):Prop:=
 (Term (jM x) (rF x) ([],0)/\
 az (run (jM x) ([],0)) fun r=>
 (wh r))
def ao0 (x:(List I9×List Int)):Tr (I3×I3) true:=
 (aI.lp (abM x) (kW x) ([],z0) fun r=>
 (.fn Eo r fun y=>
 (.ret y.1)))
abbrev Sc:bF:=⟨(.pair (.one (Ty.sl cO)) (.one (Ty.sl yi))),(.agg (Ty.prod aG aG)),tJ,gH⟩
theorem alI:aq Tryz.prog 156 (ah Sc):=bS Sc ao0 (fn:=Tryz.f156) tg (aH.nil _ _) (fun x=>(bX tg 0 (abM x) (kW x) aK.nil))
def Et:List (Nat×Ev.Spec):=(156,ah Sc)::M0
theorem CC:aj Tryz.prog Et:=aA (fn:=Tryz.f156) alI tg
def wz (x:(List I9×List Int)):(List Int×List Int):=
 (ak (gH x) fun y=>
 (ak (pG y) fun aB=>
 (ak (xm x.2) fun y_2=>
 (ak (MI (y_2,x.1,aB.1)) fun bI=>
 ((List.take (Int.toNat (au (Int.tdiv (bI.2.1.length:Int) 2))) bI.2.1),(List.drop (Int.toNat (au (Int.tdiv (bI.2.1.length:Int) 2))) bI.2.1))))))
def kR (x:(List I9×List Int)):Prop:=
 ((tJ x)/\
 az (gH x) fun y=>
 ((oq y)/\
 az (pG y) fun aB=>
 ((mN x.2)/\
 az (xm x.2) fun y_2=>
 ((uF (y_2,x.1,aB.1))/\
 az (MI (y_2,x.1,aB.1)) fun bI=>
 (((0<=(au (Int.tdiv (bI.2.1.length:Int) 2)))/\ ((au (Int.tdiv (bI.2.1.length:Int) 2))<=(bI.2.1.length:Int)))/\
 (((0<=(au (Int.tdiv (bI.2.1.length:Int) 2)))/\ ((au (Int.tdiv (bI.2.1.length:Int) 2))<=(((Int.toNat (au (Int.tdiv (bI.2.1.length:Int) 2))):Nat):Int)))/\
 ((0<=(au (Int.tdiv (bI.2.1.length:Int) 2)))/\ ((au (Int.tdiv (bI.2.1.length:Int) 2))<=(bI.2.1.length:Int)))))))))
theorem afZ (x:(List I9×List Int)) (S:Nat->Prop) (Q:(List Int×List Int)->Prop):JD ⟨tt,Et,cf,[],[],[]⟩ Tryz.f158 (cy (.pair (.one (Ty.sl cO)) (.one (Ty.sl yi))) x) (da (.pair (.one (Ty.sl cO)) (.one (Ty.sl yi))) x++ [.hide S]) (acS (.pair (.one (Ty.sl yi)) (.one (Ty.sl yi))) S Q)=
 ((tJ x)/\ ∀y:(I3×I3),y=(gH x)->
 ((oq y)/\ ∀aB:I2,aB=(pG y)->
 ((mN x.2)/\ ∀y_2:(List Int),y_2=(xm x.2)->
 ((uF (y_2,x.1,aB.1))/\ ∀bI:(Bool×List Int×Bool),bI=(MI (y_2,x.1,aB.1))->
 (ob ((decide ((0:Int)<=(au (Int.tdiv (bI.2.1.length:Int) (2:Int)))))&&(decide ((au (Int.tdiv (bI.2.1.length:Int) (2:Int)))<=(bI.2.1.length:Int))))
 (ob ((decide ((0:Int)<=(au (Int.tdiv (bI.2.1.length:Int) (2:Int)))))&&(decide ((au (Int.tdiv (bI.2.1.length:Int) (2:Int)))<=(((Int.toNat (au (Int.tdiv (bI.2.1.length:Int) (2:Int)))):Nat):Int))))
 (ob ((decide ((0:Int)<=(au (Int.tdiv (bI.2.1.length:Int) (2:Int)))))&&(decide ((au (Int.tdiv (bI.2.1.length:Int) (2:Int)))<=(bI.2.1.length:Int))))
 ((S=S)/\
 (Q ((List.take (Int.toNat (au (Int.tdiv (bI.2.1.length:Int) (2:Int)))) bI.2.1),(List.drop (Int.toNat (au (Int.tdiv (bI.2.1.length:Int) (2:Int)))) bI.2.1))))))))))):=by kernel_rfl
theorem afX (x:(List I9×List Int)) (S:Nat->Prop) (Q:(List Int×List Int)->Prop) (hp:kR x) (hq:Q (wz x)):Vc (JD ⟨tt,Et,cf,[],[],[]⟩ Tryz.f158 (cy (.pair (.one (Ty.sl cO)) (.one (Ty.sl yi))) x) (da (.pair (.one (Ty.sl cO)) (.one (Ty.sl yi))) x++ [.hide S]) (acS (.pair (.one (Ty.sl yi)) (.one (Ty.sl yi))) S Q)):= .eq (afZ x S Q) (have hp:=Eq.mp (kR.eq_1 x) hp;have hq:=Eq.mp (congrArg Q (wz.eq_1 x)) hq;
 (And.intro hp.1 (acs (Q:=Q) hp.2 hq fun y hp hq=>(And.intro hp.1 (acs (Q:=Q) hp.2 hq fun aB hp hq=>(And.intro hp.1 (acs (Q:=Q) hp.2 hq fun y_2 hp hq=>(And.intro hp.1 (acs (Q:=Q) hp.2 hq fun bI hp hq=>(Wj (iu (decide_eq_true hp.1.1) (decide_eq_true hp.1.2)) (have hp:=hp.2;(Wj (iu (decide_eq_true hp.1.1) (decide_eq_true hp.1.2)) (have hp:=hp.2;(Wj (iu (decide_eq_true hp.1) (decide_eq_true hp.2)) (And.intro rfl hq)))))))))))))))
abbrev Ny:bF:=⟨(.pair (.one (Ty.sl cO)) (.one (Ty.sl yi))),(.pair (.one (Ty.sl yi)) (.one (Ty.sl yi))),kR,wz⟩
theorem afY:aq Tryz.prog 158 (JE Ny):=aq.fnR (fn:=Tryz.f158) bt CC mixed (by kernel_rfl) (by kernel_rfl) (.pair (.one (Ty.sl cO)) (.one (Ty.sl yi))) (.pair (.one (Ty.sl yi)) (.one (Ty.sl yi))) kR wz fun x hp S=>⟨_,_,(aH.nil _ _),aK.nil,afX x S (fun y=>y=wz x) hp rfl⟩
def RB:List (Nat×Ev.Spec):=(158,JE Ny)::Et
theorem Uc:aj Tryz.prog RB:=aA (fn:=Tryz.f158) afY CC
end Go.Proofs.YtngdehlpoomaiaaGreat
