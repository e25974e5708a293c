/- Models: what is built; what is right. -/
import Derived.Test.YtngdehlpoomaiaaGreatUb
noncomputable section
set_option linter.unusedSectionVars false
set_option linter.unusedVariables false
set_option linter.unusedSimpArgs false
namespace Go.Proofs.YtngdehlpoomaiaaGreat
open Go Go.Ev Go.Proofs
abbrev FB:Type:=(List Int×List Bool×Int×Int×Int×Int×List Int×I2)
abbrev wE:Type:=(List Int×List Bool×Int×Int×List Int×I2)
abbrev ia:Type:=(List ((I3×I3)×Int×Int×List Int)×List I9)
abbrev Up:Type:=((((I3×I3)×Int×Int×List Int)×Int)×I9)
abbrev Uq:Type:=(((I3×I3)×Int×Int×List Int)×Int)
abbrev pV:Type:=(List ((I3×I3)×Int×Int×List Int))
def XG:List (Nat×Ev.Spec):=(155,jP SH)::Et
theorem yY:aj Tryz.prog XG:=aA (fn:=Tryz.f155) ahX CC
def O5 (x:(List I9)):aI:=⟨[],⟨cj 36 0 [(5,.v (.one (.ptr 0 0))),(6,.v (.one (.ptr 1 0))),(7,.v (.one (.full 4))),(15,.v (.one (.i .i64))),(16,.v (.one (.i .i64)))],[.cells [.raw] 75,.cells [.jO 155 0 [.loc 0 0,.loc 2 0,.loc 1 0]] 203,.cells [.full 3] 202,.row cO 0,.row yi 2],0,none,[],[0,2,3],[4,1],[(.l yi),.i],[.i ((List.replicate x.length (0:Int)).length:Int),.v (.slice none 0 0),.l cO x]⟩,[⟨(.exit 1),.normal,⟨cj 36 0 [(5,.v (.one (.ptr 0 0))),(6,.v (.one (.ptr 1 0))),(7,.v (.one (.full 4)))],[.cells [.raw] 75,.cells [.jO 155 0 [.loc 0 0,.loc 2 0,.loc 1 0]] 203,.cells [.full 3] 202,.row cO 0,.row yi 2],0,none,[],[0,1],[2],[(.l yi)],[.v (.slice none 0 0),.l cO x]⟩⟩]⟩
def fX (x:(List I9)) (s:(List Int×Int)):(List Int×Int)⊕(List Int):=
 (if (s.2<((List.replicate x.length (0:Int)).length:Int)) then
 (ak (List.set s.1 s.2.toNat s.2) fun y=>
 (Sum.inl (y,(au (s.2+1))))) else
 (Sum.inr (s.1)))
def nq (x:(List I9)) (s:(List Int×Int)):Prop:=
 ((s.2<((List.replicate x.length (0:Int)).length:Int))->
 ((((0:Int)<=s.2)/\ (s.2<(s.1.length:Int)))/\
 ((s.2.toNat<s.1.length)/\
 (s.2.toNat<s.1.length))))
def Hg (x:(List I9)) (s:(List Int×Int)):Tr ((List Int×Int)⊕(List Int)) true:=
 (.i10 (s.2<(nL (List.replicate x.length z0)))
 (.A7 s.2 s.1
 (.lt (List.set s.1 (tN s.2) s.2) fun y=>
 (.ret (.inl (y,(w1 s.2))))))
 (.ret (.inr (s.1))))
def jl (x:(List I9)):(pV×Int):=
 (if ((x.length:Int)>500) then
 ([],2) else
 (ak (GU x) fun y=>
 (if ((!y)=true) then
 ([],5) else
 (ak (run (fX x) ((List.replicate x.length (0:Int)),(0:Int))) fun r=>
 (ak (ahW (r,x,[])) fun aB=>
 (aB,0))))))
def mM (x:(List I9)):Prop:=
 (¬((x.length:Int)>500)->
 ((Cx x)/\
 az (GU x) fun y=>
 (¬((!y)=true)->
 ((((x.length:Int)<=(x.length:Int))/\ (x.length<1099511627776))/\
 (Term (fX x) (nq x) ((List.replicate x.length (0:Int)),(0:Int))/\
 az (run (fX x) ((List.replicate x.length (0:Int)),(0:Int))) fun r=>
 (Gd (r,x,[])))))))
def ag8 (x:(List I9)):Tr (pV×Int) true:=
 (.wY ((nL x)>500)
 (.ret ([],2))
 (.fn Er x fun y=>
 (.gG (!y)
 (.ret ([],5))
 (.og (((decide (z0<=(nL x)))&&(decide ((nL x)<=(nL x))))&&(decide (x.length<1099511627776))) (((nL x)<=(nL x))/\ (x.length<1099511627776)) (fun h=>(iu (iu rfl (decide_eq_true h.1)) (decide_eq_true h.2)))
 (aI.lp (O5 x) (Hg x) ((List.replicate x.length z0),z0) fun r=>
 (.fnO SH (r,x,[]) fun aB=>
 (.ret (aB,z0))))))))
abbrev KJ:bF:=⟨(.one (Ty.sl cO)),(.pair (.one (Ty.sl (Ty.prod (Ty.prod aG aG) (Ty.prod yi (Ty.prod yi (Ty.sl yi)))))) (.one yi)),mM,jl⟩
theorem adK:aq Tryz.prog 140 (ah KJ):=bS KJ ag8 (fn:=Tryz.f140) yY (aH.nil _ _) (fun x=>(bX yY 1 (O5 x) (Hg x) aK.nil))
def QL:List (Nat×Ev.Spec):=(140,ah KJ)::XG
theorem Eu:aj Tryz.prog QL:=aA (fn:=Tryz.f140) adK yY
def Ol (x:((I3×I3)×I3)):Bool:=
 (ak (ta x.1) fun y=>
 (if (y=true) then
 (ak (hasB x) fun aB=>
 aB) else
 false))
def xK (x:((I3×I3)×I3)):Prop:=
 (qY x.1)
def apt (x:((I3×I3)×I3)):Tr Bool true:=
 (.fn uE x.1 fun y=>
 (.iY y
 (.fn0 Ll x trivial fun aB=>
 (.ret aB))
 (.ret false)))
abbrev Ge:bF:=⟨(.pair (.agg (Ty.prod aG aG)) (.agg aG)),(.one Ty.bool),xK,Ol⟩
theorem amn:aq Tryz.prog 167 (ah Ge):=aM Ge apt (fn:=Tryz.f167) Eu
def ac5:List (Nat×Ev.Spec):=(167,ah Ge)::QL
theorem MU:aj Tryz.prog ac5:=aA (fn:=Tryz.f167) amn Eu
def Dz (x:Uq):Bool:=
 (if ((x.1.2.1==0)=true) then
 (x.1.2.2.1==0) else
 false)
def aeO (_:Uq):Prop:=True
def amX (x:Uq):Tr Bool false:=
 (.iY (x.1.2.1==z0)
 (.ret (x.1.2.2.1==z0))
 (.ret false))
abbrev JS:bF:=⟨(.agg (Ty.prod (Ty.prod (Ty.prod aG aG) (Ty.prod yi (Ty.prod yi (Ty.sl yi)))) yi)),(.one Ty.bool),aeO,Dz⟩
theorem aiY:aq Tryz.prog 165 (ah JS):=aM JS amX (fn:=Tryz.f165) MU
def XM:List (Nat×Ev.Spec):=(165,ah JS)::ac5
theorem Ip:aj Tryz.prog XM:=aA (fn:=Tryz.f165) aiY MU
def aml (x:Up):Bool:=
 (ak (Ol (x.1.1.1,x.2.1)) fun y=>
 (if (y=true) then
 (ak (Ol (x.1.1.1,x.2.2.1)) fun aB=>
 (if (aB=true) then
 (ak (Ol (x.1.1.1,x.2.2.2)) fun y_2=>
 y_2) else
 false)) else
 false))
def VG (x:Up):Prop:=
 ((xK (x.1.1.1,x.2.1))/\
 az (Ol (x.1.1.1,x.2.1)) fun y=>
 ((y=true)->
 ((xK (x.1.1.1,x.2.2.1))/\
 az (Ol (x.1.1.1,x.2.2.1)) fun aB=>
 ((aB=true)->
 (xK (x.1.1.1,x.2.2.2))))))
def aps (x:Up):Tr Bool true:=
 (.fn Ge (x.1.1.1,x.2.1) fun y=>
 (.BQ y
 (.fn Ge (x.1.1.1,x.2.2.1) fun aB=>
 (.BQ aB
 (.fn Ge (x.1.1.1,x.2.2.2) fun y_2=>
 (.ret y_2))
 (.ret false)))
 (.ret false)))
abbrev SK:bF:=⟨(.pair (.agg (Ty.prod (Ty.prod (Ty.prod aG aG) (Ty.prod yi (Ty.prod yi (Ty.sl yi)))) yi)) (.agg cO)),(.one Ty.bool),VG,aml⟩
theorem amm:aq Tryz.prog 149 (ah SK):=aM SK aps (fn:=Tryz.f149) Ip
def ac4:List (Nat×Ev.Spec):=(149,ah SK)::XM
theorem MT:aj Tryz.prog ac4:=aA (fn:=Tryz.f149) amm Ip
def aqg (x:I2):I2:=
 ((IntKind.wrap IntKind.u32 (Int.fdiv (IntKind.wrap IntKind.u64 ((IntKind.wrap IntKind.u64 x.1)*(IntKind.wrap IntKind.u64 x.2))) 4294967296)),(IntKind.wrap IntKind.u32 (IntKind.wrap IntKind.u64 ((IntKind.wrap IntKind.u64 x.1)*(IntKind.wrap IntKind.u64 x.2)))))
def ZX (_:I2):Prop:=True
def ajc (x:I2):Tr I2 false:=
 (.ret ((IntKind.wrap IntKind.u32 (Int.fdiv (IntKind.wrap IntKind.u64 ((IntKind.wrap IntKind.u64 x.1)*(IntKind.wrap IntKind.u64 x.2))) 4294967296)),(IntKind.wrap IntKind.u32 (IntKind.wrap IntKind.u64 ((IntKind.wrap IntKind.u64 x.1)*(IntKind.wrap IntKind.u64 x.2))))))
abbrev LX:bF:=⟨(.pair (.one (Ty.int IntKind.u32)) (.one (Ty.int IntKind.u32))),(.pair (.one (Ty.int IntKind.u32)) (.one (Ty.int IntKind.u32))),ZX,aqg⟩
theorem ae3:aq Tryz.prog 210 (ah LX):=aM LX ajc (fn:=Tryz.f210) MT
def Rh:List (Nat×Ev.Spec):=(210,ah LX)::ac4
theorem ET:aj Tryz.prog Rh:=aA (fn:=Tryz.f210) ae3 MT
def ZZ (_:I2):Prop:=True
def LY (x:I2):Tr I2 false:=
 (.ret ((IntKind.wrap IntKind.u64 ((IntKind.wrap IntKind.u64 ((IntKind.wrap IntKind.u64 ((Int.fdiv x.1 4294967296)*(Int.fdiv x.2 4294967296)))+(Int.fdiv (IntKind.wrap IntKind.u64 ((IntKind.wrap IntKind.u64 ((Int.fdiv x.1 4294967296)*(IntKind.wrap IntKind.u64 (((BitVec.toNat ((BitVec.ofInt 64 x.2)&&&(BitVec.ofInt 64 4294967295))):Nat):Int))))+(Int.fdiv (IntKind.wrap IntKind.u64 ((IntKind.wrap IntKind.u64 (((BitVec.toNat ((BitVec.ofInt 64 x.1)&&&(BitVec.ofInt 64 4294967295))):Nat):Int))*(IntKind.wrap IntKind.u64 (((BitVec.toNat ((BitVec.ofInt 64 x.2)&&&(BitVec.ofInt 64 4294967295))):Nat):Int)))) 4294967296))) 4294967296)))+(Int.fdiv (IntKind.wrap IntKind.u64 ((IntKind.wrap IntKind.u64 (((BitVec.toNat ((BitVec.ofInt 64 (IntKind.wrap IntKind.u64 ((IntKind.wrap IntKind.u64 ((Int.fdiv x.1 4294967296)*(IntKind.wrap IntKind.u64 (((BitVec.toNat ((BitVec.ofInt 64 x.2)&&&(BitVec.ofInt 64 4294967295))):Nat):Int))))+(Int.fdiv (IntKind.wrap IntKind.u64 ((IntKind.wrap IntKind.u64 (((BitVec.toNat ((BitVec.ofInt 64 x.1)&&&(BitVec.ofInt 64 4294967295))):Nat):Int))*(IntKind.wrap IntKind.u64 (((BitVec.toNat ((BitVec.ofInt 64 x.2)&&&(BitVec.ofInt 64 4294967295))):Nat):Int)))) 4294967296))))&&&(BitVec.ofInt 64 4294967295))):Nat):Int))+(IntKind.wrap IntKind.u64 ((IntKind.wrap IntKind.u64 (((BitVec.toNat ((BitVec.ofInt 64 x.1)&&&(BitVec.ofInt 64 4294967295))):Nat):Int))*(Int.fdiv x.2 4294967296))))) 4294967296))),(IntKind.wrap IntKind.u64 (x.1*x.2))))
def ZY (x:I2):I2:=(LY x).val
abbrev DL:bF:=⟨(.pair (.one (Ty.int IntKind.u64)) (.one (Ty.int IntKind.u64))),(.pair (.one (Ty.int IntKind.u64)) (.one (Ty.int IntKind.u64))),ZZ,ZY⟩
theorem ae4:aq Tryz.prog 211 (ah DL):=aM DL LY (fn:=Tryz.f211) ET
def Ri:List (Nat×Ev.Spec):=(211,ah DL)::Rh
theorem EU:aj Tryz.prog Ri:=aA (fn:=Tryz.f211) ae4 ET
def U0 (x:I2):I2:=
 (ak (ZY x) fun y=>
 y)
def adI (_:I2):Prop:=True
def alG (x:I2):Tr I2 false:=
 (.fn0 DL x trivial fun y=>
 (.ret y))
abbrev Jw:bF:=⟨(.pair (.one (Ty.int IntKind.u64)) (.one (Ty.int IntKind.u64))),(.pair (.one (Ty.int IntKind.u64)) (.one (Ty.int IntKind.u64))),adI,U0⟩
theorem ag3:aq Tryz.prog 186 (ah Jw):=aM Jw alG (fn:=Tryz.f186) EU
def Xs:List (Nat×Ev.Spec):=(186,ah Jw)::Ri
theorem yS:aj Tryz.prog Xs:=aA (fn:=Tryz.f186) ag3 EU
def Mx (x:(List Int×Int)):aI:=⟨[],⟨cj 48 0 [(7,.v (.one (.full 0))),(8,.v (.one (.i .i64)))],[.row yi 2],0,none,[],[],[1,0],[(.l yi),.i],[]⟩,[⟨(.exit 0),.normal,⟨cj 48 0 [(7,.v (.one (.full 0)))],[.row yi 2],0,none,[],[],[0],[(.l yi)],[]⟩⟩]⟩
def fA (x:(List Int×Int)) (s:(List Int×Int)):Tr ((List Int×Int)⊕(List Int)) true:=
 (.i10 (s.2<(s.1.length:Int))
 (.og ((decide (0<=s.2))&&(decide (s.2<=(s.1.length:Int)))) ((0<=s.2)/\ (s.2<=(s.1.length:Int))) (fun h=>(iu (decide_eq_true h.1) (decide_eq_true h.2)))
 (.og ((decide (0<=s.2))&&(decide (s.2<=(s.1.length:Int)))) ((0<=s.2)/\ (s.2<=(s.1.length:Int))) (fun h=>(iu (decide_eq_true h.1) (decide_eq_true h.2)))
 (.lt (ke s.1 (s.2.toNat+0) (s.1.length- s.2.toNat) (List.take s.2.toNat s.1)) fun y=>
 (.ret (.inl (y,(au (s.2+(((tL (s.1.length- s.2.toNat) (List.length (List.take s.2.toNat s.1))):Nat):Int)))))))))
 (.ret (.inr (s.1))))
abbrev iJ (x:(List Int×Int)) (s:(List Int×Int)):(List Int×Int)⊕(List Int):=(fA x s).val
abbrev l8 (x:(List Int×Int)) (s:(List Int×Int)):Prop:=(fA x s).pre
def repeatM (x:(List Int×Int)):(List Int):=
 (if (x.2<0) then
 default else
 (ak (U0 ((IntKind.wrap IntKind.u64 (x.1.length:Int)),(IntKind.wrap IntKind.u64 x.2))) fun y=>
 (if (y.1>0) then
 default else
 (if (y.2>9223372036854775807) then
 default else
 (ak (ke (List.replicate (Int.toNat (au y.2)) (0:Int)) 0 (List.length (List.replicate (Int.toNat (au y.2)) (0:Int))) x.1) fun aB=>
 (ak (run (iJ x) (aB,(((tL (List.length (List.replicate (Int.toNat (au y.2)) (0:Int))) x.1.length):Nat):Int))) fun r=>
 r))))))
def sC (x:(List Int×Int)):Prop:=
 (((x.2<0)->
 False)/\
 (¬(x.2<0)->
 (az (U0 ((IntKind.wrap IntKind.u64 (x.1.length:Int)),(IntKind.wrap IntKind.u64 x.2))) fun y=>
 (((y.1>0)->
 False)/\
 (¬(y.1>0)->
 (((y.2>9223372036854775807)->
 False)/\
 (¬(y.2>9223372036854775807)->
 ((((0<=(au y.2))/\ ((au y.2)<=(au y.2)))/\ ((Int.toNat (au y.2))<1099511627776))/\
 (az (ke (List.replicate (Int.toNat (au y.2)) (0:Int)) 0 (List.length (List.replicate (Int.toNat (au y.2)) (0:Int))) x.1) fun aB=>
 (Term (iJ x) (l8 x) (aB,(((tL (List.length (List.replicate (Int.toNat (au y.2)) (0:Int))) x.1.length):Nat):Int))))))))))))
def afJ (x:(List Int×Int)):Tr (List Int) true:=
 (.i11 (x.2<z0)
 (.og false False False.elim (.ret default))
 (.fn0 Jw ((IntKind.wrap IntKind.u64 (nL x.1)),(IntKind.wrap IntKind.u64 x.2)) trivial fun y=>
 (.i11 (y.1>z0)
 (.og false False False.elim (.ret default))
 (.i11 (y.2>9223372036854775807)
 (.og false False False.elim (.ret default))
 (.og (((decide (z0<=(au y.2)))&&(decide ((au y.2)<=(au y.2))))&&(decide ((tN (au y.2))<1099511627776))) (((z0<=(au y.2))/\ ((au y.2)<=(au y.2)))/\ ((tN (au y.2))<1099511627776)) (fun h=>(iu (iu (decide_eq_true h.1.1) (decide_eq_true h.1.2)) (decide_eq_true h.2)))
 (.lt (ke (List.replicate (tN (au y.2)) z0) 0 (List.length (List.replicate (tN (au y.2)) z0)) x.1) fun aB=>
 (aI.lp (Mx x) (fA x) (aB,(((tL (List.length (List.replicate (tN (au y.2)) z0)) x.1.length):Nat):Int)) fun r=>
 (.ret r))))))))
abbrev Az:bF:=⟨(.pair (.one (Ty.sl yi)) (.one yi)),(.one (Ty.sl yi)),sC,repeatM⟩
theorem aaT:aq Tryz.prog 164 (ah Az):=bS Az afJ (fn:=Tryz.f164) yS (aH.nil _ _) (fun x=>(bX yS 0 (Mx x) (fA x) aK.nil))
def Nl:List (Nat×Ev.Spec):=(164,ah Az)::Xs
theorem tp:aj Tryz.prog Nl:=aA (fn:=Tryz.f164) aaT yS
def PF (x:(List Int×Int)):aI:=⟨[],⟨cj 19 0 [(0,.v (.one (.full 0))),(1,.v (.one (.i .i64))),(7,.v (.one (.i .i64))),(8,.v (.one (.i .i64)))],[.row yi 0],0,none,[],[0,1,3],[2],[.i],[.i x.2,.i (x.1.length:Int),.l yi x.1]⟩,[⟨.ret,.ret,⟨cj 19 0 [(4,.v (.one (.i .i64)))],[],0,none,[],[],[0],[.i],[]⟩⟩,⟨(.exit 0),.normal,⟨cj 19 0 [],[],0,none,[],[],[],[],[]⟩⟩]⟩
def ju (x:(List Int×Int)) (s:Int):Int⊕(Int⊕Unit):=
 (if (s<(x.1.length:Int)) then
 (if ((x.2==(x.1.getD s.toNat 0))=true) then
 (Sum.inr (Sum.inl s)) else
 (Sum.inl (au (s+1)))) else
 (Sum.inr (Sum.inr (()))))
def sU (x:(List Int×Int)) (s:Int):Prop:=
 ((s<(x.1.length:Int))->
 (((0<=s)/\ (s<(x.1.length:Int)))/\
 ((s.toNat<x.1.length)/\
 (s.toNat<x.1.length))))
def Hx (x:(List Int×Int)) (s:Int):Tr (Int⊕(Int⊕Unit)) true:=
 (.i10 (s<(nL x.1))
 (.A7 s x.1
 (.iY (x.2==(gI x.1 s))
 (.ret (.inr (Sum.inl s)))
 (.ret (.inl (w1 s)))))
 (.ret (.inr (Sum.inr (())))))
def ZC (x:(List Int×Int)):Int:=
 (ak (run (ju x) 0) fun r=>
 (Sum.elim (fun a=>
 a) (fun b=>
 (-1)) r))
def B9 (x:(List Int×Int)):Prop:=
 (Term (ju x) (sU x) 0)
def aiE (x:(List Int×Int)):Tr Int true:=
 (aI.lp (PF x) (Hx x) z0 fun r=>
 (.Jr r (fun a=>
 (.ret a)) (fun b=>
 (.ret (-1)))))
abbrev Ds:bF:=⟨(.pair (.one (Ty.sl yi)) (.one yi)),(.one yi),B9,ZC⟩
theorem aeC:aq Tryz.prog 187 (ah Ds):=bS Ds aiE (fn:=Tryz.f187) tp (aH.nil _ _) (fun x=>(bX tp 0 (PF x) (Hx x) aK.nil))
def Q8:List (Nat×Ev.Spec):=(187,ah Ds)::Nl
theorem EL:aj Tryz.prog Q8:=aA (fn:=Tryz.f187) aeC tp
def mQ (x:(List Int×Int)):Bool:=
 (ak (ZC x) fun y=>
 (decide (y>=0)))
def sM (x:(List Int×Int)):Prop:=
 (B9 x)
def Vf (x:(List Int×Int)):Tr Bool true:=
 (.fn Ds x fun y=>
 (.ret (decide (y>=z0))))
abbrev rK:bF:=⟨(.pair (.one (Ty.sl yi)) (.one yi)),(.one Ty.bool),sM,mQ⟩
theorem Si:aq Tryz.prog 166 (ah rK):=aM rK Vf (fn:=Tryz.f166) EL
def EC:List (Nat×Ev.Spec):=(166,ah rK)::Q8
theorem oQ:aj Tryz.prog EC:=aA (fn:=Tryz.f166) Si EL
def HN (x:pV):aI:=⟨[],⟨cj 84 0 [(0,.v (.one (.full 0))),(4,.v (.one (.full 1))),(11,.v (.one (.full 0))),(12,.v (.one (.i .i64))),(13,.v (.one (.i .i64)))],[.row (Ty.prod (Ty.prod aG aG) (Ty.prod yi (Ty.prod yi (Ty.sl yi)))) 0,.row yi 2],0,none,[],[0,2],[3,1],[(.l yi),.i],[.i (x.length:Int),.l (Ty.prod (Ty.prod aG aG) (Ty.prod yi (Ty.prod yi (Ty.sl yi)))) x]⟩,[⟨.ret,.ret,⟨cj 84 0 [(2,.v (.one (.raw))),(3,.v (.one (.b)))],[],0,none,[],[0,1],[],[],[.v (.slice none 0 0),.b false]⟩⟩,⟨(.exit 0),.normal,⟨cj 84 0 [(0,.v (.one (.full 0))),(4,.v (.one (.full 1)))],[.row (Ty.prod (Ty.prod aG aG) (Ty.prod yi (Ty.prod yi (Ty.sl yi)))) 0,.row yi 2],0,none,[],[0],[1],[(.l yi)],[.l (Ty.prod (Ty.prod aG aG) (Ty.prod yi (Ty.prod yi (Ty.sl yi)))) x]⟩⟩]⟩
def cU (x:pV) (s:(List Int×Int)):Tr ((List Int×Int)⊕(Unit⊕(List Int))) true:=
 (.i10 (s.2<(x.length:Int))
 (.oR s.2 (x.length:Int)
 (.od (s.2.toNat<x.length)
 (.od (s.2.toNat<x.length)
 (.fn0 JS ((x.getD s.2.toNat ((bn,bn),0,0,[])),s.2) trivial fun y=>
 (.gG y
 (.ret (.inl (s.1,(au (s.2+1)))))
 (.wY (((x.getD s.2.toNat ((bn,bn),0,0,[])).2.2.2.length:Int)>0)
 (.ret (.inr (Sum.inl ())))
 (.gG ((x.getD s.2.toNat ((bn,bn),0,0,[])).2.1 !=(au (s.2+1)))
 (.ret (.inr (Sum.inl ())))
 (.wY ((x.getD s.2.toNat ((bn,bn),0,0,[])).2.2.1<=(x.getD s.2.toNat ((bn,bn),0,0,[])).2.1)
 (.ret (.inr (Sum.inl ())))
 (.wY ((x.getD s.2.toNat ((bn,bn),0,0,[])).2.2.1>=(x.length:Int))
 (.ret (.inr (Sum.inl ())))
 (.oR (x.getD s.2.toNat ((bn,bn),0,0,[])).2.1 (s.1.length:Int)
 (.od ((Int.toNat (x.getD s.2.toNat ((bn,bn),0,0,[])).2.1)<s.1.length)
 (.od ((Int.toNat (x.getD s.2.toNat ((bn,bn),0,0,[])).2.1)<s.1.length)
 (.wY ((s.1.getD (Int.toNat (x.getD s.2.toNat ((bn,bn),0,0,[])).2.1) 0)>=0)
 (.ret (.inr (Sum.inl ())))
 (.oR (x.getD s.2.toNat ((bn,bn),0,0,[])).2.2.1 (s.1.length:Int)
 (.od ((Int.toNat (x.getD s.2.toNat ((bn,bn),0,0,[])).2.2.1)<s.1.length)
 (.od ((Int.toNat (x.getD s.2.toNat ((bn,bn),0,0,[])).2.2.1)<s.1.length)
 (.wY ((s.1.getD (Int.toNat (x.getD s.2.toNat ((bn,bn),0,0,[])).2.2.1) 0)>=0)
 (.ret (.inr (Sum.inl ())))
 (.oR (x.getD s.2.toNat ((bn,bn),0,0,[])).2.1 (s.1.length:Int)
 (.od ((Int.toNat (x.getD s.2.toNat ((bn,bn),0,0,[])).2.1)<s.1.length)
 (.od ((Int.toNat (x.getD s.2.toNat ((bn,bn),0,0,[])).2.1)<s.1.length)
 (.lt (List.set s.1 (Int.toNat (x.getD s.2.toNat ((bn,bn),0,0,[])).2.1) s.2) fun aB=>
 (.oR (x.getD s.2.toNat ((bn,bn),0,0,[])).2.2.1 (aB.length:Int)
 (.od ((Int.toNat (x.getD s.2.toNat ((bn,bn),0,0,[])).2.2.1)<aB.length)
 (.od ((Int.toNat (x.getD s.2.toNat ((bn,bn),0,0,[])).2.2.1)<aB.length)
 (.lt (List.set aB (Int.toNat (x.getD s.2.toNat ((bn,bn),0,0,[])).2.2.1) s.2) fun y_2=>
 (.ret (.inl (y_2,(au (s.2+1))))))))))))))))))))))))))))))
 (.ret (.inr (Sum.inr (s.1)))))
abbrev dz (x:pV) (s:(List Int×Int)):(List Int×Int)⊕(Unit⊕(List Int)):=(cU x s).val
abbrev iE (x:pV) (s:(List Int×Int)):Prop:=(cU x s).pre
def yo (x:pV):(List Int×Bool):=
 (ak (repeatM ([(-1)],(x.length:Int))) fun y=>
 (ak (run (dz x) (y,0)) fun r=>
 (Sum.elim (fun a=>
 ([],false)) (fun b=>
 (if ((x.length:Int)>0) then
 (ak (mQ ((List.drop 1 b),(-1))) fun aB=>
 (b,(!aB))) else
 (b,false))) r)))
def pJ (x:pV):Prop:=
 ((sC ([(-1)],(x.length:Int)))/\
 az (repeatM ([(-1)],(x.length:Int))) fun y=>
 (Term (dz x) (iE x) (y,0)/\
 az (run (dz x) (y,0)) fun r=>
 (cS r (fun a=>
 True) (fun b=>
 (((x.length:Int)>0)->
 ((1<=(b.length:Int))/\
 (sM ((List.drop 1 b),(-1)))))))))
def Z7 (x:pV):Tr (List Int×Bool) true:=
 (.fn Az ([(-1)],(nL x)) fun y=>
 (aI.lp (HN x) (cU x) (y,z0) fun r=>
 (.s01 r (fun a=>
 (.ret ([],false))) (fun b=>
 (.i10 ((nL x)>z0)
 (.og (true&&(decide (z1<=(nL b)))) (z1<=(nL b)) (fun h=>(iu rfl (decide_eq_true h)))
 (.fn rK ((List.drop 1 b),(-1)) fun aB=>
 (.ret (b,(!aB)))))
 (.ret (b,false)))))))
abbrev vB:bF:=⟨(.one (Ty.sl (Ty.prod (Ty.prod aG aG) (Ty.prod yi (Ty.prod yi (Ty.sl yi)))))),(.pair (.one (Ty.sl yi)) (.one Ty.bool)),pJ,yo⟩
theorem Wr:aq Tryz.prog 148 (ah vB):=bS vB Z7 (fn:=Tryz.f148) oQ (aH.nil _ _) (fun x=>(bX oQ 0 (HN x) (cU x) aK.nil))
def Iu:List (Nat×Ev.Spec):=(148,ah vB)::EC
theorem q7:aj Tryz.prog Iu:=aA (fn:=Tryz.f148) Wr oQ
def Pz (x:(List Bool×Bool)):aI:=⟨[],⟨cj 19 0 [(0,.v (.one (.full 0))),(1,.v (.one (.b))),(7,.v (.one (.i .i64))),(8,.v (.one (.i .i64)))],[.row Ty.bool 0],0,none,[],[0,1,3],[2],[.i],[.b x.2,.i (x.1.length:Int),.l Ty.bool x.1]⟩,[⟨.ret,.ret,⟨cj 19 0 [(4,.v (.one (.i .i64)))],[],0,none,[],[],[0],[.i],[]⟩⟩,⟨(.exit 0),.normal,⟨cj 19 0 [],[],0,none,[],[],[],[],[]⟩⟩]⟩
def jr (x:(List Bool×Bool)) (s:Int):Int⊕(Int⊕Unit):=
 (if (s<(x.1.length:Int)) then
 (if ((x.2==(x.1.getD s.toNat false))=true) then
 (Sum.inr (Sum.inl s)) else
 (Sum.inl (au (s+1)))) else
 (Sum.inr (Sum.inr (()))))
def sR (x:(List Bool×Bool)) (s:Int):Prop:=
 ((s<(x.1.length:Int))->
 (((0<=s)/\ (s<(x.1.length:Int)))/\
 ((s.toNat<x.1.length)/\
 (s.toNat<x.1.length))))
def Hv (x:(List Bool×Bool)) (s:Int):Tr (Int⊕(Int⊕Unit)) true:=
 (.i10 (s<(nL x.1))
 (.A7 s x.1
 (.iY (x.2==(gT x.1 s false))
 (.ret (.inr (Sum.inl s)))
 (.ret (.inl (w1 s)))))
 (.ret (.inr (Sum.inr (())))))
def Zy (x:(List Bool×Bool)):Int:=
 (ak (run (jr x) 0) fun r=>
 (Sum.elim (fun a=>
 a) (fun b=>
 (-1)) r))
def LB (x:(List Bool×Bool)):Prop:=
 (Term (jr x) (sR x) 0)
def aiA (x:(List Bool×Bool)):Tr Int true:=
 (aI.lp (Pz x) (Hv x) z0 fun r=>
 (.Jr r (fun a=>
 (.ret a)) (fun b=>
 (.ret (-1)))))
abbrev Dr:bF:=⟨(.pair (.one (Ty.sl Ty.bool)) (.one Ty.bool)),(.one yi),LB,Zy⟩
theorem aeA:aq Tryz.prog 168 (ah Dr):=bS Dr aiA (fn:=Tryz.f168) q7 (aH.nil _ _) (fun x=>(bX q7 0 (Pz x) (Hv x) aK.nil))
def Q5:List (Nat×Ev.Spec):=(168,ah Dr)::Iu
theorem EI:aj Tryz.prog Q5:=aA (fn:=Tryz.f168) aeA q7
def mO (x:(List Bool×Bool)):Bool:=
 (ak (Zy x) fun y=>
 (decide (y>=0)))
def sL (x:(List Bool×Bool)):Prop:=
 (LB x)
def Vb (x:(List Bool×Bool)):Tr Bool true:=
 (.fn Dr x fun y=>
 (.ret (decide (y>=z0))))
abbrev rI:bF:=⟨(.pair (.one (Ty.sl Ty.bool)) (.one Ty.bool)),(.one Ty.bool),sL,mO⟩
theorem Sg:aq Tryz.prog 150 (ah rI):=aM rI Vb (fn:=Tryz.f150) EI
def Ez:List (Nat×Ev.Spec):=(150,ah rI)::Q5
theorem iK:aj Tryz.prog Ez:=aA (fn:=Tryz.f150) Sg EI
def aiO (x:ia):aI:=⟨[],⟨cj 78 0 [(0,.v (.one (.full 0))),(1,.v (.one (.full 1))),(5,.v (.one (.full 2))),(7,.v (.one (.full 3))),(8,.v (.one (.i .i64))),(11,.v (.one (.i .i64))),(12,.v (.one (.i .i64))),(23,.v (.one (.full 0))),(24,.v (.one (.i .i64))),(25,.v (.one (.i .i64))),(31,.v (.one (.full 4))),(32,.v (.one (.i .i64))),(33,.v (.one (.i .i64)))],[.row (Ty.prod (Ty.prod aG aG) (Ty.prod yi (Ty.prod yi (Ty.sl yi)))) 0,.row cO 0,.row yi 2,.row Ty.bool 2,.row yi 0],0,none,[],[3,7,8],[9,10,0,1,2,4,11,5,6],[(.l yi),(.l Ty.bool),.i,.i,.i,.i,(.l yi),.i,.i],[.i (x.1.length:Int),.l (Ty.prod (Ty.prod aG aG) (Ty.prod yi (Ty.prod yi (Ty.sl yi)))) x.1,.l cO x.2]⟩,[⟨.ret,.ret,⟨cj 78 0 [(4,.v (.one (.b)))],[],0,none,[],[0],[],[],[.b false]⟩⟩,⟨(.exit 4),.normal,⟨cj 78 0 [(0,.v (.one (.full 0))),(1,.v (.one (.full 1))),(5,.v (.one (.full 2))),(7,.v (.one (.full 3))),(8,.v (.one (.i .i64))),(23,.v (.one (.full 0))),(24,.v (.one (.i .i64))),(25,.v (.one (.i .i64))),(31,.v (.one (.full 4))),(32,.v (.one (.i .i64))),(33,.v (.one (.i .i64)))],[.row (Ty.prod (Ty.prod aG aG) (Ty.prod yi (Ty.prod yi (Ty.sl yi)))) 0,.row cO 0,.row yi 2,.row Ty.bool 2,.row yi 0],0,none,[],[1,5,6],[7,8,0,2,9,3,4],[(.l yi),(.l Ty.bool),.i,.i,(.l yi),.i,.i],[.i (x.1.length:Int),.l (Ty.prod (Ty.prod aG aG) (Ty.prod yi (Ty.prod yi (Ty.sl yi)))) x.1,.l cO x.2]⟩⟩]⟩
def om (x:ia) (s:FB):Tr (FB⊕(Unit⊕wE)) true:=
 (.i10 (s.2.2.2.2.1>=0)
 (.oR s.2.2.2.2.1 (x.1.length:Int)
 (.od (s.2.2.2.2.1.toNat<x.1.length)
 (.od (s.2.2.2.2.1.toNat<x.1.length)
 (.oR s.2.2.2.1 (x.2.length:Int)
 (.od (s.2.2.2.1.toNat<x.2.length)
 (.od (s.2.2.2.1.toNat<x.2.length)
 (.fn SK (((x.1.getD s.2.2.2.2.1.toNat ((bn,bn),0,0,[])),s.2.2.2.2.1),(x.2.getD s.2.2.2.1.toNat Ju)) fun y=>
 (.gG (!y)
 (.ret (.inr (Sum.inl ())))
 (.oR s.2.2.2.2.1 (s.1.length:Int)
 (.od (s.2.2.2.2.1.toNat<s.1.length)
 (.od (s.2.2.2.2.1.toNat<s.1.length)
 (.ret (.inl (s.1,s.2.1,s.2.2.1,s.2.2.2.1,(s.1.getD s.2.2.2.2.1.toNat 0),s.2.2.2.2.2.1,s.2.2.2.2.2.2.1,s.2.2.2.2.2.2.2.1,s.2.2.2.2.2.2.2.2))))))))))))))
 (.ret (.inr (Sum.inr ((s.1,s.2.1,s.2.2.1,s.2.2.2.2.2.1,s.2.2.2.2.2.2.1,s.2.2.2.2.2.2.2.1,s.2.2.2.2.2.2.2.2))))))
abbrev oh (x:ia) (s:FB):FB⊕(Unit⊕wE):=(om x s).val
abbrev vo (x:ia) (s:FB):Prop:=(om x s).pre
def aiN (x:ia):aI:=⟨[],⟨cj 78 0 [(0,.v (.one (.full 0))),(1,.v (.one (.full 1))),(5,.v (.one (.full 2))),(7,.v (.one (.full 3))),(8,.v (.one (.i .i64))),(23,.v (.one (.full 0))),(24,.v (.one (.i .i64))),(25,.v (.one (.i .i64))),(31,.v (.one (.full 4))),(32,.v (.one (.i .i64))),(33,.v (.one (.i .i64)))],[.row (Ty.prod (Ty.prod aG aG) (Ty.prod yi (Ty.prod yi (Ty.sl yi)))) 0,.row cO 0,.row yi 2,.row Ty.bool 2,.row yi 0],0,none,[],[1,5,6],[7,8,0,2,9,3,4],[(.l yi),(.l Ty.bool),.i,.i,(.l yi),.i,.i],[.i (x.1.length:Int),.l (Ty.prod (Ty.prod aG aG) (Ty.prod yi (Ty.prod yi (Ty.sl yi)))) x.1,.l cO x.2]⟩,[⟨.ret,.ret,⟨cj 78 0 [(4,.v (.one (.b)))],[],0,none,[],[0],[],[],[.b false]⟩⟩,⟨(.exit 2),.normal,⟨cj 78 0 [(0,.v (.one (.full 0))),(1,.v (.one (.full 1))),(5,.v (.one (.full 2))),(7,.v (.one (.full 3))),(23,.v (.one (.full 0))),(24,.v (.one (.i .i64))),(25,.v (.one (.i .i64)))],[.row (Ty.prod (Ty.prod aG aG) (Ty.prod yi (Ty.prod yi (Ty.sl yi)))) 0,.row cO 0,.row yi 2,.row Ty.bool 2],0,none,[],[0,2,3],[4,5,1],[(.l yi),(.l Ty.bool),.i],[.i (x.1.length:Int),.l (Ty.prod (Ty.prod aG aG) (Ty.prod yi (Ty.prod yi (Ty.sl yi)))) x.1,.l cO x.2]⟩⟩]⟩
def oe (x:ia) (s:wE):wE⊕(Unit⊕(List Int×List Bool×Int)):=
 (if (s.2.2.2.2.2.2<s.2.2.2.2.2.1) then
 (if ((s.2.2.2.2.1.getD s.2.2.2.2.2.2.toNat 0)<0) then
 (Sum.inr (Sum.inl ())) else
 (if ((s.2.2.2.2.1.getD s.2.2.2.2.2.2.toNat 0)>=(x.2.length:Int)) then
 (Sum.inr (Sum.inl ())) else
 (if ((s.2.1.getD (Int.toNat (s.2.2.2.2.1.getD s.2.2.2.2.2.2.toNat 0)) false)=true) then
 (Sum.inr (Sum.inl ())) else
 (ak (List.set s.2.1 (Int.toNat (s.2.2.2.2.1.getD s.2.2.2.2.2.2.toNat 0)) true) fun y=>
 (ak (run (oh x) (s.1,y,s.2.2.1,(s.2.2.2.2.1.getD s.2.2.2.2.2.2.toNat 0),s.2.2.1,s.2.2.2.1,s.2.2.2.2.1,s.2.2.2.2.2.1,s.2.2.2.2.2.2)) fun r=>
 (Sum.elim (fun a=>
 (Sum.inr (Sum.inl ()))) (fun b=>
 (Sum.inl (b.1,b.2.1,b.2.2.1,b.2.2.2.1,b.2.2.2.2.1,b.2.2.2.2.2.1,(au (b.2.2.2.2.2.2+1))))) r)))))) else
 (Sum.inr (Sum.inr ((s.1,s.2.1,s.2.2.2.1)))))
def vn (x:ia) (s:wE):Prop:=
 ((s.2.2.2.2.2.2<s.2.2.2.2.2.1)->
 (((0<=s.2.2.2.2.2.2)/\ (s.2.2.2.2.2.2<(s.2.2.2.2.1.length:Int)))/\
 ((s.2.2.2.2.2.2.toNat<s.2.2.2.2.1.length)/\
 ((s.2.2.2.2.2.2.toNat<s.2.2.2.2.1.length)/\
 (¬((s.2.2.2.2.1.getD s.2.2.2.2.2.2.toNat 0)<0)->
 (¬((s.2.2.2.2.1.getD s.2.2.2.2.2.2.toNat 0)>=(x.2.length:Int))->
 (((0<=(s.2.2.2.2.1.getD s.2.2.2.2.2.2.toNat 0))/\ ((s.2.2.2.2.1.getD s.2.2.2.2.2.2.toNat 0)<(s.2.1.length:Int)))/\
 (((Int.toNat (s.2.2.2.2.1.getD s.2.2.2.2.2.2.toNat 0))<s.2.1.length)/\
 (((Int.toNat (s.2.2.2.2.1.getD s.2.2.2.2.2.2.toNat 0))<s.2.1.length)/\
 (¬((s.2.1.getD (Int.toNat (s.2.2.2.2.1.getD s.2.2.2.2.2.2.toNat 0)) false)=true)->
 (((0<=(s.2.2.2.2.1.getD s.2.2.2.2.2.2.toNat 0))/\ ((s.2.2.2.2.1.getD s.2.2.2.2.2.2.toNat 0)<(s.2.1.length:Int)))/\
 (((Int.toNat (s.2.2.2.2.1.getD s.2.2.2.2.2.2.toNat 0))<s.2.1.length)/\
 (((Int.toNat (s.2.2.2.2.1.getD s.2.2.2.2.2.2.toNat 0))<s.2.1.length)/\
 (az (List.set s.2.1 (Int.toNat (s.2.2.2.2.1.getD s.2.2.2.2.2.2.toNat 0)) true) fun y=>
 (Term (oh x) (vo x) (s.1,y,s.2.2.1,(s.2.2.2.2.1.getD s.2.2.2.2.2.2.toNat 0),s.2.2.1,s.2.2.2.1,s.2.2.2.2.1,s.2.2.2.2.2.1,s.2.2.2.2.2.2))))))))))))))))
def VZ (x:ia) (s:wE):Tr (wE⊕(Unit⊕(List Int×List Bool×Int))) true:=
 (.i10 (s.2.2.2.2.2.2<s.2.2.2.2.2.1)
 (.A7 s.2.2.2.2.2.2 s.2.2.2.2.1
 (.wY ((gI s.2.2.2.2.1 s.2.2.2.2.2.2)<z0)
 (.ret (.inr (Sum.inl ())))
 (.wY ((gI s.2.2.2.2.1 s.2.2.2.2.2.2)>=(nL x.2))
 (.ret (.inr (Sum.inl ())))
 (.A7 (gI s.2.2.2.2.1 s.2.2.2.2.2.2) s.2.1
 (.gG (gT s.2.1 (gI s.2.2.2.2.1 s.2.2.2.2.2.2) false)
 (.ret (.inr (Sum.inl ())))
 (.A7 (gI s.2.2.2.2.1 s.2.2.2.2.2.2) s.2.1
 (.lt (List.set s.2.1 (tN (gI s.2.2.2.2.1 s.2.2.2.2.2.2)) true) fun y=>
 (aI.lp (aiO x) (om x) (s.1,y,s.2.2.1,(gI s.2.2.2.2.1 s.2.2.2.2.2.2),s.2.2.1,s.2.2.2.1,s.2.2.2.2.1,s.2.2.2.2.2.1,s.2.2.2.2.2.2) fun r=>
 (.Jr r (fun a=>
 (.ret (.inr (Sum.inl ())))) (fun b=>
 (.ret (.inl (b.1,b.2.1,b.2.2.1,b.2.2.2.1,b.2.2.2.2.1,b.2.2.2.2.2.1,(w1 b.2.2.2.2.2.2))))))))))))))
 (.ret (.inr (Sum.inr ((s.1,s.2.1,s.2.2.2.1))))))
def aiM (x:ia):aI:=⟨[],⟨cj 78 0 [(0,.v (.one (.full 0))),(1,.v (.one (.full 1))),(5,.v (.one (.full 2))),(7,.v (.one (.full 3))),(23,.v (.one (.full 0))),(24,.v (.one (.i .i64))),(25,.v (.one (.i .i64)))],[.row (Ty.prod (Ty.prod aG aG) (Ty.prod yi (Ty.prod yi (Ty.sl yi)))) 0,.row cO 0,.row yi 2,.row Ty.bool 2],0,none,[],[0,2,3],[4,5,1],[(.l yi),(.l Ty.bool),.i],[.i (x.1.length:Int),.l (Ty.prod (Ty.prod aG aG) (Ty.prod yi (Ty.prod yi (Ty.sl yi)))) x.1,.l cO x.2]⟩,[⟨.ret,.ret,⟨cj 78 0 [(4,.v (.one (.b)))],[],0,none,[],[0],[],[],[.b false]⟩⟩,⟨(.exit 0),.normal,⟨cj 78 0 [(7,.v (.one (.full 0)))],[.row Ty.bool 2],0,none,[],[],[0],[(.l Ty.bool)],[]⟩⟩]⟩
def lf (x:ia) (s:(List Int×List Bool×Int)):(List Int×List Bool×Int)⊕(Unit⊕(List Bool)):=
 (if (s.2.2<(x.1.length:Int)) then
 (ak (run (oe x) (s.1,s.2.1,s.2.2,s.2.2,(x.1.getD s.2.2.toNat (((0,0,0),0,0,0),0,0,[])).2.2.2,((x.1.getD s.2.2.toNat (((0,0,0),0,0,0),0,0,[])).2.2.2.length:Int),0)) fun r=>
 (Sum.elim (fun a=>
 (Sum.inr (Sum.inl ()))) (fun b=>
 (Sum.inl (b.1,b.2.1,(au (b.2.2+1))))) r)) else
 (Sum.inr (Sum.inr (s.2.1))))
def vm (x:ia) (s:(List Int×List Bool×Int)):Prop:=
 ((s.2.2<(x.1.length:Int))->
 (((0<=s.2.2)/\ (s.2.2<(x.1.length:Int)))/\
 ((s.2.2.toNat<x.1.length)/\
 ((s.2.2.toNat<x.1.length)/\
 (Term (oe x) (vn x) (s.1,s.2.1,s.2.2,s.2.2,(x.1.getD s.2.2.toNat (((0,0,0),0,0,0),0,0,[])).2.2.2,((x.1.getD s.2.2.toNat (((0,0,0),0,0,0),0,0,[])).2.2.2.length:Int),0))))))
def VY (x:ia) (s:(List Int×List Bool×Int)):Tr ((List Int×List Bool×Int)⊕(Unit⊕(List Bool))) true:=
 (.i10 (s.2.2<(nL x.1))
 (.A7 s.2.2 x.1
 (aI.lp (aiN x) (VZ x) (s.1,s.2.1,s.2.2,s.2.2,(gT x.1 s.2.2 ((bn,bn),z0,z0,[])).2.2.2,(nL (gT x.1 s.2.2 ((bn,bn),z0,z0,[])).2.2.2),z0) fun r=>
 (.Jr r (fun a=>
 (.ret (.inr (Sum.inl ())))) (fun b=>
 (.ret (.inl (b.1,b.2.1,(w1 b.2.2))))))))
 (.ret (.inr (Sum.inr (s.2.1)))))
def isT (x:ia):Bool:=
 (ak (yo x.1) fun y=>
 (if ((!y.2)=true) then
 false else
 (ak (run (lf x) (y.1,(List.replicate x.2.length false),(0:Int))) fun r=>
 (Sum.elim (fun a=>
 false) (fun b=>
 (ak (mO (b,false)) fun aB=>
 (!aB))) r))))
def S1 (x:ia):Prop:=
 ((pJ x.1)/\
 az (yo x.1) fun y=>
 (¬((!y.2)=true)->
 ((((x.2.length:Int)<=(x.2.length:Int))/\ (x.2.length<1099511627776))/\
 (Term (lf x) (vm x) (y.1,(List.replicate x.2.length false),(0:Int))/\
 az (run (lf x) (y.1,(List.replicate x.2.length false),(0:Int))) fun r=>
 (cS r (fun a=>
 True) (fun b=>
 (sL (b,false))))))))
def asE (x:ia):Tr Bool true:=
 (.fn vB x.1 fun y=>
 (.gG (!y.2)
 (.ret false)
 (.og (((decide (z0<=(nL x.2)))&&(decide ((nL x.2)<=(nL x.2))))&&(decide (x.2.length<1099511627776))) (((nL x.2)<=(nL x.2))/\ (x.2.length<1099511627776)) (fun h=>(iu (iu rfl (decide_eq_true h.1)) (decide_eq_true h.2)))
 (aI.lp (aiM x) (VY x) (y.1,(List.replicate x.2.length false),z0) fun r=>
 (.s01 r (fun a=>
 (.ret false)) (fun b=>
 (.fn rI (b,false) fun aB=>
 (.ret (!aB)))))))))
abbrev aco:bF:=⟨(.pair (.one (Ty.sl (Ty.prod (Ty.prod aG aG) (Ty.prod yi (Ty.prod yi (Ty.sl yi)))))) (.one (Ty.sl cO))),(.one Ty.bool),S1,isT⟩
theorem ap6:aq Tryz.prog 137 (ah aco):=bS aco asE (fn:=Tryz.f137) iK (aH.nil _ _) (fun x=>(bX iK 0 (aiM x) (VY x) (bX iK 2 (aiN x) (VZ x) (bX iK 4 (aiO x) (om x) aK.nil))))
def aki:List (Nat×Ev.Spec):=(137,ah aco)::Ez
theorem Rb:aj Tryz.prog aki:=aA (fn:=Tryz.f137) ap6 iK
end Go.Proofs.YtngdehlpoomaiaaGreat
