/- Models: what is built; what is right. -/
import Derived.Test.YtngdehlpoomaiaaGreatUb
noncomputable section
set_option linter.unusedSectionVars false
set_option linter.unusedVariables false
set_option linter.unusedSimpArgs false
namespace Go.Proofs.YtngdehlpoomaiaaGreat
open Go Go.Ev Go.Proofs
abbrev A8:Type:=(List Int×List Bool×Int×Int×Int×Int×List Int×I2)
abbrev sZ:Type:=(List Int×List Bool×Int×Int×List Int×I2)
abbrev fT:Type:=(List ((I3×I3)×Int×Int×List Int)×List I9)
abbrev M1:Type:=((((I3×I3)×Int×Int×List Int)×Int)×I9)
abbrev M3:Type:=(((I3×I3)×Int×Int×List Int)×Int)
abbrev nE:Type:=(List ((I3×I3)×Int×Int×List Int))
def P5:List (Nat×Ev.Spec):=(155,iQ L4)::Ap
theorem vy:ah Tryz.prog P5:=ah.add (fn:=Tryz.f155) (by kernel_rfl) Zw yB
def I8 (x:(List I9)):aK:=⟨[],⟨di 36 0 [(5,.v (.one (.ptr 0 0))),(6,.v (.one (.ptr 1 0))),(7,.v (.one (.full 4))),(15,.v (.one (.i .i64))),(16,.v (.one (.i .i64)))],[.cells [.raw] 75,.cells [.iP 155 0 [.loc 0 0,.loc 2 0,.loc 1 0]] 203,.cells [.full 3] 202,.row dF 0,.row yi 2],0,none,[],[0,2,3],[4,1],[(.l yi),.i],[.i ((List.replicate x.length (0:Int)).length:Int),.v (.slice none 0 0),.l dF x]⟩,[⟨(.exit 1),.normal,⟨di 36 0 [(5,.v (.one (.ptr 0 0))),(6,.v (.one (.ptr 1 0))),(7,.v (.one (.full 4)))],[.cells [.raw] 75,.cells [.iP 155 0 [.loc 0 0,.loc 2 0,.loc 1 0]] 203,.cells [.full 3] 202,.row dF 0,.row yi 2],0,none,[],[0,1],[2],[(.l yi)],[.v (.slice none 0 0),.l dF x]⟩⟩]⟩
def fh (x:(List I9)) (s:(List Int×Int)):(List Int×Int)⊕(List Int):=
 (if (s.2<((List.replicate x.length (0:Int)).length:Int)) then
 (aq (List.set s.1 s.2.toNat s.2) fun y=>
 (Sum.inl (y,(av (s.2+1))))) else
 (Sum.inr (s.1)))
def lI (x:(List I9)) (s:(List Int×Int)):Prop:=
 ((s.2<((List.replicate x.length (0:Int)).length:Int))->
 ((((0:Int)<=s.2)/\ (s.2<(s.1.length:Int)))/\
 ((s.2.toNat<s.1.length)/\
 (s.2.toNat<s.1.length))))
def Cu (x:(List I9)) (s:(List Int×Int)):Tr ((List Int×Int)⊕(List Int)) true:=
 (.i10 (s.2<(nL (List.replicate x.length z0)))
 (.mS s.2 s.1
 (.lt (List.set s.1 (tN s.2) s.2) fun y=>
 (.ret (.inl (y,(w1 s.2))))))
 (.ret (.inr (s.1))))
def ig (x:(List I9)):(nE×Int):=
 (if ((x.length:Int)>500) then
 ([],2) else
 (aq (Cb x) fun y=>
 (if ((!y)=true) then
 ([],5) else
 (aq (run (fh x) ((List.replicate x.length (0:Int)),(0:Int))) fun r=>
 (aq (Zv (r,x,[])) fun aB=>
 (aB,0))))))
def kS (x:(List I9)):Prop:=
 (¬((x.length:Int)>500)->
 ((yw x)/\
 aC (Cb x) fun y=>
 (¬((!y)=true)->
 ((((x.length:Int)<=(x.length:Int))/\ (x.length<1099511627776))/\
 (Term (fh x) (lI x) ((List.replicate x.length (0:Int)),(0:Int))/\
 aC (run (fh x) ((List.replicate x.length (0:Int)),(0:Int))) fun r=>
 (BJ (r,x,[])))))))
def YG (x:(List I9)):Tr (nE×Int) true:=
 (.FN ((nL x)>500)
 (.ret ([],2))
 (.fn Am x fun y=>
 (.nM (!y)
 (.ret ([],5))
 (.og (((decide (z0<=(nL x)))&&(decide ((nL x)<=(nL x))))&&(decide (x.length<1099511627776))) (((nL x)<=(nL x))/\ (x.length<1099511627776)) (fun h=>(gV (gV rfl (decide_eq_true h.1)) (decide_eq_true h.2)))
 (aK.lp (I8 x) (Cu x) ((List.replicate x.length z0),z0) fun r=>
 (.fnO L4 (r,x,[]) fun aB=>
 (.ret (aB,z0))))))))
abbrev EV:bY:=⟨(.one (Ty.sl dF)),(.pair (.one (Ty.sl (Ty.prod (Ty.prod aM aM) (Ty.prod yi (Ty.prod yi (Ty.sl yi)))))) (.one yi)),kS,ig⟩
theorem Vx:ai Tryz.prog 140 (ak EV):=ai.tr EV YG (fn:=Tryz.f140) aA vy mixed (by kernel_rfl) (ax.nil _ _) (fun x=>(ay.tr aA (ah.dX vy (ax.nil _ _)) mixed 1 (I8 x) (Cu x) ay.nil (by kernel_rfl) fun g s Q=>(by kernel_rfl))) (fun x=>(by kernel_rfl)) fun x Q=>(by kernel_rfl)
def Ku:List (Nat×Ev.Spec):=(140,ak EV)::P5
theorem Aq:ah Tryz.prog Ku:=ah.add (fn:=Tryz.f140) (by kernel_rfl) Vx vy
def Iv (x:((I3×I3)×I3)):Bool:=
 (aq (qy x.1) fun y=>
 (if (y=true) then
 (aq (hasB x) fun aB=>
 aB) else
 false))
def uv (x:((I3×I3)×I3)):Prop:=
 (oL x.1)
def ag3 (x:((I3×I3)×I3)):Tr Bool true:=
 (.fn rf x.1 fun y=>
 (.qH y
 (.fn0 FA x trivial fun aB=>
 (.ret aB))
 (.ret false)))
abbrev BK:bY:=⟨(.pair (.agg (Ty.prod aM aM)) (.agg aM)),(.one Ty.bool),uv,Iv⟩
theorem adX:ai Tryz.prog 167 (ak BK):=ai.tr BK ag3 (fn:=Tryz.f167) aA Aq mixed (by kernel_rfl) (ax.nil _ _) (fun x=>ay.nil) (fun x=>(by kernel_rfl)) fun x Q=>(by kernel_rfl)
def UQ:List (Nat×Ev.Spec):=(167,ak BK)::Ku
theorem G0:ah Tryz.prog UQ:=ah.add (fn:=Tryz.f167) (by kernel_rfl) adX Aq
def uS (x:M3):Bool:=
 (if ((x.1.2.1==0)=true) then
 (x.1.2.2.1==0) else
 false)
def WI (_:M3):Prop:=True
def aeC (x:M3):Tr Bool false:=
 (.qH (x.1.2.1==z0)
 (.ret (x.1.2.2.1==z0))
 (.ret false))
abbrev D9:bY:=⟨(.agg (Ty.prod (Ty.prod (Ty.prod aM aM) (Ty.prod yi (Ty.prod yi (Ty.sl yi)))) yi)),(.one Ty.bool),WI,uS⟩
theorem aax:ai Tryz.prog 165 (ak D9):=ai.tr D9 aeC (fn:=Tryz.f165) aA G0 mixed (by kernel_rfl) (ax.nil _ _) (fun x=>ay.nil) (fun x=>(by kernel_rfl)) fun x Q=>(by kernel_rfl)
def Qb:List (Nat×Ev.Spec):=(165,ak D9)::UQ
theorem Da:ah Tryz.prog Qb:=ah.add (fn:=Tryz.f165) (by kernel_rfl) aax G0
def Wf (x:M1):Bool:=
 (aq (Iv (x.1.1.1,x.2.1)) fun y=>
 (if (y=true) then
 (aq (Iv (x.1.1.1,x.2.2.1)) fun aB=>
 (if (aB=true) then
 (aq (Iv (x.1.1.1,x.2.2.2)) fun y_2=>
 y_2) else
 false)) else
 false))
def FB (x:M1):Prop:=
 ((uv (x.1.1.1,x.2.1))/\
 aC (Iv (x.1.1.1,x.2.1)) fun y=>
 ((y=true)->
 ((uv (x.1.1.1,x.2.2.1))/\
 aC (Iv (x.1.1.1,x.2.2.1)) fun aB=>
 ((aB=true)->
 (uv (x.1.1.1,x.2.2.2))))))
def ag2 (x:M1):Tr Bool true:=
 (.fn BK (x.1.1.1,x.2.1) fun y=>
 (.Dw y
 (.fn BK (x.1.1.1,x.2.2.1) fun aB=>
 (.Dw aB
 (.fn BK (x.1.1.1,x.2.2.2) fun y_2=>
 (.ret y_2))
 (.ret false)))
 (.ret false)))
abbrev L6:bY:=⟨(.pair (.agg (Ty.prod (Ty.prod (Ty.prod aM aM) (Ty.prod yi (Ty.prod yi (Ty.sl yi)))) yi)) (.agg dF)),(.one Ty.bool),FB,Wf⟩
theorem adW:ai Tryz.prog 149 (ak L6):=ai.tr L6 ag2 (fn:=Tryz.f149) aA Da mixed (by kernel_rfl) (ax.nil _ _) (fun x=>ay.nil) (fun x=>(by kernel_rfl)) fun x Q=>(by kernel_rfl)
def UP:List (Nat×Ev.Spec):=(149,ak L6)::Qb
theorem GZ:ah Tryz.prog UP:=ah.add (fn:=Tryz.f149) (by kernel_rfl) adW Da
def ahO (x:I2):I2:=
 ((IntKind.wrap IntKind.u32 (Int.fdiv (IntKind.wrap IntKind.u64 ((IntKind.wrap IntKind.u64 x.1)*(IntKind.wrap IntKind.u64 x.2))) 4294967296)),(IntKind.wrap IntKind.u32 (IntKind.wrap IntKind.u64 ((IntKind.wrap IntKind.u64 x.1)*(IntKind.wrap IntKind.u64 x.2)))))
def Si (_:I2):Prop:=True
def aaM (x:I2):Tr I2 false:=
 (.ret ((IntKind.wrap IntKind.u32 (Int.fdiv (IntKind.wrap IntKind.u64 ((IntKind.wrap IntKind.u64 x.1)*(IntKind.wrap IntKind.u64 x.2))) 4294967296)),(IntKind.wrap IntKind.u32 (IntKind.wrap IntKind.u64 ((IntKind.wrap IntKind.u64 x.1)*(IntKind.wrap IntKind.u64 x.2))))))
abbrev Gb:bY:=⟨(.pair (.one (Ty.int IntKind.u32)) (.one (Ty.int IntKind.u32))),(.pair (.one (Ty.int IntKind.u32)) (.one (Ty.int IntKind.u32))),Si,ahO⟩
theorem WZ:ai Tryz.prog 210 (ak Gb):=ai.tr Gb aaM (fn:=Tryz.f210) aA GZ mixed (by kernel_rfl) (ax.nil _ _) (fun x=>ay.nil) (fun x=>(by kernel_rfl)) fun x Q=>(by kernel_rfl)
def KW:List (Nat×Ev.Spec):=(210,ak Gb)::UP
theorem AR:ah Tryz.prog KW:=ah.add (fn:=Tryz.f210) (by kernel_rfl) WZ GZ
def Sj (x:I2):I2:=
 ((IntKind.wrap IntKind.u64 ((IntKind.wrap IntKind.u64 ((IntKind.wrap IntKind.u64 ((Int.fdiv x.1 4294967296)*(Int.fdiv x.2 4294967296)))+(Int.fdiv (IntKind.wrap IntKind.u64 ((IntKind.wrap IntKind.u64 ((Int.fdiv x.1 4294967296)*(IntKind.wrap IntKind.u64 (((BitVec.toNat ((BitVec.ofInt 64 x.2)&&&(BitVec.ofInt 64 4294967295))):Nat):Int))))+(Int.fdiv (IntKind.wrap IntKind.u64 ((IntKind.wrap IntKind.u64 (((BitVec.toNat ((BitVec.ofInt 64 x.1)&&&(BitVec.ofInt 64 4294967295))):Nat):Int))*(IntKind.wrap IntKind.u64 (((BitVec.toNat ((BitVec.ofInt 64 x.2)&&&(BitVec.ofInt 64 4294967295))):Nat):Int)))) 4294967296))) 4294967296)))+(Int.fdiv (IntKind.wrap IntKind.u64 ((IntKind.wrap IntKind.u64 (((BitVec.toNat ((BitVec.ofInt 64 (IntKind.wrap IntKind.u64 ((IntKind.wrap IntKind.u64 ((Int.fdiv x.1 4294967296)*(IntKind.wrap IntKind.u64 (((BitVec.toNat ((BitVec.ofInt 64 x.2)&&&(BitVec.ofInt 64 4294967295))):Nat):Int))))+(Int.fdiv (IntKind.wrap IntKind.u64 ((IntKind.wrap IntKind.u64 (((BitVec.toNat ((BitVec.ofInt 64 x.1)&&&(BitVec.ofInt 64 4294967295))):Nat):Int))*(IntKind.wrap IntKind.u64 (((BitVec.toNat ((BitVec.ofInt 64 x.2)&&&(BitVec.ofInt 64 4294967295))):Nat):Int)))) 4294967296))))&&&(BitVec.ofInt 64 4294967295))):Nat):Int))+(IntKind.wrap IntKind.u64 ((IntKind.wrap IntKind.u64 (((BitVec.toNat ((BitVec.ofInt 64 x.1)&&&(BitVec.ofInt 64 4294967295))):Nat):Int))*(Int.fdiv x.2 4294967296))))) 4294967296))),(IntKind.wrap IntKind.u64 (x.1*x.2)))
def Sk (_:I2):Prop:=True
abbrev af9 (x:I2):=(IntKind.wrap IntKind.u64 ((IntKind.wrap IntKind.u64 ((Int.fdiv x.1 (4294967296:Int))*(IntKind.wrap IntKind.u64 (((BitVec.toNat ((BitVec.ofInt 64 x.2)&&&(BitVec.ofInt 64 (4294967295:Int)))):Nat):Int))))+(Int.fdiv (IntKind.wrap IntKind.u64 ((IntKind.wrap IntKind.u64 (((BitVec.toNat ((BitVec.ofInt 64 x.1)&&&(BitVec.ofInt 64 (4294967295:Int)))):Nat):Int))*(IntKind.wrap IntKind.u64 (((BitVec.toNat ((BitVec.ofInt 64 x.2)&&&(BitVec.ofInt 64 (4294967295:Int)))):Nat):Int)))) (4294967296:Int))))
def aaN (x:I2):Tr I2 false:=
 (.ret ((IntKind.wrap IntKind.u64 ((IntKind.wrap IntKind.u64 ((IntKind.wrap IntKind.u64 ((Int.fdiv x.1 4294967296)*(Int.fdiv x.2 4294967296)))+(Int.fdiv (af9 x) 4294967296)))+(Int.fdiv (IntKind.wrap IntKind.u64 ((IntKind.wrap IntKind.u64 (((BitVec.toNat ((BitVec.ofInt 64 (af9 x))&&&(BitVec.ofInt 64 4294967295))):Nat):Int))+(IntKind.wrap IntKind.u64 ((IntKind.wrap IntKind.u64 (((BitVec.toNat ((BitVec.ofInt 64 x.1)&&&(BitVec.ofInt 64 4294967295))):Nat):Int))*(Int.fdiv x.2 4294967296))))) 4294967296))),(IntKind.wrap IntKind.u64 (x.1*x.2))))
abbrev zX:bY:=⟨(.pair (.one (Ty.int IntKind.u64)) (.one (Ty.int IntKind.u64))),(.pair (.one (Ty.int IntKind.u64)) (.one (Ty.int IntKind.u64))),Sk,Sj⟩
theorem W0:ai Tryz.prog 211 (ak zX):=ai.tr zX aaN (fn:=Tryz.f211) aA AR mixed (by kernel_rfl) (ax.nil _ _) (fun x=>ay.nil) (fun x=>(by kernel_rfl)) fun x Q=>(by kernel_rfl)
def KX:List (Nat×Ev.Spec):=(211,ak zX)::KW
theorem AT:ah Tryz.prog KX:=ah.add (fn:=Tryz.f211) (by kernel_rfl) W0 AR
def NF (x:I2):I2:=
 (aq (Sj x) fun y=>
 y)
def Vv (_:I2):Prop:=True
def ac7 (x:I2):Tr I2 false:=
 (.fn0 zX x trivial fun y=>
 (.ret y))
abbrev DL:bY:=⟨(.pair (.one (Ty.int IntKind.u64)) (.one (Ty.int IntKind.u64))),(.pair (.one (Ty.int IntKind.u64)) (.one (Ty.int IntKind.u64))),Vv,NF⟩
theorem YB:ai Tryz.prog 186 (ak DL):=ai.tr DL ac7 (fn:=Tryz.f186) aA AT mixed (by kernel_rfl) (ax.nil _ _) (fun x=>ay.nil) (fun x=>(by kernel_rfl)) fun x Q=>(by kernel_rfl)
def PG:List (Nat×Ev.Spec):=(186,ak DL)::KX
theorem vq:ah Tryz.prog PG:=ah.add (fn:=Tryz.f186) (by kernel_rfl) YB AT
def Gu (x:(List Int×Int)):aK:=⟨[],⟨di 48 0 [(7,.v (.one (.full 0))),(8,.v (.one (.i .i64)))],[.row yi 2],0,none,[],[],[1,0],[(.l yi),.i],[]⟩,[⟨(.exit 0),.normal,⟨di 48 0 [(7,.v (.one (.full 0)))],[.row yi 2],0,none,[],[],[0],[(.l yi)],[]⟩⟩]⟩
def gq (x:(List Int×Int)) (s:(List Int×Int)):(List Int×Int)⊕(List Int):=
 (if (s.2<(s.1.length:Int)) then
 (aq (iX s.1 (s.2.toNat+0) (s.1.length- s.2.toNat) (List.take s.2.toNat s.1)) fun y=>
 (Sum.inl (y,(av (s.2+(((pG (s.1.length- s.2.toNat) (List.length (List.take s.2.toNat s.1))):Nat):Int)))))) else
 (Sum.inr (s.1)))
def ko (x:(List Int×Int)) (s:(List Int×Int)):Prop:=
 ((s.2<(s.1.length:Int))->
 (((0<=s.2)/\ (s.2<=(s.1.length:Int)))/\
 ((0<=s.2)/\ (s.2<=(s.1.length:Int)))))
def Ac (x:(List Int×Int)) (s:(List Int×Int)):Tr ((List Int×Int)⊕(List Int)) true:=
 (.i10 (s.2<(nL s.1))
 (.og ((decide (z0<=s.2))&&(decide (s.2<=(nL s.1)))) ((z0<=s.2)/\ (s.2<=(nL s.1))) (fun h=>(gV (decide_eq_true h.1) (decide_eq_true h.2)))
 (.og ((decide (z0<=s.2))&&(decide (s.2<=(nL s.1)))) ((z0<=s.2)/\ (s.2<=(nL s.1))) (fun h=>(gV (decide_eq_true h.1) (decide_eq_true h.2)))
 (.lt (iX s.1 ((tN s.2)+0) (s.1.length- (tN s.2)) (List.take (tN s.2) s.1)) fun y=>
 (.ret (.inl (y,(av (s.2+(((pG (s.1.length- (tN s.2)) (List.length (List.take (tN s.2) s.1))):Nat):Int)))))))))
 (.ret (.inr (s.1))))
def repeatM (x:(List Int×Int)):(List Int):=
 (if (x.2<0) then
 default else
 (aq (NF ((IntKind.wrap IntKind.u64 (x.1.length:Int)),(IntKind.wrap IntKind.u64 x.2))) fun y=>
 (if (y.1>0) then
 default else
 (if (y.2>9223372036854775807) then
 default else
 (aq (iX (List.replicate (Int.toNat (av y.2)) (0:Int)) 0 (List.length (List.replicate (Int.toNat (av y.2)) (0:Int))) x.1) fun aB=>
 (aq (run (gq x) (aB,(((pG (List.length (List.replicate (Int.toNat (av y.2)) (0:Int))) x.1.length):Nat):Int))) fun r=>
 r))))))
def p9 (x:(List Int×Int)):Prop:=
 (((x.2<0)->
 False)/\
 (¬(x.2<0)->
 (aC (NF ((IntKind.wrap IntKind.u64 (x.1.length:Int)),(IntKind.wrap IntKind.u64 x.2))) fun y=>
 (((y.1>0)->
 False)/\
 (¬(y.1>0)->
 (((y.2>9223372036854775807)->
 False)/\
 (¬(y.2>9223372036854775807)->
 ((((0<=(av y.2))/\ ((av y.2)<=(av y.2)))/\ ((Int.toNat (av y.2))<1099511627776))/\
 (aC (iX (List.replicate (Int.toNat (av y.2)) (0:Int)) 0 (List.length (List.replicate (Int.toNat (av y.2)) (0:Int))) x.1) fun aB=>
 (Term (gq x) (ko x) (aB,(((pG (List.length (List.replicate (Int.toNat (av y.2)) (0:Int))) x.1.length):Nat):Int))))))))))))
def Xg (x:(List Int×Int)):Tr (List Int) true:=
 (.i11 (x.2<z0)
 (.og false False False.elim (.ret default))
 (.fn0 DL ((IntKind.wrap IntKind.u64 (nL x.1)),(IntKind.wrap IntKind.u64 x.2)) trivial fun y=>
 (.i11 (y.1>z0)
 (.og false False False.elim (.ret default))
 (.i11 (y.2>9223372036854775807)
 (.og false False False.elim (.ret default))
 (.og (((decide (z0<=(av y.2)))&&(decide ((av y.2)<=(av y.2))))&&(decide ((tN (av y.2))<1099511627776))) (((z0<=(av y.2))/\ ((av y.2)<=(av y.2)))/\ ((tN (av y.2))<1099511627776)) (fun h=>(gV (gV (decide_eq_true h.1.1) (decide_eq_true h.1.2)) (decide_eq_true h.2)))
 (.lt (iX (List.replicate (tN (av y.2)) z0) 0 (List.length (List.replicate (tN (av y.2)) z0)) x.1) fun aB=>
 (aK.lp (Gu x) (Ac x) (aB,(((pG (List.length (List.replicate (tN (av y.2)) z0)) x.1.length):Nat):Int)) fun r=>
 (.ret r))))))))
abbrev wN:bY:=⟨(.pair (.one (Ty.sl yi)) (.one yi)),(.one (Ty.sl yi)),p9,repeatM⟩
theorem SF:ai Tryz.prog 164 (ak wN):=ai.tr wN Xg (fn:=Tryz.f164) aA vq mixed (by kernel_rfl) (ax.nil _ _) (fun x=>(ay.tr aA (ah.dX vq (ax.nil _ _)) mixed 0 (Gu x) (Ac x) ay.nil (by kernel_rfl) fun g s Q=>(by kernel_rfl))) (fun x=>(by kernel_rfl)) fun x Q=>(by kernel_rfl)
def Hj:List (Nat×Ev.Spec):=(164,ak wN)::PG
theorem qB:ah Tryz.prog Hj:=ah.add (fn:=Tryz.f164) (by kernel_rfl) SF vq
def JD (x:(List Int×Int)):aK:=⟨[],⟨di 19 0 [(0,.v (.one (.full 0))),(1,.v (.one (.i .i64))),(7,.v (.one (.i .i64))),(8,.v (.one (.i .i64)))],[.row yi 0],0,none,[],[0,1,3],[2],[.i],[.i x.2,.i (x.1.length:Int),.l yi x.1]⟩,[⟨.ret,.ret,⟨di 19 0 [(4,.v (.one (.i .i64)))],[],0,none,[],[],[0],[.i],[]⟩⟩,⟨(.exit 0),.normal,⟨di 19 0 [],[],0,none,[],[],[],[],[]⟩⟩]⟩
def iA (x:(List Int×Int)) (s:Int):Int⊕(Int⊕Unit):=
 (if (s<(x.1.length:Int)) then
 (if ((x.2==(x.1.getD s.toNat 0))=true) then
 (Sum.inr (Sum.inl s)) else
 (Sum.inl (av (s+1)))) else
 (Sum.inr (Sum.inr (()))))
def qp (x:(List Int×Int)) (s:Int):Prop:=
 ((s<(x.1.length:Int))->
 (((0<=s)/\ (s<(x.1.length:Int)))/\
 ((s.toNat<x.1.length)/\
 (s.toNat<x.1.length))))
def CG (x:(List Int×Int)) (s:Int):Tr (Int⊕(Int⊕Unit)) true:=
 (.i10 (s<(nL x.1))
 (.mS s x.1
 (.qH (x.2==(gI x.1 s))
 (.ret (.inr (Sum.inl s)))
 (.ret (.inl (w1 s)))))
 (.ret (.inr (Sum.inr (())))))
def RX (x:(List Int×Int)):Int:=
 (aq (run (iA x) 0) fun r=>
 (Sum.elim (fun a=>
 a) (fun b=>
 (-1)) r))
def yb (x:(List Int×Int)):Prop:=
 (Term (iA x) (qp x) 0)
def aad (x:(List Int×Int)):Tr Int true:=
 (aK.lp (JD x) (CG x) z0 fun r=>
 (.MK r (fun a=>
 (.ret a)) (fun b=>
 (.ret (-1)))))
abbrev zD:bY:=⟨(.pair (.one (Ty.sl yi)) (.one yi)),(.one yi),yb,RX⟩
theorem Wu:ai Tryz.prog 187 (ak zD):=ai.tr zD aad (fn:=Tryz.f187) aA qB mixed (by kernel_rfl) (ax.nil _ _) (fun x=>(ay.tr aA (ah.dX qB (ax.nil _ _)) mixed 0 (JD x) (CG x) ay.nil (by kernel_rfl) fun g s Q=>(by kernel_rfl))) (fun x=>(by kernel_rfl)) fun x Q=>(by kernel_rfl)
def KM:List (Nat×Ev.Spec):=(187,ak zD)::Hj
theorem AJ:ah Tryz.prog KM:=ah.add (fn:=Tryz.f187) (by kernel_rfl) Wu qB
def kX (x:(List Int×Int)):Bool:=
 (aq (RX x) fun y=>
 (decide (y>=0)))
def qj (x:(List Int×Int)):Prop:=
 (yb x)
def NR (x:(List Int×Int)):Tr Bool true:=
 (.fn zD x fun y=>
 (.ret (decide (y>=z0))))
abbrev pD:bY:=⟨(.pair (.one (Ty.sl yi)) (.one yi)),(.one Ty.bool),qj,kX⟩
theorem LM:ai Tryz.prog 166 (ak pD):=ai.tr pD NR (fn:=Tryz.f166) aA AJ mixed (by kernel_rfl) (ax.nil _ _) (fun x=>ay.nil) (fun x=>(by kernel_rfl)) fun x Q=>(by kernel_rfl)
def Ay:List (Nat×Ev.Spec):=(166,ak pD)::KM
theorem mO:ah Tryz.prog Ay:=ah.add (fn:=Tryz.f166) (by kernel_rfl) LM AJ
def CU (x:nE):aK:=⟨[],⟨di 84 0 [(0,.v (.one (.full 0))),(4,.v (.one (.full 1))),(11,.v (.one (.full 0))),(12,.v (.one (.i .i64))),(13,.v (.one (.i .i64)))],[.row (Ty.prod (Ty.prod aM aM) (Ty.prod yi (Ty.prod yi (Ty.sl yi)))) 0,.row yi 2],0,none,[],[0,2],[3,1],[(.l yi),.i],[.i (x.length:Int),.l (Ty.prod (Ty.prod aM aM) (Ty.prod yi (Ty.prod yi (Ty.sl yi)))) x]⟩,[⟨.ret,.ret,⟨di 84 0 [(2,.v (.one (.raw))),(3,.v (.one (.b)))],[],0,none,[],[0,1],[],[],[.v (.slice none 0 0),.b false]⟩⟩,⟨(.exit 0),.normal,⟨di 84 0 [(0,.v (.one (.full 0))),(4,.v (.one (.full 1)))],[.row (Ty.prod (Ty.prod aM aM) (Ty.prod yi (Ty.prod yi (Ty.sl yi)))) 0,.row yi 2],0,none,[],[0],[1],[(.l yi)],[.l (Ty.prod (Ty.prod aM aM) (Ty.prod yi (Ty.prod yi (Ty.sl yi)))) x]⟩⟩]⟩
def c7 (x:nE) (s:(List Int×Int)):(List Int×Int)⊕(Unit⊕(List Int)):=
 (if (s.2<(x.length:Int)) then
 (aq (uS ((x.getD s.2.toNat (((0,0,0),0,0,0),0,0,[])),s.2)) fun y=>
 (if (y=true) then
 (Sum.inl (s.1,(av (s.2+1)))) else
 (if (((x.getD s.2.toNat (((0,0,0),0,0,0),0,0,[])).2.2.2.length:Int)>0) then
 (Sum.inr (Sum.inl ())) else
 (if (((x.getD s.2.toNat (((0,0,0),0,0,0),0,0,[])).2.1 !=(av (s.2+1)))=true) then
 (Sum.inr (Sum.inl ())) else
 (if ((x.getD s.2.toNat (((0,0,0),0,0,0),0,0,[])).2.2.1<=(x.getD s.2.toNat (((0,0,0),0,0,0),0,0,[])).2.1) then
 (Sum.inr (Sum.inl ())) else
 (if ((x.getD s.2.toNat (((0,0,0),0,0,0),0,0,[])).2.2.1>=(x.length:Int)) then
 (Sum.inr (Sum.inl ())) else
 (if ((s.1.getD (Int.toNat (x.getD s.2.toNat (((0,0,0),0,0,0),0,0,[])).2.1) 0)>=0) then
 (Sum.inr (Sum.inl ())) else
 (if ((s.1.getD (Int.toNat (x.getD s.2.toNat (((0,0,0),0,0,0),0,0,[])).2.2.1) 0)>=0) then
 (Sum.inr (Sum.inl ())) else
 (aq (List.set s.1 (Int.toNat (x.getD s.2.toNat (((0,0,0),0,0,0),0,0,[])).2.1) s.2) fun aB=>
 (aq (List.set aB (Int.toNat (x.getD s.2.toNat (((0,0,0),0,0,0),0,0,[])).2.2.1) s.2) fun y_2=>
 (Sum.inl (y_2,(av (s.2+1)))))))))))))) else
 (Sum.inr (Sum.inr (s.1))))
def gl (x:nE) (s:(List Int×Int)):Prop:=
 ((s.2<(x.length:Int))->
 (((0<=s.2)/\ (s.2<(x.length:Int)))/\
 ((s.2.toNat<x.length)/\
 ((s.2.toNat<x.length)/\
 (aC (uS ((x.getD s.2.toNat (((0,0,0),0,0,0),0,0,[])),s.2)) fun y=>
 (¬(y=true)->
 (¬(((x.getD s.2.toNat (((0,0,0),0,0,0),0,0,[])).2.2.2.length:Int)>0)->
 (¬(((x.getD s.2.toNat (((0,0,0),0,0,0),0,0,[])).2.1 !=(av (s.2+1)))=true)->
 (¬((x.getD s.2.toNat (((0,0,0),0,0,0),0,0,[])).2.2.1<=(x.getD s.2.toNat (((0,0,0),0,0,0),0,0,[])).2.1)->
 (¬((x.getD s.2.toNat (((0,0,0),0,0,0),0,0,[])).2.2.1>=(x.length:Int))->
 (((0<=(x.getD s.2.toNat (((0,0,0),0,0,0),0,0,[])).2.1)/\ ((x.getD s.2.toNat (((0,0,0),0,0,0),0,0,[])).2.1<(s.1.length:Int)))/\
 (((Int.toNat (x.getD s.2.toNat (((0,0,0),0,0,0),0,0,[])).2.1)<s.1.length)/\
 (((Int.toNat (x.getD s.2.toNat (((0,0,0),0,0,0),0,0,[])).2.1)<s.1.length)/\
 (¬((s.1.getD (Int.toNat (x.getD s.2.toNat (((0,0,0),0,0,0),0,0,[])).2.1) 0)>=0)->
 (((0<=(x.getD s.2.toNat (((0,0,0),0,0,0),0,0,[])).2.2.1)/\ ((x.getD s.2.toNat (((0,0,0),0,0,0),0,0,[])).2.2.1<(s.1.length:Int)))/\
 (((Int.toNat (x.getD s.2.toNat (((0,0,0),0,0,0),0,0,[])).2.2.1)<s.1.length)/\
 (((Int.toNat (x.getD s.2.toNat (((0,0,0),0,0,0),0,0,[])).2.2.1)<s.1.length)/\
 (¬((s.1.getD (Int.toNat (x.getD s.2.toNat (((0,0,0),0,0,0),0,0,[])).2.2.1) 0)>=0)->
 (((0<=(x.getD s.2.toNat (((0,0,0),0,0,0),0,0,[])).2.1)/\ ((x.getD s.2.toNat (((0,0,0),0,0,0),0,0,[])).2.1<(s.1.length:Int)))/\
 (((Int.toNat (x.getD s.2.toNat (((0,0,0),0,0,0),0,0,[])).2.1)<s.1.length)/\
 (((Int.toNat (x.getD s.2.toNat (((0,0,0),0,0,0),0,0,[])).2.1)<s.1.length)/\
 (aC (List.set s.1 (Int.toNat (x.getD s.2.toNat (((0,0,0),0,0,0),0,0,[])).2.1) s.2) fun aB=>
 (((0<=(x.getD s.2.toNat (((0,0,0),0,0,0),0,0,[])).2.2.1)/\ ((x.getD s.2.toNat (((0,0,0),0,0,0),0,0,[])).2.2.1<(aB.length:Int)))/\
 (((Int.toNat (x.getD s.2.toNat (((0,0,0),0,0,0),0,0,[])).2.2.1)<aB.length)/\
 ((Int.toNat (x.getD s.2.toNat (((0,0,0),0,0,0),0,0,[])).2.2.1)<aB.length)))))))))))))))))))))))))
def xx (x:nE) (s:(List Int×Int)):Tr ((List Int×Int)⊕(Unit⊕(List Int))) true:=
 (.i10 (s.2<(nL x))
 (.mS s.2 x
 (.fn0 D9 ((gT x s.2 ((bX,bX),z0,z0,[])),s.2) trivial fun y=>
 (.nM y
 (.ret (.inl (s.1,(w1 s.2))))
 (.FN ((nL (gT x s.2 ((bX,bX),z0,z0,[])).2.2.2)>z0)
 (.ret (.inr (Sum.inl ())))
 (.nM ((gT x s.2 ((bX,bX),z0,z0,[])).2.1 !=(w1 s.2))
 (.ret (.inr (Sum.inl ())))
 (.FN ((gT x s.2 ((bX,bX),z0,z0,[])).2.2.1<=(gT x s.2 ((bX,bX),z0,z0,[])).2.1)
 (.ret (.inr (Sum.inl ())))
 (.FN ((gT x s.2 ((bX,bX),z0,z0,[])).2.2.1>=(nL x))
 (.ret (.inr (Sum.inl ())))
 (.mS (gT x s.2 ((bX,bX),z0,z0,[])).2.1 s.1
 (.FN ((gI s.1 (gT x s.2 ((bX,bX),z0,z0,[])).2.1)>=z0)
 (.ret (.inr (Sum.inl ())))
 (.mS (gT x s.2 ((bX,bX),z0,z0,[])).2.2.1 s.1
 (.FN ((gI s.1 (gT x s.2 ((bX,bX),z0,z0,[])).2.2.1)>=z0)
 (.ret (.inr (Sum.inl ())))
 (.mS (gT x s.2 ((bX,bX),z0,z0,[])).2.1 s.1
 (.lt (List.set s.1 (tN (gT x s.2 ((bX,bX),z0,z0,[])).2.1) s.2) fun aB=>
 (.mS (gT x s.2 ((bX,bX),z0,z0,[])).2.2.1 aB
 (.lt (List.set aB (tN (gT x s.2 ((bX,bX),z0,z0,[])).2.2.1) s.2) fun y_2=>
 (.ret (.inl (y_2,(w1 s.2)))))))))))))))))))
 (.ret (.inr (Sum.inr (s.1)))))
def ve (x:nE):(List Int×Bool):=
 (aq (repeatM ([(-1)],(x.length:Int))) fun y=>
 (aq (run (c7 x) (y,0)) fun r=>
 (Sum.elim (fun a=>
 ([],false)) (fun b=>
 (if ((x.length:Int)>0) then
 (aq (kX ((List.drop 1 b),(-1))) fun aB=>
 (b,(!aB))) else
 (b,false))) r)))
def nk (x:nE):Prop:=
 ((p9 ([(-1)],(x.length:Int)))/\
 aC (repeatM ([(-1)],(x.length:Int))) fun y=>
 (Term (c7 x) (gl x) (y,0)/\
 aC (run (c7 x) (y,0)) fun r=>
 (cS r (fun a=>
 True) (fun b=>
 (((x.length:Int)>0)->
 ((1<=(b.length:Int))/\
 (qj ((List.drop 1 b),(-1)))))))))
def Sv (x:nE):Tr (List Int×Bool) true:=
 (.fn wN ([(-1)],(nL x)) fun y=>
 (aK.lp (CU x) (xx x) (y,z0) fun r=>
 (.s01 r (fun a=>
 (.ret ([],false))) (fun b=>
 (.i10 ((nL x)>z0)
 (.og (true&&(decide (z1<=(nL b)))) (z1<=(nL b)) (fun h=>(gV rfl (decide_eq_true h)))
 (.fn pD ((List.drop 1 b),(-1)) fun aB=>
 (.ret (b,(!aB)))))
 (.ret (b,false)))))))
abbrev sC:bY:=⟨(.one (Ty.sl (Ty.prod (Ty.prod aM aM) (Ty.prod yi (Ty.prod yi (Ty.sl yi)))))),(.pair (.one (Ty.sl yi)) (.one Ty.bool)),nk,ve⟩
theorem Pc:ai Tryz.prog 148 (ak sC):=ai.tr sC Sv (fn:=Tryz.f148) aA mO mixed (by kernel_rfl) (ax.nil _ _) (fun x=>(ay.tr aA (ah.dX mO (ax.nil _ _)) mixed 0 (CU x) (xx x) ay.nil (by kernel_rfl) fun g s Q=>(by kernel_rfl))) (fun x=>(by kernel_rfl)) fun x Q=>(by kernel_rfl)
def De:List (Nat×Ev.Spec):=(148,ak sC)::Ay
theorem oO:ah Tryz.prog De:=ah.add (fn:=Tryz.f148) (by kernel_rfl) Pc mO
def Jz (x:(List Bool×Bool)):aK:=⟨[],⟨di 19 0 [(0,.v (.one (.full 0))),(1,.v (.one (.b))),(7,.v (.one (.i .i64))),(8,.v (.one (.i .i64)))],[.row Ty.bool 0],0,none,[],[0,1,3],[2],[.i],[.b x.2,.i (x.1.length:Int),.l Ty.bool x.1]⟩,[⟨.ret,.ret,⟨di 19 0 [(4,.v (.one (.i .i64)))],[],0,none,[],[],[0],[.i],[]⟩⟩,⟨(.exit 0),.normal,⟨di 19 0 [],[],0,none,[],[],[],[],[]⟩⟩]⟩
def iy (x:(List Bool×Bool)) (s:Int):Int⊕(Int⊕Unit):=
 (if (s<(x.1.length:Int)) then
 (if ((x.2==(x.1.getD s.toNat false))=true) then
 (Sum.inr (Sum.inl s)) else
 (Sum.inl (av (s+1)))) else
 (Sum.inr (Sum.inr (()))))
def qn (x:(List Bool×Bool)) (s:Int):Prop:=
 ((s<(x.1.length:Int))->
 (((0<=s)/\ (s<(x.1.length:Int)))/\
 ((s.toNat<x.1.length)/\
 (s.toNat<x.1.length))))
def CC (x:(List Bool×Bool)) (s:Int):Tr (Int⊕(Int⊕Unit)) true:=
 (.i10 (s<(nL x.1))
 (.mS s x.1
 (.qH (x.2==(gT x.1 s false))
 (.ret (.inr (Sum.inl s)))
 (.ret (.inl (w1 s)))))
 (.ret (.inr (Sum.inr (())))))
def RS (x:(List Bool×Bool)):Int:=
 (aq (run (iy x) 0) fun r=>
 (Sum.elim (fun a=>
 a) (fun b=>
 (-1)) r))
def FP (x:(List Bool×Bool)):Prop:=
 (Term (iy x) (qn x) 0)
def Z7 (x:(List Bool×Bool)):Tr Int true:=
 (aK.lp (Jz x) (CC x) z0 fun r=>
 (.MK r (fun a=>
 (.ret a)) (fun b=>
 (.ret (-1)))))
abbrev zC:bY:=⟨(.pair (.one (Ty.sl Ty.bool)) (.one Ty.bool)),(.one yi),FP,RS⟩
theorem Ws:ai Tryz.prog 168 (ak zC):=ai.tr zC Z7 (fn:=Tryz.f168) aA oO mixed (by kernel_rfl) (ax.nil _ _) (fun x=>(ay.tr aA (ah.dX oO (ax.nil _ _)) mixed 0 (Jz x) (CC x) ay.nil (by kernel_rfl) fun g s Q=>(by kernel_rfl))) (fun x=>(by kernel_rfl)) fun x Q=>(by kernel_rfl)
def KJ:List (Nat×Ev.Spec):=(168,ak zC)::De
theorem AG:ah Tryz.prog KJ:=ah.add (fn:=Tryz.f168) (by kernel_rfl) Ws oO
def kV (x:(List Bool×Bool)):Bool:=
 (aq (RS x) fun y=>
 (decide (y>=0)))
def qh (x:(List Bool×Bool)):Prop:=
 (FP x)
def NN (x:(List Bool×Bool)):Tr Bool true:=
 (.fn zC x fun y=>
 (.ret (decide (y>=z0))))
abbrev pC:bY:=⟨(.pair (.one (Ty.sl Ty.bool)) (.one Ty.bool)),(.one Ty.bool),qh,kV⟩
theorem LK:ai Tryz.prog 150 (ak pC):=ai.tr pC NN (fn:=Tryz.f150) aA AG mixed (by kernel_rfl) (ax.nil _ _) (fun x=>ay.nil) (fun x=>(by kernel_rfl)) fun x Q=>(by kernel_rfl)
def Av:List (Nat×Ev.Spec):=(150,ak pC)::KJ
theorem gu:ah Tryz.prog Av:=ah.add (fn:=Tryz.f150) (by kernel_rfl) LK AG
def aan (x:fT):aK:=⟨[],⟨di 78 0 [(0,.v (.one (.full 0))),(1,.v (.one (.full 1))),(5,.v (.one (.full 2))),(7,.v (.one (.full 3))),(8,.v (.one (.i .i64))),(11,.v (.one (.i .i64))),(12,.v (.one (.i .i64))),(23,.v (.one (.full 0))),(24,.v (.one (.i .i64))),(25,.v (.one (.i .i64))),(31,.v (.one (.full 4))),(32,.v (.one (.i .i64))),(33,.v (.one (.i .i64)))],[.row (Ty.prod (Ty.prod aM aM) (Ty.prod yi (Ty.prod yi (Ty.sl yi)))) 0,.row dF 0,.row yi 2,.row Ty.bool 2,.row yi 0],0,none,[],[3,7,8],[9,10,0,1,2,4,11,5,6],[(.l yi),(.l Ty.bool),.i,.i,.i,.i,(.l yi),.i,.i],[.i (x.1.length:Int),.l (Ty.prod (Ty.prod aM aM) (Ty.prod yi (Ty.prod yi (Ty.sl yi)))) x.1,.l dF x.2]⟩,[⟨.ret,.ret,⟨di 78 0 [(4,.v (.one (.b)))],[],0,none,[],[0],[],[],[.b false]⟩⟩,⟨(.exit 4),.normal,⟨di 78 0 [(0,.v (.one (.full 0))),(1,.v (.one (.full 1))),(5,.v (.one (.full 2))),(7,.v (.one (.full 3))),(8,.v (.one (.i .i64))),(23,.v (.one (.full 0))),(24,.v (.one (.i .i64))),(25,.v (.one (.i .i64))),(31,.v (.one (.full 4))),(32,.v (.one (.i .i64))),(33,.v (.one (.i .i64)))],[.row (Ty.prod (Ty.prod aM aM) (Ty.prod yi (Ty.prod yi (Ty.sl yi)))) 0,.row dF 0,.row yi 2,.row Ty.bool 2,.row yi 0],0,none,[],[1,5,6],[7,8,0,2,9,3,4],[(.l yi),(.l Ty.bool),.i,.i,(.l yi),.i,.i],[.i (x.1.length:Int),.l (Ty.prod (Ty.prod aM aM) (Ty.prod yi (Ty.prod yi (Ty.sl yi)))) x.1,.l dF x.2]⟩⟩]⟩
def mm (x:fT) (s:A8):A8⊕(Unit⊕sZ):=
 (if (s.2.2.2.2.1>=0) then
 (aq (Wf (((x.1.getD s.2.2.2.2.1.toNat (((0,0,0),0,0,0),0,0,[])),s.2.2.2.2.1),(x.2.getD s.2.2.2.1.toNat ((0,0,0),(0,0,0),0,0,0)))) fun y=>
 (if ((!y)=true) then
 (Sum.inr (Sum.inl ())) else
 (Sum.inl (s.1,s.2.1,s.2.2.1,s.2.2.2.1,(s.1.getD s.2.2.2.2.1.toNat 0),s.2.2.2.2.2.1,s.2.2.2.2.2.2.1,s.2.2.2.2.2.2.2.1,s.2.2.2.2.2.2.2.2)))) else
 (Sum.inr (Sum.inr ((s.1,s.2.1,s.2.2.1,s.2.2.2.2.2.1,s.2.2.2.2.2.2.1,s.2.2.2.2.2.2.2.1,s.2.2.2.2.2.2.2.2)))))
def r8 (x:fT) (s:A8):Prop:=
 ((s.2.2.2.2.1>=0)->
 (((0<=s.2.2.2.2.1)/\ (s.2.2.2.2.1<(x.1.length:Int)))/\
 ((s.2.2.2.2.1.toNat<x.1.length)/\
 ((s.2.2.2.2.1.toNat<x.1.length)/\
 (((0<=s.2.2.2.1)/\ (s.2.2.2.1<(x.2.length:Int)))/\
 ((s.2.2.2.1.toNat<x.2.length)/\
 ((s.2.2.2.1.toNat<x.2.length)/\
 ((FB (((x.1.getD s.2.2.2.2.1.toNat (((0,0,0),0,0,0),0,0,[])),s.2.2.2.2.1),(x.2.getD s.2.2.2.1.toNat ((0,0,0),(0,0,0),0,0,0))))/\
 aC (Wf (((x.1.getD s.2.2.2.2.1.toNat (((0,0,0),0,0,0),0,0,[])),s.2.2.2.2.1),(x.2.getD s.2.2.2.1.toNat ((0,0,0),(0,0,0),0,0,0)))) fun y=>
 (¬((!y)=true)->
 (((0<=s.2.2.2.2.1)/\ (s.2.2.2.2.1<(s.1.length:Int)))/\
 ((s.2.2.2.2.1.toNat<s.1.length)/\
 (s.2.2.2.2.1.toNat<s.1.length))))))))))))
def OM (x:fT) (s:A8):Tr (A8⊕(Unit⊕sZ)) true:=
 (.i10 (s.2.2.2.2.1>=z0)
 (.mS s.2.2.2.2.1 x.1
 (.mS s.2.2.2.1 x.2
 (.fn L6 (((gT x.1 s.2.2.2.2.1 ((bX,bX),z0,z0,[])),s.2.2.2.2.1),(gT x.2 s.2.2.2.1 Lm)) fun y=>
 (.nM (!y)
 (.ret (.inr (Sum.inl ())))
 (.mS s.2.2.2.2.1 s.1
 (.ret (.inl (s.1,s.2.1,s.2.2.1,s.2.2.2.1,(gI s.1 s.2.2.2.2.1),s.2.2.2.2.2.1,s.2.2.2.2.2.2.1,s.2.2.2.2.2.2.2.1,s.2.2.2.2.2.2.2.2))))))))
 (.ret (.inr (Sum.inr ((s.1,s.2.1,s.2.2.1,s.2.2.2.2.2.1,s.2.2.2.2.2.2.1,s.2.2.2.2.2.2.2.1,s.2.2.2.2.2.2.2.2))))))
def aam (x:fT):aK:=⟨[],⟨di 78 0 [(0,.v (.one (.full 0))),(1,.v (.one (.full 1))),(5,.v (.one (.full 2))),(7,.v (.one (.full 3))),(8,.v (.one (.i .i64))),(23,.v (.one (.full 0))),(24,.v (.one (.i .i64))),(25,.v (.one (.i .i64))),(31,.v (.one (.full 4))),(32,.v (.one (.i .i64))),(33,.v (.one (.i .i64)))],[.row (Ty.prod (Ty.prod aM aM) (Ty.prod yi (Ty.prod yi (Ty.sl yi)))) 0,.row dF 0,.row yi 2,.row Ty.bool 2,.row yi 0],0,none,[],[1,5,6],[7,8,0,2,9,3,4],[(.l yi),(.l Ty.bool),.i,.i,(.l yi),.i,.i],[.i (x.1.length:Int),.l (Ty.prod (Ty.prod aM aM) (Ty.prod yi (Ty.prod yi (Ty.sl yi)))) x.1,.l dF x.2]⟩,[⟨.ret,.ret,⟨di 78 0 [(4,.v (.one (.b)))],[],0,none,[],[0],[],[],[.b false]⟩⟩,⟨(.exit 2),.normal,⟨di 78 0 [(0,.v (.one (.full 0))),(1,.v (.one (.full 1))),(5,.v (.one (.full 2))),(7,.v (.one (.full 3))),(23,.v (.one (.full 0))),(24,.v (.one (.i .i64))),(25,.v (.one (.i .i64)))],[.row (Ty.prod (Ty.prod aM aM) (Ty.prod yi (Ty.prod yi (Ty.sl yi)))) 0,.row dF 0,.row yi 2,.row Ty.bool 2],0,none,[],[0,2,3],[4,5,1],[(.l yi),(.l Ty.bool),.i],[.i (x.1.length:Int),.l (Ty.prod (Ty.prod aM aM) (Ty.prod yi (Ty.prod yi (Ty.sl yi)))) x.1,.l dF x.2]⟩⟩]⟩
def mh (x:fT) (s:sZ):sZ⊕(Unit⊕(List Int×List Bool×Int)):=
 (if (s.2.2.2.2.2.2<s.2.2.2.2.2.1) then
 (if ((s.2.2.2.2.1.getD s.2.2.2.2.2.2.toNat 0)<0) then
 (Sum.inr (Sum.inl ())) else
 (if ((s.2.2.2.2.1.getD s.2.2.2.2.2.2.toNat 0)>=(x.2.length:Int)) then
 (Sum.inr (Sum.inl ())) else
 (if ((s.2.1.getD (Int.toNat (s.2.2.2.2.1.getD s.2.2.2.2.2.2.toNat 0)) false)=true) then
 (Sum.inr (Sum.inl ())) else
 (aq (List.set s.2.1 (Int.toNat (s.2.2.2.2.1.getD s.2.2.2.2.2.2.toNat 0)) true) fun y=>
 (aq (run (mm x) (s.1,y,s.2.2.1,(s.2.2.2.2.1.getD s.2.2.2.2.2.2.toNat 0),s.2.2.1,s.2.2.2.1,s.2.2.2.2.1,s.2.2.2.2.2.1,s.2.2.2.2.2.2)) fun r=>
 (Sum.elim (fun a=>
 (Sum.inr (Sum.inl ()))) (fun b=>
 (Sum.inl (b.1,b.2.1,b.2.2.1,b.2.2.2.1,b.2.2.2.2.1,b.2.2.2.2.2.1,(av (b.2.2.2.2.2.2+1))))) r)))))) else
 (Sum.inr (Sum.inr ((s.1,s.2.1,s.2.2.2.1)))))
def r7 (x:fT) (s:sZ):Prop:=
 ((s.2.2.2.2.2.2<s.2.2.2.2.2.1)->
 (((0<=s.2.2.2.2.2.2)/\ (s.2.2.2.2.2.2<(s.2.2.2.2.1.length:Int)))/\
 ((s.2.2.2.2.2.2.toNat<s.2.2.2.2.1.length)/\
 ((s.2.2.2.2.2.2.toNat<s.2.2.2.2.1.length)/\
 (¬((s.2.2.2.2.1.getD s.2.2.2.2.2.2.toNat 0)<0)->
 (¬((s.2.2.2.2.1.getD s.2.2.2.2.2.2.toNat 0)>=(x.2.length:Int))->
 (((0<=(s.2.2.2.2.1.getD s.2.2.2.2.2.2.toNat 0))/\ ((s.2.2.2.2.1.getD s.2.2.2.2.2.2.toNat 0)<(s.2.1.length:Int)))/\
 (((Int.toNat (s.2.2.2.2.1.getD s.2.2.2.2.2.2.toNat 0))<s.2.1.length)/\
 (((Int.toNat (s.2.2.2.2.1.getD s.2.2.2.2.2.2.toNat 0))<s.2.1.length)/\
 (¬((s.2.1.getD (Int.toNat (s.2.2.2.2.1.getD s.2.2.2.2.2.2.toNat 0)) false)=true)->
 (((0<=(s.2.2.2.2.1.getD s.2.2.2.2.2.2.toNat 0))/\ ((s.2.2.2.2.1.getD s.2.2.2.2.2.2.toNat 0)<(s.2.1.length:Int)))/\
 (((Int.toNat (s.2.2.2.2.1.getD s.2.2.2.2.2.2.toNat 0))<s.2.1.length)/\
 (((Int.toNat (s.2.2.2.2.1.getD s.2.2.2.2.2.2.toNat 0))<s.2.1.length)/\
 (aC (List.set s.2.1 (Int.toNat (s.2.2.2.2.1.getD s.2.2.2.2.2.2.toNat 0)) true) fun y=>
 (Term (mm x) (r8 x) (s.1,y,s.2.2.1,(s.2.2.2.2.1.getD s.2.2.2.2.2.2.toNat 0),s.2.2.1,s.2.2.2.1,s.2.2.2.2.1,s.2.2.2.2.2.1,s.2.2.2.2.2.2))))))))))))))))
def OL (x:fT) (s:sZ):Tr (sZ⊕(Unit⊕(List Int×List Bool×Int))) true:=
 (.i10 (s.2.2.2.2.2.2<s.2.2.2.2.2.1)
 (.mS s.2.2.2.2.2.2 s.2.2.2.2.1
 (.FN ((gI s.2.2.2.2.1 s.2.2.2.2.2.2)<z0)
 (.ret (.inr (Sum.inl ())))
 (.FN ((gI s.2.2.2.2.1 s.2.2.2.2.2.2)>=(nL x.2))
 (.ret (.inr (Sum.inl ())))
 (.mS (gI s.2.2.2.2.1 s.2.2.2.2.2.2) s.2.1
 (.nM (gT s.2.1 (gI s.2.2.2.2.1 s.2.2.2.2.2.2) false)
 (.ret (.inr (Sum.inl ())))
 (.mS (gI s.2.2.2.2.1 s.2.2.2.2.2.2) s.2.1
 (.lt (List.set s.2.1 (tN (gI s.2.2.2.2.1 s.2.2.2.2.2.2)) true) fun y=>
 (aK.lp (aan x) (OM x) (s.1,y,s.2.2.1,(gI s.2.2.2.2.1 s.2.2.2.2.2.2),s.2.2.1,s.2.2.2.1,s.2.2.2.2.1,s.2.2.2.2.2.1,s.2.2.2.2.2.2) fun r=>
 (.MK r (fun a=>
 (.ret (.inr (Sum.inl ())))) (fun b=>
 (.ret (.inl (b.1,b.2.1,b.2.2.1,b.2.2.2.1,b.2.2.2.2.1,b.2.2.2.2.2.1,(w1 b.2.2.2.2.2.2))))))))))))))
 (.ret (.inr (Sum.inr ((s.1,s.2.1,s.2.2.2.1))))))
def aal (x:fT):aK:=⟨[],⟨di 78 0 [(0,.v (.one (.full 0))),(1,.v (.one (.full 1))),(5,.v (.one (.full 2))),(7,.v (.one (.full 3))),(23,.v (.one (.full 0))),(24,.v (.one (.i .i64))),(25,.v (.one (.i .i64)))],[.row (Ty.prod (Ty.prod aM aM) (Ty.prod yi (Ty.prod yi (Ty.sl yi)))) 0,.row dF 0,.row yi 2,.row Ty.bool 2],0,none,[],[0,2,3],[4,5,1],[(.l yi),(.l Ty.bool),.i],[.i (x.1.length:Int),.l (Ty.prod (Ty.prod aM aM) (Ty.prod yi (Ty.prod yi (Ty.sl yi)))) x.1,.l dF x.2]⟩,[⟨.ret,.ret,⟨di 78 0 [(4,.v (.one (.b)))],[],0,none,[],[0],[],[],[.b false]⟩⟩,⟨(.exit 0),.normal,⟨di 78 0 [(7,.v (.one (.full 0)))],[.row Ty.bool 2],0,none,[],[],[0],[(.l Ty.bool)],[]⟩⟩]⟩
def jI (x:fT) (s:(List Int×List Bool×Int)):(List Int×List Bool×Int)⊕(Unit⊕(List Bool)):=
 (if (s.2.2<(x.1.length:Int)) then
 (aq (run (mh x) (s.1,s.2.1,s.2.2,s.2.2,(x.1.getD s.2.2.toNat (((0,0,0),0,0,0),0,0,[])).2.2.2,((x.1.getD s.2.2.toNat (((0,0,0),0,0,0),0,0,[])).2.2.2.length:Int),0)) fun r=>
 (Sum.elim (fun a=>
 (Sum.inr (Sum.inl ()))) (fun b=>
 (Sum.inl (b.1,b.2.1,(av (b.2.2+1))))) r)) else
 (Sum.inr (Sum.inr (s.2.1))))
def rZ (x:fT) (s:(List Int×List Bool×Int)):Prop:=
 ((s.2.2<(x.1.length:Int))->
 (((0<=s.2.2)/\ (s.2.2<(x.1.length:Int)))/\
 ((s.2.2.toNat<x.1.length)/\
 ((s.2.2.toNat<x.1.length)/\
 (Term (mh x) (r7 x) (s.1,s.2.1,s.2.2,s.2.2,(x.1.getD s.2.2.toNat (((0,0,0),0,0,0),0,0,[])).2.2.2,((x.1.getD s.2.2.toNat (((0,0,0),0,0,0),0,0,[])).2.2.2.length:Int),0))))))
def OJ (x:fT) (s:(List Int×List Bool×Int)):Tr ((List Int×List Bool×Int)⊕(Unit⊕(List Bool))) true:=
 (.i10 (s.2.2<(nL x.1))
 (.mS s.2.2 x.1
 (aK.lp (aam x) (OL x) (s.1,s.2.1,s.2.2,s.2.2,(gT x.1 s.2.2 ((bX,bX),z0,z0,[])).2.2.2,(nL (gT x.1 s.2.2 ((bX,bX),z0,z0,[])).2.2.2),z0) fun r=>
 (.MK r (fun a=>
 (.ret (.inr (Sum.inl ())))) (fun b=>
 (.ret (.inl (b.1,b.2.1,(w1 b.2.2))))))))
 (.ret (.inr (Sum.inr (s.2.1)))))
def isT (x:fT):Bool:=
 (aq (ve x.1) fun y=>
 (if ((!y.2)=true) then
 false else
 (aq (run (jI x) (y.1,(List.replicate x.2.length false),(0:Int))) fun r=>
 (Sum.elim (fun a=>
 false) (fun b=>
 (aq (kV (b,false)) fun aB=>
 (!aB))) r))))
def D6 (x:fT):Prop:=
 ((nk x.1)/\
 aC (ve x.1) fun y=>
 (¬((!y.2)=true)->
 ((((x.2.length:Int)<=(x.2.length:Int))/\ (x.2.length<1099511627776))/\
 (Term (jI x) (rZ x) (y.1,(List.replicate x.2.length false),(0:Int))/\
 aC (run (jI x) (y.1,(List.replicate x.2.length false),(0:Int))) fun r=>
 (cS r (fun a=>
 True) (fun b=>
 (qh (b,false))))))))
def aj8 (x:fT):Tr Bool true:=
 (.fn sC x.1 fun y=>
 (.nM (!y.2)
 (.ret false)
 (.og (((decide (z0<=(nL x.2)))&&(decide ((nL x.2)<=(nL x.2))))&&(decide (x.2.length<1099511627776))) (((nL x.2)<=(nL x.2))/\ (x.2.length<1099511627776)) (fun h=>(gV (gV rfl (decide_eq_true h.1)) (decide_eq_true h.2)))
 (aK.lp (aal x) (OJ x) (y.1,(List.replicate x.2.length false),z0) fun r=>
 (.s01 r (fun a=>
 (.ret false)) (fun b=>
 (.fn pC (b,false) fun aB=>
 (.ret (!aB)))))))))
abbrev T8:bY:=⟨(.pair (.one (Ty.sl (Ty.prod (Ty.prod aM aM) (Ty.prod yi (Ty.prod yi (Ty.sl yi)))))) (.one (Ty.sl dF))),(.one Ty.bool),D6,isT⟩
theorem ahE:ai Tryz.prog 137 (ak T8):=ai.tr T8 aj8 (fn:=Tryz.f137) aA gu mixed (by kernel_rfl) (ax.nil _ _) (fun x=>(ay.tr aA (ah.dX gu (ax.nil _ _)) mixed 0 (aal x) (OJ x) (ay.tr aA (ah.dX gu (ax.nil _ _)) mixed 2 (aam x) (OL x) (ay.tr aA (ah.dX gu (ax.nil _ _)) mixed 4 (aan x) (OM x) ay.nil (by kernel_rfl) fun g s Q=>(by kernel_rfl)) (by kernel_rfl) fun g s Q=>(by kernel_rfl)) (by kernel_rfl) fun g s Q=>(by kernel_rfl))) (fun x=>(by kernel_rfl)) fun x Q=>(by kernel_rfl)
def abJ:List (Nat×Ev.Spec):=(137,ak T8)::Av
theorem KQ:ah Tryz.prog abJ:=ah.add (fn:=Tryz.f137) (by kernel_rfl) ahE gu
end Go.Proofs.YtngdehlpoomaiaaGreat
