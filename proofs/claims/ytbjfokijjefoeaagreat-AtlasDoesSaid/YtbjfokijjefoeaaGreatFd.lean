/- Models of functions of layers 4, 8, 10, 16. -/
import Derived.Test.YtbjfokijjefoeaaGreatTa
noncomputable section
set_option linter.unusedSectionVars false
set_option linter.unusedVariables false
set_option linter.unusedSimpArgs false
namespace Go.Proofs.YtbjfokijjefoeaaGreat
open Go Go.Ev Go.Proofs
def Uc (x:(List Int)):aB:=⟨[],⟨bB 18 0 [(5,.v (.one (.full 0))),(6,.v (.one (.i .i64))),(7,.v (.one (.i .i64)))],[.row yi 0],0,none,[],[0,2],[1],[.i],[.i (x.length:Int),.l yi x]⟩,[⟨.ret,.ret,⟨bB 18 0 [(2,.v (.one (.b)))],[],0,none,[],[0],[],[],[.b false]⟩⟩,⟨(.exit 0),.normal,⟨bB 18 0 [],[],0,none,[],[],[],[],[]⟩⟩]⟩
def o9 (x:(List Int)) (s:Int):Int⊕(Unit⊕Unit):=
 (if (s<(x.length:Int)) then
 (if ((x.getD s.toNat 0)<(-1048576)) then
 (Sum.inr (Sum.inl ())) else
 (if ((x.getD s.toNat 0)>1048576) then
 (Sum.inr (Sum.inl ())) else
 (Sum.inl (az (s+1))))) else
 (Sum.inr (Sum.inr (()))))
def D2 (x:(List Int)) (s:Int):Prop:=
 ((s<(x.length:Int))->
 (((0<=s)/\ (s<(x.length:Int)))/\
 ((s.toNat<x.length)/\
 (s.toNat<x.length))))
def KP (x:(List Int)) (s:Int):Tr (Int⊕(Unit⊕Unit)) true:=
 (.i10 (s<(nL x))
 (.gK s x
 (.o7 ((gI x s)<(-1048576))
 (.ret (.inr (Sum.inl ())))
 (.o7 ((gI x s)>1048576)
 (.ret (.inr (Sum.inl ())))
 (.ret (.inl (w1 s))))))
 (.ret (.inr (Sum.inr (())))))
def near (x:(List Int)):Bool:=
 (ai (run (o9 x) 0) fun r=>
 (Sum.elim (fun a=>
 false) (fun b=>
 true) r))
def Hj (x:(List Int)):Prop:=
 (Term (o9 x) (D2 x) 0)
def aen (x:(List Int)):Tr Bool true:=
 (aB.lp (Uc x) (KP x) z0 fun r=>
 (.xW r (fun a=>
 (.ret false)) (fun b=>
 (.ret true))))
abbrev M8:cC:=⟨(.one (Ty.sl yi)),(.one Ty.bool),Hj,near⟩
theorem abR:ah Tryz.prog 141 (aj M8):=ah.tr M8 aen (fn:=Tryz.f141) ay mW mixed (by kernel_rfl) (av.nil _ _) (fun x=>(au.tr ay (ae.bS mW (av.nil _ _)) mixed 0 (Uc x) (KP x) au.nil (by kernel_rfl) fun g s Q=>(by kernel_rfl))) (fun x=>(by kernel_rfl)) fun x Q=>(by kernel_rfl)
def UN:List (Nat×Ev.Spec):=(141,aj M8)::Tf
theorem zW:ae Tryz.prog UN:=ae.add (fn:=Tryz.f141) (by kernel_rfl) abR mW
def Mk (x:(Int×List Int)):aB:=⟨[],⟨bB 23 0 [(0,.v (.one (.i .i64))),(7,.v (.one (.full 0))),(8,.v (.one (.i .i64))),(9,.v (.one (.i .i64)))],[.row yi 0],0,none,[],[0,1,3],[2],[.i],[.i x.1,.i (x.2.length:Int),.l yi x.2]⟩,[⟨.ret,.ret,⟨bB 23 0 [(4,.v (.one (.b)))],[],0,none,[],[0],[],[],[.b false]⟩⟩,⟨(.exit 0),.normal,⟨bB 23 0 [],[],0,none,[],[],[],[],[]⟩⟩]⟩
def mz (x:(Int×List Int)) (s:Int):Int⊕(Unit⊕Unit):=
 (if (s<(x.2.length:Int)) then
 (if ((x.2.getD s.toNat 0)<(az (0- x.1))) then
 (Sum.inr (Sum.inl ())) else
 (if ((x.2.getD s.toNat 0)>x.1) then
 (Sum.inr (Sum.inl ())) else
 (Sum.inl (az (s+1))))) else
 (Sum.inr (Sum.inr (()))))
def y7 (x:(Int×List Int)) (s:Int):Prop:=
 ((s<(x.2.length:Int))->
 (((0<=s)/\ (s<(x.2.length:Int)))/\
 ((s.toNat<x.2.length)/\
 (s.toNat<x.2.length))))
def E5 (x:(Int×List Int)) (s:Int):Tr (Int⊕(Unit⊕Unit)) true:=
 (.i10 (s<(nL x.2))
 (.gK s x.2
 (.o7 ((gI x.2 s)<(az (z0- x.1)))
 (.ret (.inr (Sum.inl ())))
 (.o7 ((gI x.2 s)>x.1)
 (.ret (.inr (Sum.inl ())))
 (.ret (.inl (w1 s))))))
 (.ret (.inr (Sum.inr (())))))
def within (x:(Int×List Int)):Bool:=
 (ai (run (mz x) 0) fun r=>
 (Sum.elim (fun a=>
 false) (fun b=>
 true) r))
def z9 (x:(Int×List Int)):Prop:=
 (Term (mz x) (y7 x) 0)
def aaK (x:(Int×List Int)):Tr Bool true:=
 (aB.lp (Mk x) (E5 x) z0 fun r=>
 (.xW r (fun a=>
 (.ret false)) (fun b=>
 (.ret true))))
abbrev Cy:cC:=⟨(.pair (.one yi) (.one (Ty.sl yi))),(.one Ty.bool),z9,within⟩
theorem Xx:ah Tryz.prog 117 (aj Cy):=ah.tr Cy aaK (fn:=Tryz.f117) ay zW mixed (by kernel_rfl) (av.nil _ _) (fun x=>(au.tr ay (ae.bS zW (av.nil _ _)) mixed 0 (Mk x) (E5 x) au.nil (by kernel_rfl) fun g s Q=>(by kernel_rfl))) (fun x=>(by kernel_rfl)) fun x Q=>(by kernel_rfl)
def Md:List (Nat×Ev.Spec):=(117,aj Cy)::UN
theorem uP:ae Tryz.prog Md:=ae.add (fn:=Tryz.f117) (by kernel_rfl) Xx zW
def YV (x:(List I2)):aB:=⟨[],⟨bB 19 0 [(5,.v (.one (.full 0))),(6,.v (.one (.i .i64))),(7,.v (.one (.i .i64)))],[.row aS 0],0,none,[],[0,2],[1],[.i],[.i (x.length:Int),.l aS x]⟩,[⟨.ret,.ret,⟨bB 19 0 [(2,.v (.one (.b)))],[],0,none,[],[0],[],[],[.b false]⟩⟩,⟨(.exit 0),.normal,⟨bB 19 0 [],[],0,none,[],[],[],[],[]⟩⟩]⟩
def qK (x:(List I2)) (s:Int):Int⊕(Unit⊕Unit):=
 (if (s<(x.length:Int)) then
 (ai (near [(x.getD s.toNat (0,0)).1,(x.getD s.toNat (0,0)).2]) fun y=>
 (if ((!y)=true) then
 (Sum.inr (Sum.inl ())) else
 (Sum.inl (az (s+1))))) else
 (Sum.inr (Sum.inr (()))))
def GV (x:(List I2)) (s:Int):Prop:=
 ((s<(x.length:Int))->
 (((0<=s)/\ (s<(x.length:Int)))/\
 ((s.toNat<x.length)/\
 ((s.toNat<x.length)/\
 (Hj [(x.getD s.toNat (0,0)).1,(x.getD s.toNat (0,0)).2])))))
def ON (x:(List I2)) (s:Int):Tr (Int⊕(Unit⊕Unit)) true:=
 (.i10 (s<(nL x))
 (.gK s x
 (.fn M8 [(gT x s iR).1,(gT x s iR).2] fun y=>
 (.nT (!y)
 (.ret (.inr (Sum.inl ())))
 (.ret (.inl (w1 s))))))
 (.ret (.inr (Sum.inr (())))))
def is2 (x:(List I2)):Bool:=
 (ai (run (qK x) 0) fun r=>
 (Sum.elim (fun a=>
 false) (fun b=>
 true) r))
def Fv (x:(List I2)):Prop:=
 (Term (qK x) (GV x) 0)
def agx (x:(List I2)):Tr Bool true:=
 (aB.lp (YV x) (ON x) z0 fun r=>
 (.xW r (fun a=>
 (.ret false)) (fun b=>
 (.ret true))))
abbrev OM:cC:=⟨(.one (Ty.sl aS)),(.one Ty.bool),Fv,is2⟩
theorem aee:ah Tryz.prog 136 (aj OM):=ah.tr OM agx (fn:=Tryz.f136) ay uP mixed (by kernel_rfl) (av.nil _ _) (fun x=>(au.tr ay (ae.bS uP (av.nil _ _)) mixed 0 (YV x) (ON x) au.nil (by kernel_rfl) fun g s Q=>(by kernel_rfl))) (fun x=>(by kernel_rfl)) fun x Q=>(by kernel_rfl)
def aat:List (Nat×Ev.Spec):=(136,aj OM)::Md
theorem Dn:ae Tryz.prog aat:=ae.add (fn:=Tryz.f136) (by kernel_rfl) aee uP
def LA (x:(List I2)):aB:=⟨[],⟨bB 19 0 [(5,.v (.one (.full 0))),(6,.v (.one (.i .i64))),(7,.v (.one (.i .i64)))],[.row aS 0],0,none,[],[0,2],[1],[.i],[.i (x.length:Int),.l aS x]⟩,[⟨.ret,.ret,⟨bB 19 0 [(2,.v (.one (.b)))],[],0,none,[],[0],[],[],[.b false]⟩⟩,⟨(.exit 0),.normal,⟨bB 19 0 [],[],0,none,[],[],[],[],[]⟩⟩]⟩
def me (x:(List I2)) (s:Int):Int⊕(Unit⊕Unit):=
 (if (s<(x.length:Int)) then
 (ai (within (4096,[(x.getD s.toNat (0,0)).1,(x.getD s.toNat (0,0)).2])) fun y=>
 (if ((!y)=true) then
 (Sum.inr (Sum.inl ())) else
 (Sum.inl (az (s+1))))) else
 (Sum.inr (Sum.inr (()))))
def yM (x:(List I2)) (s:Int):Prop:=
 ((s<(x.length:Int))->
 (((0<=s)/\ (s<(x.length:Int)))/\
 ((s.toNat<x.length)/\
 ((s.toNat<x.length)/\
 (z9 (4096,[(x.getD s.toNat (0,0)).1,(x.getD s.toNat (0,0)).2]))))))
def Ex (x:(List I2)) (s:Int):Tr (Int⊕(Unit⊕Unit)) true:=
 (.i10 (s<(nL x))
 (.gK s x
 (.fn Cy (4096,[(gT x s iR).1,(gT x s iR).2]) fun y=>
 (.nT (!y)
 (.ret (.inr (Sum.inl ())))
 (.ret (.inl (w1 s))))))
 (.ret (.inr (Sum.inr (())))))
def mc (x:(List I2)):Bool:=
 (ai (run (me x) 0) fun r=>
 (Sum.elim (fun a=>
 false) (fun b=>
 true) r))
def gR (x:(List I2)):Prop:=
 (Term (me x) (yM x) 0)
def aap (x:(List I2)):Tr Bool true:=
 (aB.lp (LA x) (Ex x) z0 fun r=>
 (.xW r (fun a=>
 (.ret false)) (fun b=>
 (.ret true))))
abbrev BR:cC:=⟨(.one (Ty.sl aS)),(.one Ty.bool),gR,mc⟩
theorem Xn:ah Tryz.prog 103 (aj BR):=ah.tr BR aap (fn:=Tryz.f103) ay Dn mixed (by kernel_rfl) (av.nil _ _) (fun x=>(au.tr ay (ae.bS Dn (av.nil _ _)) mixed 0 (LA x) (Ex x) au.nil (by kernel_rfl) fun g s Q=>(by kernel_rfl))) (fun x=>(by kernel_rfl)) fun x Q=>(by kernel_rfl)
def Mc:List (Nat×Ev.Spec):=(103,aj BR)::aat
theorem Cn:ae Tryz.prog Mc:=ae.add (fn:=Tryz.f103) (by kernel_rfl) Xn Dn
def Ts (x:(I2×I2)):I2:=
 (ai (is2 [x.1,x.2]) fun y=>
 (if ((!y)=true) then
 (0,0) else
 ((az (x.1.1- x.2.1)),(az (x.1.2- x.2.2)))))
def Ct (x:(I2×I2)):Prop:=
 (Fv [x.1,x.2])
def aeJ (x:(I2×I2)):Tr I2 true:=
 (.fn OM [x.1,x.2] fun y=>
 (.nT (!y)
 (.ret iR)
 (.ret ((az (x.1.1- x.2.1)),(az (x.1.2- x.2.2))))))
abbrev I8:cC:=⟨(.pair (.agg aS) (.agg aS)),(.agg aS),Ct,Ts⟩
theorem acC:ah Tryz.prog 127 (aj I8):=ah.tr I8 aeJ (fn:=Tryz.f127) ay Cn mixed (by kernel_rfl) (av.nil _ _) (fun x=>au.nil) (fun x=>(by kernel_rfl)) fun x Q=>(by kernel_rfl)
def US:List (Nat×Ev.Spec):=(127,aj I8)::Mc
theorem IY:ae Tryz.prog US:=ae.add (fn:=Tryz.f127) (by kernel_rfl) acC Cn
def MD (x:(I2×I2)):I2:=
 (ai (is2 [x.1,x.2]) fun y=>
 (if ((!y)=true) then
 (0,5) else
 ((az ((az (x.1.1*x.2.2))- (az (x.1.2*x.2.1)))),0)))
def Gg (x:(I2×I2)):Prop:=
 (Fv [x.1,x.2])
def X7 (x:(I2×I2)):Tr I2 true:=
 (.fn OM [x.1,x.2] fun y=>
 (.nT (!y)
 (.ret (z0,5))
 (.ret ((az ((az (x.1.1*x.2.2))- (az (x.1.2*x.2.1)))),z0))))
abbrev Al:cC:=⟨(.pair (.agg aS) (.agg aS)),(.pair (.one yi) (.one yi)),Gg,MD⟩
theorem Vq:ah Tryz.prog 126 (aj Al):=ah.tr Al X7 (fn:=Tryz.f126) ay IY mixed (by kernel_rfl) (av.nil _ _) (fun x=>au.nil) (fun x=>(by kernel_rfl)) fun x Q=>(by kernel_rfl)
def LG:List (Nat×Ev.Spec):=(126,aj Al)::US
theorem BX:ae Tryz.prog LG:=ae.add (fn:=Tryz.f126) (by kernel_rfl) Vq IY
def Up (x:I6):I2:=
 (ai (mc [x.1,x.2.1,x.2.2]) fun y=>
 (if ((!y)=true) then
 (0,5) else
 (ai (Ts (x.2.1,x.1)) fun aO=>
 (ai (Ts (x.2.2,x.1)) fun y_2=>
 (ai (MD (aO,y_2)) fun bf=>
 bf)))))
def K0 (x:I6):Prop:=
 ((gR [x.1,x.2.1,x.2.2])/\
 aA (mc [x.1,x.2.1,x.2.2]) fun y=>
 (¬((!y)=true)->
 ((Ct (x.2.1,x.1))/\
 aA (Ts (x.2.1,x.1)) fun aO=>
 ((Ct (x.2.2,x.1))/\
 aA (Ts (x.2.2,x.1)) fun y_2=>
 (Gg (aO,y_2))))))
def ab1 (x:I6):Tr I2 true:=
 (.fn BR [x.1,x.2.1,x.2.2] fun y=>
 (.iK (!y)
 (.ret (z0,5))
 (.fn I8 (x.2.1,x.1) fun aO=>
 (.fn I8 (x.2.2,x.1) fun y_2=>
 (.fn Al (aO,y_2) fun bf=>
 (.ret bf))))))
abbrev FF:cC:=⟨(.agg aV),(.pair (.one yi) (.one yi)),K0,Up⟩
theorem Zv:ah Tryz.prog 115 (aj FF):=ah.tr FF ab1 (fn:=Tryz.f115) ay BX mixed (by kernel_rfl) (av.nil _ _) (fun x=>au.nil) (fun x=>(by kernel_rfl)) fun x Q=>(by kernel_rfl)
def Qo:List (Nat×Ev.Spec):=(115,aj FF)::LG
theorem EE:ae Tryz.prog Qo:=ae.add (fn:=Tryz.f115) (by kernel_rfl) Zv BX
def Ux (x:I6):I2:=
 (ai (Up x) fun y=>
 y)
def xX (x:I6):Prop:=
 (K0 x)
def acq (x:I6):Tr I2 true:=
 (.fn FF x fun y=>
 (.ret y))
abbrev BK:cC:=⟨(.pair (.agg aS) (.pair (.agg aS) (.agg aS))),(.pair (.one yi) (.one yi)),xX,Ux⟩
theorem aai:ah Tryz.prog 100 (aj BK):=ah.tr BK acq (fn:=Tryz.f100) ay EE mixed (by kernel_rfl) (av.nil _ _) (fun x=>au.nil) (fun x=>(by kernel_rfl)) fun x Q=>(by kernel_rfl)
def Qw:List (Nat×Ev.Spec):=(100,aj BK)::Qo
theorem EV:ae Tryz.prog Qw:=ae.add (fn:=Tryz.f100) (by kernel_rfl) aai EE
def Mf (x:I6):I2:=
 (ai (Ux x) fun y=>
 (ai (compare (y.1,0)) fun aO=>
 (aO,y.2)))
def Dr (x:I6):Prop:=
 (xX x)
def acA (x:I6):Tr I2 true:=
 (.fn BK x fun y=>
 (.fn0 mI (y.1,z0) trivial fun aO=>
 (.ret (aO,y.2))))
abbrev Cp:cC:=⟨(.pair (.agg aS) (.pair (.agg aS) (.agg aS))),(.pair (.one yi) (.one yi)),Dr,Mf⟩
theorem aaz:ah Tryz.prog 143 (aj Cp):=ah.tr Cp acA (fn:=Tryz.f143) ay EV mixed (by kernel_rfl) (av.nil _ _) (fun x=>au.nil) (fun x=>(by kernel_rfl)) fun x Q=>(by kernel_rfl)
def QB:List (Nat×Ev.Spec):=(143,aj Cp)::Qw
theorem E0:ae Tryz.prog QB:=ae.add (fn:=Tryz.f143) (by kernel_rfl) aaz EV
def mright (x:I6):Bool:=
 (ai (Ux x) fun y=>
 (if ((y.2==0)=true) then
 (y.1 !=0) else
 false))
def tK (x:I6):Prop:=
 (xX x)
def Zh (x:I6):Tr Bool true:=
 (.fn BK x fun y=>
 (.nT (y.2==z0)
 (.ret (y.1 !=z0))
 (.ret false)))
abbrev sD:cC:=⟨(.agg aV),(.one Ty.bool),tK,mright⟩
theorem Wh:ah Tryz.prog 70 (aj sD):=ah.tr sD Zh (fn:=Tryz.f70) ay E0 mixed (by kernel_rfl) (av.nil _ _) (fun x=>au.nil) (fun x=>(by kernel_rfl)) fun x Q=>(by kernel_rfl)
def LP:List (Nat×Ev.Spec):=(70,aj sD)::QB
theorem B4:ae Tryz.prog LP:=ae.add (fn:=Tryz.f70) (by kernel_rfl) Wh E0
def Ko (x:Int):I2:=
 (if (x<0) then
 (0,5) else
 (if (x>4096) then
 (0,5) else
 ((az ((az (Int.tdiv x 16))+1)),0)))
def VH (_:Int):Prop:=True
def abo (x:Int):Tr I2 false:=
 (.o7 (x<z0)
 (.ret (z0,5))
 (.o7 (x>4096)
 (.ret (z0,5))
 (.ret ((w1 (az (Int.tdiv x 16))),z0))))
abbrev AE:cC:=⟨(.one yi),(.pair (.one yi) (.one yi)),VH,Ko⟩
theorem Yo:ah Tryz.prog 104 (aj AE):=ah.tr AE abo (fn:=Tryz.f104) ay B4 mixed (by kernel_rfl) (av.nil _ _) (fun x=>au.nil) (fun x=>(by kernel_rfl)) fun x Q=>(by kernel_rfl)
def Qj:List (Nat×Ev.Spec):=(104,aj AE)::LP
theorem EA:ae Tryz.prog Qj:=ae.add (fn:=Tryz.f104) (by kernel_rfl) Yo B4
def GC (x:I2):I2:=
 (ai (Ko x.1) fun y=>
 (ai (Ko x.2) fun aO=>
 (y.1,aO.1)))
def Rk (_:I2):Prop:=True
def Yp (x:I2):Tr I2 false:=
 (.fn0 AE x.1 trivial fun y=>
 (.fn0 AE x.2 trivial fun aO=>
 (.ret (y.1,aO.1))))
abbrev AF:cC:=⟨(.agg aS),(.pair (.one yi) (.one yi)),Rk,GC⟩
theorem VI:ah Tryz.prog 73 (aj AF):=ah.tr AF Yp (fn:=Tryz.f73) ay EA mixed (by kernel_rfl) (av.nil _ _) (fun x=>au.nil) (fun x=>(by kernel_rfl)) fun x Q=>(by kernel_rfl)
def LI:List (Nat×Ev.Spec):=(73,aj AF)::Qj
theorem BY:ae Tryz.prog LI:=ae.add (fn:=Tryz.f73) (by kernel_rfl) VI EA
end Go.Proofs.YtbjfokijjefoeaaGreat
namespace Go.Proofs.YtbjfokijjefoeaaGreat
open Go Go.Ev Go.Proofs
def odd (x:I6):Bool:=
 (ai (mright x) fun y=>
 (!y))
def Ui (x:I6):Prop:=
 (tK x)
def agI (x:I6):Tr Bool true:=
 (.fn sD x fun y=>
 (.ret (!y)))
abbrev Uh:cC:=⟨(.agg aV),(.one Ty.bool),Ui,odd⟩
theorem aeu:ah Tryz.prog 69 (aj Uh):=ah.tr Uh agI (fn:=Tryz.f69) ay BY mixed (by kernel_rfl) (av.nil _ _) (fun x=>au.nil) (fun x=>(by kernel_rfl)) fun x Q=>(by kernel_rfl)
def aav:List (Nat×Ev.Spec):=(69,aj Uh)::LI
theorem Dp:ae Tryz.prog aav:=ae.add (fn:=Tryz.f69) (by kernel_rfl) aeu BY
def Kv (x:(List I6×Bool)):aB:=⟨[],⟨bB 19 0 [(0,.v (.one (.full 0))),(1,.v (.one (.mB 69 0 []))),(7,.v (.one (.i .i64))),(8,.v (.one (.i .i64)))],[.row aV 0],0,none,[],[0,2],[1],[.i],[.i (x.1.length:Int),.l aV x.1]⟩,[⟨.ret,.ret,⟨bB 19 0 [(4,.v (.one (.i .i64)))],[],0,none,[],[],[0],[.i],[]⟩⟩,⟨(.exit 0),.normal,⟨bB 19 0 [],[],0,none,[],[],[],[],[]⟩⟩]⟩
def iZ (x:(List I6×Bool)) (s:Int):Int⊕(Int⊕Unit):=
 (if (s<(x.1.length:Int)) then
 (ai (odd (x.1.getD s.toNat ((0,0),(0,0),0,0))) fun y=>
 (if (y=true) then
 (Sum.inr (Sum.inl s)) else
 (Sum.inl (az (s+1))))) else
 (Sum.inr (Sum.inr (()))))
def rJ (x:(List I6×Bool)) (s:Int):Prop:=
 ((s<(x.1.length:Int))->
 (((0<=s)/\ (s<(x.1.length:Int)))/\
 ((s.toNat<x.1.length)/\
 ((s.toNat<x.1.length)/\
 (Ui (x.1.getD s.toNat ((0,0),(0,0),0,0)))))))
def DS (x:(List I6×Bool)) (s:Int):Tr (Int⊕(Int⊕Unit)) true:=
 (.i10 (s<(nL x.1))
 (.gK s x.1
 (.fn Uh (gT x.1 s aW) fun y=>
 (.nT y
 (.ret (.inr (Sum.inl s)))
 (.ret (.inl (w1 s))))))
 (.ret (.inr (Sum.inr (())))))
def RL (x:(List I6×Bool)):Int:=
 (ai (run (iZ x) 0) fun r=>
 (Sum.elim (fun a=>
 a) (fun b=>
 (-1)) r))
def GR (x:(List I6×Bool)):Prop:=
 (Term (iZ x) (rJ x) 0)
def YT (x:(List I6×Bool)):Tr Int true:=
 (aB.lp (Kv x) (DS x) z0 fun r=>
 (.xW r (fun a=>
 (.ret a)) (fun b=>
 (.ret (-1)))))
abbrev AO:cC:=⟨(.pair (.one (Ty.sl aV)) (.mB 69 .none)),(.one yi),GR,RL⟩
theorem VW:ah Tryz.prog 101 (aj AO):=ah.tr AO YT (fn:=Tryz.f101) ay Dp mixed (by kernel_rfl) (av.nil _ _) (fun x=>(au.tr ay (ae.bS Dp (av.nil _ _)) mixed 0 (Kv x) (DS x) au.nil (by kernel_rfl) fun g s Q=>(by kernel_rfl))) (fun x=>(by kernel_rfl)) fun x Q=>(by kernel_rfl)
def LL:List (Nat×Ev.Spec):=(101,aj AO)::aav
theorem B1:ae Tryz.prog LL:=ae.add (fn:=Tryz.f101) (by kernel_rfl) VW Dp
def sj (x:(List I6×Bool)):Bool:=
 (ai (RL (x.1,false)) fun y=>
 (decide (y>=0)))
def rB (x:(List I6×Bool)):Prop:=
 (GR (x.1,false))
def Og (x:(List I6×Bool)):Tr Bool true:=
 (.fn AO (x.1,false) fun y=>
 (.ret (decide (y>=z0))))
abbrev qE:cC:=⟨(.pair (.one (Ty.sl aV)) (.mB 69 .none)),(.one Ty.bool),rB,sj⟩
theorem MC:ah Tryz.prog 71 (aj qE):=ah.tr qE Og (fn:=Tryz.f71) ay B1 mixed (by kernel_rfl) (av.nil _ _) (fun x=>au.nil) (fun x=>(by kernel_rfl)) fun x Q=>(by kernel_rfl)
def BW:List (Nat×Ev.Spec):=(71,aj qE)::LL
theorem u4:ae Tryz.prog BW:=ae.add (fn:=Tryz.f71) (by kernel_rfl) MC B1
def KO (x:(I2×I2×I2×Int)):Int:=
 (ai (Mf (x.2.1,x.2.2.1,x.1)) fun y=>
 (az (x.2.2.2*y.1)))
def sE (x:(I2×I2×I2×Int)):Prop:=
 (Dr (x.2.1,x.2.2.1,x.1))
def abQ (x:(I2×I2×I2×Int)):Tr Int true:=
 (.fn Cp (x.2.1,x.2.2.1,x.1) fun y=>
 (.ret (az (x.2.2.2*y.1))))
abbrev xC:cC:=⟨(.pair (.agg aS) (.pair (.ptr (.prod (.int .i64) (.int .i64))) (.pair (.ptr (.prod (.int .i64) (.int .i64))) (.ptr (.int .i64))))),(.one yi),sE,KO⟩
theorem Zi:ah Tryz.prog 144 (aj xC):=ah.tr xC abQ (fn:=Tryz.f144) ay u4 mixed (by kernel_rfl) (av.nil _ _) (fun x=>au.nil) (fun x=>(by kernel_rfl)) fun x Q=>(by kernel_rfl)
def bY:List (Nat×Ev.Spec):=(144,aj xC)::BW
theorem bJ:ae Tryz.prog bY:=ae.add (fn:=Tryz.f144) (by kernel_rfl) Zi u4
end Go.Proofs.YtbjfokijjefoeaaGreat
namespace Go.Proofs.YtbjfokijjefoeaaGreat
open Go Go.Ev Go.Proofs
def Q8 (x:(List Int)):(List Int):=
 ((List.replicate 0 (0:Int))++x)
def zc (x:(List Int)):Prop:=
 (∀b:Bool,((0<x.length)->(b=false))->(((if (b=true) then
 [] else
 ((List.replicate 0 (0:Int))++x))=((List.replicate 0 (0:Int))++x))/\ (¬(b=true)->
 ((0+x.length)<1099511627776))))
def X3 (x:(List Int)):Tr (List Int) true:=
 (.nil (fun b=>((0<x.length)->(b=false))) fun b=>
 (.iK b
 (.ret [])
 (.od ((0+x.length)<1099511627776)
 (.ret ((List.replicate 0 z0)++x)))))
abbrev Ak:cC:=⟨(.one (Ty.sl yi)),(.one (Ty.sl yi)),zc,Q8⟩
theorem Vk:ah Tryz.prog 51 (aj Ak):=ah.tr Ak X3 (fn:=Tryz.f51) ay bJ mixed (by kernel_rfl) (av.dead 51 (fn:=Tryz.f51) (by kernel_rfl)) (fun x=>au.nil) (fun x=>(by kernel_rfl)) fun x Q=>(by kernel_rfl)
def LD:List (Nat×Ev.Spec):=(51,aj Ak)::bY
theorem BT:ae Tryz.prog LD:=ae.add (fn:=Tryz.f51) (by kernel_rfl) Vk bJ
def My (x:(List I6)):(List I6):=
 ((List.replicate 0 (((0:Int),(0:Int)),((0:Int),(0:Int)),(0:Int),(0:Int)))++x)
def s7 (x:(List I6)):Prop:=
 (∀b:Bool,((0<x.length)->(b=false))->(((if (b=true) then
 [] else
 ((List.replicate 0 (((0:Int),(0:Int)),((0:Int),(0:Int)),(0:Int),(0:Int)))++x))=((List.replicate 0 (((0:Int),(0:Int)),((0:Int),(0:Int)),(0:Int),(0:Int)))++x))/\ (¬(b=true)->
 ((0+x.length)<1099511627776))))
def X4 (x:(List I6)):Tr (List I6) true:=
 (.nil (fun b=>((0<x.length)->(b=false))) fun b=>
 (.iK b
 (.ret [])
 (.od ((0+x.length)<1099511627776)
 (.ret ((List.replicate 0 aW)++x)))))
abbrev vz:cC:=⟨(.one (Ty.sl aV)),(.one (Ty.sl aV)),s7,My⟩
theorem Vm:ah Tryz.prog 52 (aj vz):=ah.tr vz X4 (fn:=Tryz.f52) ay BT mixed (by kernel_rfl) (av.dead 52 (fn:=Tryz.f52) (by kernel_rfl)) (fun x=>au.nil) (fun x=>(by kernel_rfl)) fun x Q=>(by kernel_rfl)
def LF:List (Nat×Ev.Spec):=(52,aj vz)::LD
theorem BU:ae Tryz.prog LF:=ae.add (fn:=Tryz.f52) (by kernel_rfl) Vm BT
def nY (x:(I2×I2)):I2:=
 ((az (x.1.1+x.2.1)),(az (x.1.2+x.2.2)))
def Wg (_:(I2×I2)):Prop:=True
def abP (x:(I2×I2)):Tr I2 false:=
 (.ret ((az (x.1.1+x.2.1)),(az (x.1.2+x.2.2))))
abbrev xB:cC:=⟨(.pair (.agg aS) (.ptr (.prod (.int .i64) (.int .i64)))),(.agg aS),Wg,nY⟩
theorem Zg:ah Tryz.prog 58 (aj xB):=ah.tr xB abP (fn:=Tryz.f58) ay BU mixed (by kernel_rfl) (av.nil _ _) (fun x=>au.nil) (fun x=>(by kernel_rfl)) fun x Q=>(by kernel_rfl)
def Qm:List (Nat×Ev.Spec):=(58,aj xB)::LF
theorem q8:ae Tryz.prog Qm:=ae.add (fn:=Tryz.f58) (by kernel_rfl) Zg BU
def Jg (x:(List I6×I2)):aB:=⟨[],⟨bB 35 0 [(1,.v (.one (.mB 58 0 [.elem 0]))),(5,.v (.one (.full 1))),(12,.v (.one (.full 1))),(13,.v (.one (.i .i64))),(14,.v (.one (.i .i64)))],[.row aS 0,.row aV 2],0,none,[],[0,3],[4,1,2],[(.l aV),.i,.i],[.n 0,.l aS [x.2]]⟩,[⟨(.exit 0),.normal,⟨bB 35 0 [(5,.v (.one (.full 0)))],[.row aV 2],0,none,[],[],[0],[(.l aV)],[]⟩⟩]⟩
def ku (x:(List I6×I2)) (s:(List I6×I2)):(List I6×I2)⊕(List I6):=
 (if (s.2.2<s.2.1) then
 (ai (nY ((s.1.getD s.2.2.toNat ((0,0),(0,0),0,0)).1,x.2)) fun y=>
 (ai (List.set s.1 s.2.2.toNat (y,(s.1.getD s.2.2.toNat ((0,0),(0,0),0,0)).2)) fun aO=>
 (ai (nY ((s.1.getD s.2.2.toNat ((0,0),(0,0),0,0)).2.1,x.2)) fun y_2=>
 (ai (List.set aO s.2.2.toNat ((aO.getD s.2.2.toNat ((0,0),(0,0),0,0)).1,y_2,(aO.getD s.2.2.toNat ((0,0),(0,0),0,0)).2.2)) fun bf=>
 (ai (nY ((s.1.getD s.2.2.toNat ((0,0),(0,0),0,0)).2.2,x.2)) fun bz=>
 (ai (List.set bf s.2.2.toNat ((bf.getD s.2.2.toNat ((0,0),(0,0),0,0)).1,(bf.getD s.2.2.toNat ((0,0),(0,0),0,0)).2.1,bz)) fun kX=>
 (Sum.inl (kX,s.2.1,(az (s.2.2+1)))))))))) else
 (Sum.inr (s.1)))
def qu (x:(List I6×I2)) (s:(List I6×I2)):Prop:=
 ((s.2.2<s.2.1)->
 (((0<=s.2.2)/\ (s.2.2<(s.1.length:Int)))/\
 ((s.2.2.toNat<s.1.length)/\
 ((s.2.2.toNat<s.1.length)/\
 (aA (nY ((s.1.getD s.2.2.toNat ((0,0),(0,0),0,0)).1,x.2)) fun y=>
 (((0<=s.2.2)/\ (s.2.2<(s.1.length:Int)))/\
 ((s.2.2.toNat<s.1.length)/\
 ((s.2.2.toNat<s.1.length)/\
 ((s.2.2.toNat<s.1.length)/\
 (aA (List.set s.1 s.2.2.toNat (y,(s.1.getD s.2.2.toNat ((0,0),(0,0),0,0)).2)) fun aO=>
 (aA (nY ((s.1.getD s.2.2.toNat ((0,0),(0,0),0,0)).2.1,x.2)) fun y_2=>
 (((0<=s.2.2)/\ (s.2.2<(aO.length:Int)))/\
 ((s.2.2.toNat<aO.length)/\
 ((s.2.2.toNat<aO.length)/\
 ((s.2.2.toNat<aO.length)/\
 (aA (List.set aO s.2.2.toNat ((aO.getD s.2.2.toNat ((0,0),(0,0),0,0)).1,y_2,(aO.getD s.2.2.toNat ((0,0),(0,0),0,0)).2.2)) fun bf=>
 (aA (nY ((s.1.getD s.2.2.toNat ((0,0),(0,0),0,0)).2.2,x.2)) fun bz=>
 (((0<=s.2.2)/\ (s.2.2<(bf.length:Int)))/\
 ((s.2.2.toNat<bf.length)/\
 ((s.2.2.toNat<bf.length)/\
 (s.2.2.toNat<bf.length)))))))))))))))))))))
def Cw (x:(List I6×I2)) (s:(List I6×I2)):Tr ((List I6×I2)⊕(List I6)) true:=
 (.i10 (s.2.2<s.2.1)
 (.gK s.2.2 s.1
 (.fn0 xB ((gT s.1 s.2.2 aW).1,x.2) trivial fun y=>
 (.zF s.2.2 s.1
 (.lt (List.set s.1 (tN s.2.2) (y,(gT s.1 s.2.2 aW).2)) fun aO=>
 (.fn0 xB ((gT s.1 s.2.2 aW).2.1,x.2) trivial fun y_2=>
 (.zF s.2.2 aO
 (.lt (List.set aO (tN s.2.2) ((gT aO s.2.2 aW).1,y_2,(gT aO s.2.2 aW).2.2)) fun bf=>
 (.fn0 xB ((gT s.1 s.2.2 aW).2.2,x.2) trivial fun bz=>
 (.zF s.2.2 bf
 (.lt (List.set bf (tN s.2.2) ((gT bf s.2.2 aW).1,(gT bf s.2.2 aW).2.1,bz)) fun kX=>
 (.ret (.inl (kX,s.2.1,(w1 s.2.2))))))))))))))
 (.ret (.inr (s.1))))
def NT (x:(List I6×I2)):(List I6):=
 (ai (My x.1) fun y=>
 (ai (run (ku x) (y,(y.length:Int),0)) fun r=>
 r))
def wZ (x:(List I6×I2)):Prop:=
 ((s7 x.1)/\
 aA (My x.1) fun y=>
 (Term (ku x) (qu x) (y,(y.length:Int),0)))
def Xu (x:(List I6×I2)):Tr (List I6) true:=
 (.fn vz x.1 fun y=>
 (aB.lp (Jg x) (Cw x) (y,(nL y),z0) fun r=>
 (.ret r)))
abbrev x8:cC:=⟨(.pair (.one (Ty.sl aV)) (.mB 58 (.ptr (.prod (.int .i64) (.int .i64))))),(.one (Ty.sl aV)),wZ,NT⟩
theorem Tz:ah Tryz.prog 57 (aj x8):=ah.tr x8 Xu (fn:=Tryz.f57) ay q8 mixed (by kernel_rfl) (av.nil _ _) (fun x=>(au.tr ay (ae.bS q8 (av.nil _ _)) mixed 0 (Jg x) (Cw x) (au.x9 ay (ae.bS q8 (av.nil _ _)) mixed 2 4 au.nil (by kernel_rfl)) (by kernel_rfl) fun g s Q=>(by kernel_rfl))) (fun x=>(by kernel_rfl)) fun x Q=>(by kernel_rfl)
def I0:List (Nat×Ev.Spec):=(57,aj x8)::Qm
theorem JT:ae Tryz.prog I0:=ae.add (fn:=Tryz.f57) (by kernel_rfl) Tz q8
end Go.Proofs.YtbjfokijjefoeaaGreat
