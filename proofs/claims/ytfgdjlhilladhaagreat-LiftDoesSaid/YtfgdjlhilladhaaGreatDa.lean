/- Models of functions, and that the code does what they say. -/
import Derived.Test.YtfgdjlhilladhaaGreatEvR
import Derived.Test.YtfgdjlhilladhaaGreatTt
noncomputable section
set_option linter.unusedSectionVars false
set_option linter.unusedVariables false
set_option linter.unusedSimpArgs false
namespace Go.Proofs.YtfgdjlhilladhaaGreat
open Go Go.Ev Go.Proofs
abbrev ou:Type:=(List I3×List I2×List I3×List I9)
def YX (x:Int):Bool:=
 (x !=x)
def aaT (_:Int):Prop:=True
def ahh (x:Int):Tr Bool false:=
 (.ret (x !=x))
abbrev De:bB:=⟨(.one yi),(.one Ty.bool),aaT,YX⟩
theorem aed:ah Tryz.prog 176 (ak De):=ah.tr De ahh (fn:=Tryz.f176) ax (ae.nil _) mixed (by kernel_rfl) (av.nil _ _) (fun x=>au.nil) (fun x=>(by kernel_rfl)) fun x Q=>(by kernel_rfl)
def Vi:List (Nat×Ev.Spec):=(176,ak De):: []
theorem H8:ae Tryz.prog Vi:=ae.add (fn:=Tryz.f176) (by kernel_rfl) aed (ae.nil _)
def compare (x:I2):Int:=
 (aq (YX x.1) fun y=>
 (aq (YX x.2) fun aB=>
 (if (y=true) then
 (if (aB=true) then
 0 else
 (-1)) else
 (if (aB=true) then
 1 else
 (if (x.1<x.2) then
 (-1) else
 (if (x.1>x.2) then
 1 else
 0))))))
def S5 (_:I2):Prop:=True
def aai (x:I2):Tr Int false:=
 (.fn0 De x.1 trivial fun y=>
 (.fn0 De x.2 trivial fun aB=>
 (.cQ y
 (.cQ aB
 (.ret z0)
 (.ret (-1)))
 (.cQ aB
 (.ret z1)
 (.fm (x.1<x.2)
 (.ret (-1))
 (.fm (x.1>x.2)
 (.ret z1)
 (.ret z0)))))))
abbrev iU:bB:=⟨(.pair (.one yi) (.one yi)),(.one yi),S5,compare⟩
theorem V7:ah Tryz.prog 148 (ak iU):=ah.tr iU aai (fn:=Tryz.f148) ax H8 mixed (by kernel_rfl) (av.nil _ _) (fun x=>au.nil) (fun x=>(by kernel_rfl)) fun x Q=>(by kernel_rfl)
def L2:List (Nat×Ev.Spec):=(148,ak iU)::Vi
theorem A9:ae Tryz.prog L2:=ae.add (fn:=Tryz.f148) (by kernel_rfl) V7 H8
def dot (x:(I2×I2)):Int:=
 (aj ((aj (x.1.1*x.2.1))+(aj (x.1.2*x.2.2))))
def agR (_:(I2×I2)):Prop:=True
def akN (x:(I2×I2)):Tr Int false:=
 (.ret (aj ((aj (x.1.1*x.2.1))+(aj (x.1.2*x.2.2)))))
abbrev Oc:bB:=⟨(.pair (.agg aQ) (.agg aQ)),(.one yi),agR,dot⟩
theorem aja:ah Tryz.prog 100 (ak Oc):=ah.tr Oc akN (fn:=Tryz.f100) ax A9 mixed (by kernel_rfl) (av.nil _ _) (fun x=>au.nil) (fun x=>(by kernel_rfl)) fun x Q=>(by kernel_rfl)
def afQ:List (Nat×Ev.Spec):=(100,ak Oc)::L2
theorem GF:ae Tryz.prog afQ:=ae.add (fn:=Tryz.f100) (by kernel_rfl) aja A9
def Y9 (x:(List Int)):aF:=⟨[],⟨bq 18 0 [(5,.v (.one (.full 0))),(6,.v (.one (.i .i64))),(7,.v (.one (.i .i64)))],[.row yi 0],0,none,[],[0,2],[1],[.i],[.i (x.length:Int),.l yi x]⟩,[⟨.ret,.ret,⟨bq 18 0 [(2,.v (.one (.b)))],[],0,none,[],[0],[],[],[.b false]⟩⟩,⟨(.exit 0),.normal,⟨bq 18 0 [],[],0,none,[],[],[],[],[]⟩⟩]⟩
def pT (x:(List Int)) (s:Int):Int⊕(Unit⊕Unit):=
 (if (s<(x.length:Int)) then
 (if ((x.getD s.toNat 0)<(-1048576)) then
 (Sum.inr (Sum.inl ())) else
 (if ((x.getD s.toNat 0)>1048576) then
 (Sum.inr (Sum.inl ())) else
 (Sum.inl (aj (s+1))))) else
 (Sum.inr (Sum.inr (()))))
def Hr (x:(List Int)) (s:Int):Prop:=
 ((s<(x.length:Int))->
 (((0<=s)/\ (s<(x.length:Int)))/\
 ((s.toNat<x.length)/\
 (s.toNat<x.length))))
def OL (x:(List Int)) (s:Int):Tr (Int⊕(Unit⊕Unit)) true:=
 (.i10 (s<(nL x))
 (.gu s x
 (.fm ((gI x s)<(-1048576))
 (.ret (.inr (Sum.inl ())))
 (.fm ((gI x s)>1048576)
 (.ret (.inr (Sum.inl ())))
 (.ret (.inl (w1 s))))))
 (.ret (.inr (Sum.inr (())))))
def near (x:(List Int)):Bool:=
 (aq (run (pT x) 0) fun r=>
 (Sum.elim (fun a=>
 false) (fun b=>
 true) r))
def Du (x:(List Int)):Prop:=
 (Term (pT x) (Hr x) 0)
def ajQ (x:(List Int)):Tr Bool true:=
 (aF.lp (Y9 x) (OL x) z0 fun r=>
 (.ri r (fun a=>
 (.ret false)) (fun b=>
 (.ret true))))
abbrev KS:bB:=⟨(.one (Ty.sl yi)),(.one Ty.bool),Du,near⟩
theorem ahs:ah Tryz.prog 156 (ak KS):=ah.tr KS ajQ (fn:=Tryz.f156) ax GF mixed (by kernel_rfl) (av.nil _ _) (fun x=>(au.tr ax (ae.bD GF (av.nil _ _)) mixed 0 (Y9 x) (OL x) au.nil (by kernel_rfl) fun g s Q=>(by kernel_rfl))) (fun x=>(by kernel_rfl)) fun x Q=>(by kernel_rfl)
def ZJ:List (Nat×Ev.Spec):=(156,ak KS)::afQ
theorem Co:ae Tryz.prog ZJ:=ae.add (fn:=Tryz.f156) (by kernel_rfl) ahs GF
def QE (x:(Int×List Int)):aF:=⟨[],⟨bq 23 0 [(0,.v (.one (.i .i64))),(7,.v (.one (.full 0))),(8,.v (.one (.i .i64))),(9,.v (.one (.i .i64)))],[.row yi 0],0,none,[],[0,1,3],[2],[.i],[.i x.1,.i (x.2.length:Int),.l yi x.2]⟩,[⟨.ret,.ret,⟨bq 23 0 [(4,.v (.one (.b)))],[],0,none,[],[0],[],[],[.b false]⟩⟩,⟨(.exit 0),.normal,⟨bq 23 0 [],[],0,none,[],[],[],[],[]⟩⟩]⟩
def mU (x:(Int×List Int)) (s:Int):Int⊕(Unit⊕Unit):=
 (if (s<(x.2.length:Int)) then
 (if ((x.2.getD s.toNat 0)<(aj (0- x.1))) then
 (Sum.inr (Sum.inl ())) else
 (if ((x.2.getD s.toNat 0)>x.1) then
 (Sum.inr (Sum.inl ())) else
 (Sum.inl (aj (s+1))))) else
 (Sum.inr (Sum.inr (()))))
def BD (x:(Int×List Int)) (s:Int):Prop:=
 ((s<(x.2.length:Int))->
 (((0<=s)/\ (s<(x.2.length:Int)))/\
 ((s.toNat<x.2.length)/\
 (s.toNat<x.2.length))))
def IF (x:(Int×List Int)) (s:Int):Tr (Int⊕(Unit⊕Unit)) true:=
 (.i10 (s<(nL x.2))
 (.gu s x.2
 (.fm ((gI x.2 s)<(aj (z0- x.1)))
 (.ret (.inr (Sum.inl ())))
 (.fm ((gI x.2 s)>x.1)
 (.ret (.inr (Sum.inl ())))
 (.ret (.inl (w1 s))))))
 (.ret (.inr (Sum.inr (())))))
def within (x:(Int×List Int)):Bool:=
 (aq (run (mU x) 0) fun r=>
 (Sum.elim (fun a=>
 false) (fun b=>
 true) r))
def wH (x:(Int×List Int)):Prop:=
 (Term (mU x) (BD x) 0)
def age (x:(Int×List Int)):Tr Bool true:=
 (aF.lp (QE x) (IF x) z0 fun r=>
 (.ri r (fun a=>
 (.ret false)) (fun b=>
 (.ret true))))
abbrev zf:bB:=⟨(.pair (.one yi) (.one (Ty.sl yi))),(.one Ty.bool),wH,within⟩
theorem acI:ah Tryz.prog 103 (ak zf):=ah.tr zf age (fn:=Tryz.f103) ax Co mixed (by kernel_rfl) (av.nil _ _) (fun x=>(au.tr ax (ae.bD Co (av.nil _ _)) mixed 0 (QE x) (IF x) au.nil (by kernel_rfl) fun g s Q=>(by kernel_rfl))) (fun x=>(by kernel_rfl)) fun x Q=>(by kernel_rfl)
def Qx:List (Nat×Ev.Spec):=(103,ak zf)::ZJ
theorem wj:ae Tryz.prog Qx:=ae.add (fn:=Tryz.f103) (by kernel_rfl) acI Co
def ad6 (x:(List I2)):aF:=⟨[],⟨bq 19 0 [(5,.v (.one (.full 0))),(6,.v (.one (.i .i64))),(7,.v (.one (.i .i64)))],[.row aQ 0],0,none,[],[0,2],[1],[.i],[.i (x.length:Int),.l aQ x]⟩,[⟨.ret,.ret,⟨bq 19 0 [(2,.v (.one (.b)))],[],0,none,[],[0],[],[],[.b false]⟩⟩,⟨(.exit 0),.normal,⟨bq 19 0 [],[],0,none,[],[],[],[],[]⟩⟩]⟩
def rO (x:(List I2)) (s:Int):Int⊕(Unit⊕Unit):=
 (if (s<(x.length:Int)) then
 (aq (near [(x.getD s.toNat (0,0)).1,(x.getD s.toNat (0,0)).2]) fun y=>
 (if ((!y)=true) then
 (Sum.inr (Sum.inl ())) else
 (Sum.inl (aj (s+1))))) else
 (Sum.inr (Sum.inr (()))))
def Ky (x:(List I2)) (s:Int):Prop:=
 ((s<(x.length:Int))->
 (((0<=s)/\ (s<(x.length:Int)))/\
 ((s.toNat<x.length)/\
 ((s.toNat<x.length)/\
 (Du [(x.getD s.toNat (0,0)).1,(x.getD s.toNat (0,0)).2])))))
def Tx (x:(List I2)) (s:Int):Tr (Int⊕(Unit⊕Unit)) true:=
 (.i10 (s<(nL x))
 (.gu s x
 (.fn KS [(gT x s jg).1,(gT x s jg).2] fun y=>
 (.cQ (!y)
 (.ret (.inr (Sum.inl ())))
 (.ret (.inl (w1 s))))))
 (.ret (.inr (Sum.inr (())))))
def is2 (x:(List I2)):Bool:=
 (aq (run (rO x) 0) fun r=>
 (Sum.elim (fun a=>
 false) (fun b=>
 true) r))
def Dd (x:(List I2)):Prop:=
 (Term (rO x) (Ky x) 0)
def alQ (x:(List I2)):Tr Bool true:=
 (aF.lp (ad6 x) (Tx x) z0 fun r=>
 (.ri r (fun a=>
 (.ret false)) (fun b=>
 (.ret true))))
abbrev Oz:bB:=⟨(.one (Ty.sl aQ)),(.one Ty.bool),Dd,is2⟩
theorem ajB:ah Tryz.prog 119 (ak Oz):=ah.tr Oz alQ (fn:=Tryz.f119) ax wj mixed (by kernel_rfl) (av.nil _ _) (fun x=>(au.tr ax (ae.bD wj (av.nil _ _)) mixed 0 (ad6 x) (Tx x) au.nil (by kernel_rfl) fun g s Q=>(by kernel_rfl))) (fun x=>(by kernel_rfl)) fun x Q=>(by kernel_rfl)
def afU:List (Nat×Ev.Spec):=(119,ak Oz)::Qx
theorem GG:ae Tryz.prog afU:=ae.add (fn:=Tryz.f119) (by kernel_rfl) ajB wj
def ad7 (x:(List I3)):aF:=⟨[],⟨bq 21 0 [(5,.v (.one (.full 0))),(6,.v (.one (.i .i64))),(7,.v (.one (.i .i64)))],[.row aU 0],0,none,[],[0,2],[1],[.i],[.i (x.length:Int),.l aU x]⟩,[⟨.ret,.ret,⟨bq 21 0 [(2,.v (.one (.b)))],[],0,none,[],[0],[],[],[.b false]⟩⟩,⟨(.exit 0),.normal,⟨bq 21 0 [],[],0,none,[],[],[],[],[]⟩⟩]⟩
def rP (x:(List I3)) (s:Int):Int⊕(Unit⊕Unit):=
 (if (s<(x.length:Int)) then
 (aq (near [(x.getD s.toNat (0,0,0)).1,(x.getD s.toNat (0,0,0)).2.1,(x.getD s.toNat (0,0,0)).2.2]) fun y=>
 (if ((!y)=true) then
 (Sum.inr (Sum.inl ())) else
 (Sum.inl (aj (s+1))))) else
 (Sum.inr (Sum.inr (()))))
def Kz (x:(List I3)) (s:Int):Prop:=
 ((s<(x.length:Int))->
 (((0<=s)/\ (s<(x.length:Int)))/\
 ((s.toNat<x.length)/\
 ((s.toNat<x.length)/\
 (Du [(x.getD s.toNat (0,0,0)).1,(x.getD s.toNat (0,0,0)).2.1,(x.getD s.toNat (0,0,0)).2.2])))))
def TA (x:(List I3)) (s:Int):Tr (Int⊕(Unit⊕Unit)) true:=
 (.i10 (s<(nL x))
 (.gu s x
 (.fn KS [(gT x s ef).1,(gT x s ef).2.1,(gT x s ef).2.2] fun y=>
 (.cQ (!y)
 (.ret (.inr (Sum.inl ())))
 (.ret (.inl (w1 s))))))
 (.ret (.inr (Sum.inr (())))))
def is3 (x:(List I3)):Bool:=
 (aq (run (rP x) 0) fun r=>
 (Sum.elim (fun a=>
 false) (fun b=>
 true) r))
def Jg (x:(List I3)):Prop:=
 (Term (rP x) (Kz x) 0)
def alR (x:(List I3)):Tr Bool true:=
 (aF.lp (ad7 x) (TA x) z0 fun r=>
 (.ri r (fun a=>
 (.ret false)) (fun b=>
 (.ret true))))
abbrev Tz:bB:=⟨(.one (Ty.sl aU)),(.one Ty.bool),Jg,is3⟩
theorem ajC:ah Tryz.prog 118 (ak Tz):=ah.tr Tz alR (fn:=Tryz.f118) ax GG mixed (by kernel_rfl) (av.nil _ _) (fun x=>(au.tr ax (ae.bD GG (av.nil _ _)) mixed 0 (ad7 x) (TA x) au.nil (by kernel_rfl) fun g s Q=>(by kernel_rfl))) (fun x=>(by kernel_rfl)) fun x Q=>(by kernel_rfl)
def afV:List (Nat×Ev.Spec):=(118,ak Tz)::afU
theorem GH:ae Tryz.prog afV:=ae.add (fn:=Tryz.f118) (by kernel_rfl) ajC GG
def Pw (x:(List I2)):aF:=⟨[],⟨bq 19 0 [(5,.v (.one (.full 0))),(6,.v (.one (.i .i64))),(7,.v (.one (.i .i64)))],[.row aQ 0],0,none,[],[0,2],[1],[.i],[.i (x.length:Int),.l aQ x]⟩,[⟨.ret,.ret,⟨bq 19 0 [(2,.v (.one (.b)))],[],0,none,[],[0],[],[],[.b false]⟩⟩,⟨(.exit 0),.normal,⟨bq 19 0 [],[],0,none,[],[],[],[],[]⟩⟩]⟩
def mK (x:(List I2)) (s:Int):Int⊕(Unit⊕Unit):=
 (if (s<(x.length:Int)) then
 (aq (within (4096,[(x.getD s.toNat (0,0)).1,(x.getD s.toNat (0,0)).2])) fun y=>
 (if ((!y)=true) then
 (Sum.inr (Sum.inl ())) else
 (Sum.inl (aj (s+1))))) else
 (Sum.inr (Sum.inr (()))))
def A7 (x:(List I2)) (s:Int):Prop:=
 ((s<(x.length:Int))->
 (((0<=s)/\ (s<(x.length:Int)))/\
 ((s.toNat<x.length)/\
 ((s.toNat<x.length)/\
 (wH (4096,[(x.getD s.toNat (0,0)).1,(x.getD s.toNat (0,0)).2]))))))
def HV (x:(List I2)) (s:Int):Tr (Int⊕(Unit⊕Unit)) true:=
 (.i10 (s<(nL x))
 (.gu s x
 (.fn zf (4096,[(gT x s jg).1,(gT x s jg).2]) fun y=>
 (.cQ (!y)
 (.ret (.inr (Sum.inl ())))
 (.ret (.inl (w1 s))))))
 (.ret (.inr (Sum.inr (())))))
def fA (x:(List I2)):Bool:=
 (aq (run (mK x) 0) fun r=>
 (Sum.elim (fun a=>
 false) (fun b=>
 true) r))
def dD (x:(List I2)):Prop:=
 (Term (mK x) (A7 x) 0)
def afN (x:(List I2)):Tr Bool true:=
 (aF.lp (Pw x) (HV x) z0 fun r=>
 (.ri r (fun a=>
 (.ret false)) (fun b=>
 (.ret true))))
abbrev oZ:bB:=⟨(.one (Ty.sl aQ)),(.one Ty.bool),dD,fA⟩
theorem acy:ah Tryz.prog 63 (ak oZ):=ah.tr oZ afN (fn:=Tryz.f63) ax GH mixed (by kernel_rfl) (av.nil _ _) (fun x=>(au.tr ax (ae.bD GH (av.nil _ _)) mixed 0 (Pw x) (HV x) au.nil (by kernel_rfl) fun g s Q=>(by kernel_rfl))) (fun x=>(by kernel_rfl)) fun x Q=>(by kernel_rfl)
def Qt:List (Nat×Ev.Spec):=(63,ak oZ)::afV
theorem wh:ae Tryz.prog Qt:=ae.add (fn:=Tryz.f63) (by kernel_rfl) acy GH
def Px (x:(List I3)):aF:=⟨[],⟨bq 21 0 [(5,.v (.one (.full 0))),(6,.v (.one (.i .i64))),(7,.v (.one (.i .i64)))],[.row aU 0],0,none,[],[0,2],[1],[.i],[.i (x.length:Int),.l aU x]⟩,[⟨.ret,.ret,⟨bq 21 0 [(2,.v (.one (.b)))],[],0,none,[],[0],[],[],[.b false]⟩⟩,⟨(.exit 0),.normal,⟨bq 21 0 [],[],0,none,[],[],[],[],[]⟩⟩]⟩
def mL (x:(List I3)) (s:Int):Int⊕(Unit⊕Unit):=
 (if (s<(x.length:Int)) then
 (aq (within (16384,[(x.getD s.toNat (0,0,0)).1,(x.getD s.toNat (0,0,0)).2.1,(x.getD s.toNat (0,0,0)).2.2])) fun y=>
 (if ((!y)=true) then
 (Sum.inr (Sum.inl ())) else
 (Sum.inl (aj (s+1))))) else
 (Sum.inr (Sum.inr (()))))
def A8 (x:(List I3)) (s:Int):Prop:=
 ((s<(x.length:Int))->
 (((0<=s)/\ (s<(x.length:Int)))/\
 ((s.toNat<x.length)/\
 ((s.toNat<x.length)/\
 (wH (16384,[(x.getD s.toNat (0,0,0)).1,(x.getD s.toNat (0,0,0)).2.1,(x.getD s.toNat (0,0,0)).2.2]))))))
def HW (x:(List I3)) (s:Int):Tr (Int⊕(Unit⊕Unit)) true:=
 (.i10 (s<(nL x))
 (.gu s x
 (.fn zf (16384,[(gT x s ef).1,(gT x s ef).2.1,(gT x s ef).2.2]) fun y=>
 (.cQ (!y)
 (.ret (.inr (Sum.inl ())))
 (.ret (.inl (w1 s))))))
 (.ret (.inr (Sum.inr (())))))
def LY (x:(List I3)):Bool:=
 (aq (run (mL x) 0) fun r=>
 (Sum.elim (fun a=>
 false) (fun b=>
 true) r))
def Cl (x:(List I3)):Prop:=
 (Term (mL x) (A8 x) 0)
def afO (x:(List I3)):Tr Bool true:=
 (aF.lp (Px x) (HW x) z0 fun r=>
 (.ri r (fun a=>
 (.ret false)) (fun b=>
 (.ret true))))
abbrev Ex:bB:=⟨(.one (Ty.sl aU)),(.one Ty.bool),Cl,LY⟩
theorem acz:ah Tryz.prog 64 (ak Ex):=ah.tr Ex afO (fn:=Tryz.f64) ax wh mixed (by kernel_rfl) (av.nil _ _) (fun x=>(au.tr ax (ae.bD wh (av.nil _ _)) mixed 0 (Px x) (HW x) au.nil (by kernel_rfl) fun g s Q=>(by kernel_rfl))) (fun x=>(by kernel_rfl)) fun x Q=>(by kernel_rfl)
def Qu:List (Nat×Ev.Spec):=(64,ak Ex)::Qt
theorem Fk:ae Tryz.prog Qu:=ae.add (fn:=Tryz.f64) (by kernel_rfl) acz wh
def IZ (x:(I2×I2)):I2:=
 (aq (is2 [x.1,x.2]) fun y=>
 (if ((!y)=true) then
 (0,0) else
 ((aj (x.1.1- x.2.1)),(aj (x.1.2- x.2.2)))))
def q7 (x:(I2×I2)):Prop:=
 (Dd [x.1,x.2])
def akd (x:(I2×I2)):Tr I2 true:=
 (.fn Oz [x.1,x.2] fun y=>
 (.cQ (!y)
 (.ret jg)
 (.ret ((aj (x.1.1- x.2.1)),(aj (x.1.2- x.2.2))))))
abbrev yW:bB:=⟨(.pair (.agg aQ) (.agg aQ)),(.agg aQ),q7,IZ⟩
theorem aib:ah Tryz.prog 99 (ak yW):=ah.tr yW akd (fn:=Tryz.f99) ax Fk mixed (by kernel_rfl) (av.nil _ _) (fun x=>au.nil) (fun x=>(by kernel_rfl)) fun x Q=>(by kernel_rfl)
def ZR:List (Nat×Ev.Spec):=(99,ak yW)::Qu
theorem Mz:ae Tryz.prog ZR:=ae.add (fn:=Tryz.f99) (by kernel_rfl) aib Fk
def QZ (x:(I2×I2)):I2:=
 (aq (is2 [x.1,x.2]) fun y=>
 (if ((!y)=true) then
 (0,5) else
 ((aj ((aj (x.1.1*x.2.2))- (aj (x.1.2*x.2.1)))),0)))
def JV (x:(I2×I2)):Prop:=
 (Dd [x.1,x.2])
def ade (x:(I2×I2)):Tr I2 true:=
 (.fn Oz [x.1,x.2] fun y=>
 (.cQ (!y)
 (.ret (z0,5))
 (.ret ((aj ((aj (x.1.1*x.2.2))- (aj (x.1.2*x.2.1)))),z0))))
abbrev CM:bB:=⟨(.pair (.agg aQ) (.agg aQ)),(.pair (.one yi) (.one yi)),JV,QZ⟩
theorem aam:ah Tryz.prog 173 (ak CM):=ah.tr CM ade (fn:=Tryz.f173) ax Mz mixed (by kernel_rfl) (av.nil _ _) (fun x=>au.nil) (fun x=>(by kernel_rfl)) fun x Q=>(by kernel_rfl)
def PD:List (Nat×Ev.Spec):=(173,ak CM)::ZR
theorem ED:ae Tryz.prog PD:=ae.add (fn:=Tryz.f173) (by kernel_rfl) aam Mz
def Rf (x:Int):I2:=
 ((aj (Int.tdiv x 1000000000)),(Int.tmod x 1000000000))
def Wm (_:Int):Prop:=True
def adH (x:Int):Tr I2 false:=
 (.ret ((aj (Int.tdiv x 1000000000)),(Int.tmod x 1000000000)))
abbrev xI:bB:=⟨(.one yi),(.agg aQ),Wm,Rf⟩
theorem aaI:ah Tryz.prog 174 (ak xI):=ah.tr xI adH (fn:=Tryz.f174) ax ED mixed (by kernel_rfl) (av.nil _ _) (fun x=>au.nil) (fun x=>(by kernel_rfl)) fun x Q=>(by kernel_rfl)
def PL:List (Nat×Ev.Spec):=(174,ak xI)::PD
theorem EH:ae Tryz.prog PL:=ae.add (fn:=Tryz.f174) (by kernel_rfl) aaI ED
def wis (x:I2):Bool:=
 (if (x.2>=0) then
 (if (x.2<1000000000000000000) then
 (if (x.1>=(-4000000000000000000)) then
 (decide (x.1<=4000000000000000000)) else
 false) else
 false) else
 false)
def aim (_:I2):Prop:=True
def amk (x:I2):Tr Bool false:=
 (.fm (x.2>=z0)
 (.fm (x.2<1000000000000000000)
 (.fm (x.1>=(-4000000000000000000))
 (.ret (decide (x.1<=4000000000000000000)))
 (.ret false))
 (.ret false))
 (.ret false))
abbrev VK:bB:=⟨(.agg aQ),(.one Ty.bool),aim,wis⟩
theorem akj:ah Tryz.prog 188 (ak VK):=ah.tr VK amk (fn:=Tryz.f188) ax EH mixed (by kernel_rfl) (av.nil _ _) (fun x=>au.nil) (fun x=>(by kernel_rfl)) fun x Q=>(by kernel_rfl)
def af0:List (Nat×Ev.Spec):=(188,ak VK)::PL
theorem Qw:ae Tryz.prog af0:=ae.add (fn:=Tryz.f188) (by kernel_rfl) akj EH
def Yx (x:I2):(I2×Int):=
 (aq (wis x) fun y=>
 (if ((!y)=true) then
 ((0,0),4) else
 (x,0)))
def Yy (_:I2):Prop:=True
def agj (x:I2):Tr (I2×Int) false:=
 (.fn0 VK x trivial fun y=>
 (.cQ (!y)
 (.ret (jg,4))
 (.ret (x,z0))))
abbrev FA:bB:=⟨(.agg aQ),(.pair (.agg aQ) (.one yi)),Yy,Yx⟩
theorem acJ:ah Tryz.prog 189 (ak FA):=ah.tr FA agj (fn:=Tryz.f189) ax Qw mixed (by kernel_rfl) (av.nil _ _) (fun x=>au.nil) (fun x=>(by kernel_rfl)) fun x Q=>(by kernel_rfl)
def Qy:List (Nat×Ev.Spec):=(189,ak FA)::af0
theorem Fm:ae Tryz.prog Qy:=ae.add (fn:=Tryz.f189) (by kernel_rfl) acJ Qw
def aio (x:I2):(I2×Int):=
 (aq (wis x) fun y=>
 (if ((!y)=true) then
 ((0,0),1) else
 (if ((x.2==0)=true) then
 (((aj (0- x.1)),0),0) else
 (aq (Yx ((aj ((aj (0- x.1))- 1)),(aj (1000000000000000000- x.2)))) fun aB=>
 aB))))
def agi (_:I2):Prop:=True
def akl (x:I2):Tr (I2×Int) false:=
 (.fn0 VK x trivial fun y=>
 (.cQ (!y)
 (.ret (jg,z1))
 (.cQ (x.2==z0)
 (.ret (((aj (z0- x.1)),z0),z0))
 (.fn0 FA ((wm (aj (z0- x.1))),(aj (1000000000000000000- x.2))) trivial fun aB=>
 (.ret aB)))))
abbrev SP:bB:=⟨(.agg aQ),(.pair (.agg aQ) (.one yi)),agi,aio⟩
theorem aip:ah Tryz.prog 175 (ak SP):=ah.tr SP akl (fn:=Tryz.f175) ax Fm mixed (by kernel_rfl) (av.nil _ _) (fun x=>au.nil) (fun x=>(by kernel_rfl)) fun x Q=>(by kernel_rfl)
def ZV:List (Nat×Ev.Spec):=(175,ak SP)::Qy
theorem Cr:ae Tryz.prog ZV:=ae.add (fn:=Tryz.f175) (by kernel_rfl) aip Fm
def adb (x:(List Int)):aF:=⟨[],⟨bq 18 0 [(3,.v (.one (.i .i64))),(6,.v (.one (.full 0))),(7,.v (.one (.i .i64))),(8,.v (.one (.i .i64)))],[.row yi 0],0,none,[],[0,1,3],[2],[.i],[.i 0,.i (x.length:Int),.l yi x]⟩,[⟨.ret,.ret,⟨bq 18 0 [(2,.v (.one (.i .i64)))],[],0,none,[],[],[0],[.i],[]⟩⟩,⟨(.exit 0),.normal,⟨bq 18 0 [(3,.v (.one (.i .i64)))],[],0,none,[],[0],[],[],[.i 0]⟩⟩]⟩
def oC (x:(List Int)) (s:Int):Int⊕(Int⊕Unit):=
 (if (s<(x.length:Int)) then
 (if (((x.getD s.toNat 0) !=0)=true) then
 (Sum.inr (Sum.inl (x.getD s.toNat 0))) else
 (Sum.inl (aj (s+1)))) else
 (Sum.inr (Sum.inr (()))))
def BL (x:(List Int)) (s:Int):Prop:=
 ((s<(x.length:Int))->
 (((0<=s)/\ (s<(x.length:Int)))/\
 ((s.toNat<x.length)/\
 (s.toNat<x.length))))
def S9 (x:(List Int)) (s:Int):Tr (Int⊕(Int⊕Unit)) true:=
 (.i10 (s<(nL x))
 (.gu s x
 (.cQ ((gI x s) !=z0)
 (.ret (.inr (Sum.inl (gI x s))))
 (.ret (.inl (w1 s)))))
 (.ret (.inr (Sum.inr (())))))
def cor (x:(List Int)):Int:=
 (aq (run (oC x) 0) fun r=>
 (Sum.elim (fun a=>
 a) (fun b=>
 0) r))
def CL (x:(List Int)):Prop:=
 (Term (oC x) (BL x) 0)
def akM (x:(List Int)):Tr Int true:=
 (aF.lp (adb x) (S9 x) z0 fun r=>
 (.ri r (fun a=>
 (.ret a)) (fun b=>
 (.ret z0))))
abbrev N6:bB:=⟨(.one (Ty.sl yi)),(.one yi),CL,cor⟩
theorem ai8:ah Tryz.prog 147 (ak N6):=ah.tr N6 akM (fn:=Tryz.f147) ax Cr mixed (by kernel_rfl) (av.nil _ _) (fun x=>(au.tr ax (ae.bD Cr (av.nil _ _)) mixed 0 (adb x) (S9 x) au.nil (by kernel_rfl) fun g s Q=>(by kernel_rfl))) (fun x=>(by kernel_rfl)) fun x Q=>(by kernel_rfl)
def afP:List (Nat×Ev.Spec):=(147,ak N6)::ZV
theorem PB:ae Tryz.prog afP:=ae.add (fn:=Tryz.f147) (by kernel_rfl) ai8 Cr
def Yw (x:I2):(I2×Int):=
 (if ((aI x.1 x.2)>1000000000000000000) then
 ((0,0),2) else
 (if ((aG x.1 x.2)<(-1000000000000000000)) then
 ((0,0),2) else
 (aq (Rf (aI x.1 (aj (0- x.1)))) fun y=>
 (aq (Rf (aI x.2 (aj (0- x.2)))) fun aB=>
 (if ((!((decide (x.1<0))==(decide (x.2<0))))=true) then
 (aq (aio ((aj ((aj ((aj (y.1*aB.1))+(aj (Int.tdiv (aj ((aj (y.1*aB.2))+(aj (y.2*aB.1)))) 1000000000))))+(aj (Int.tdiv (aj ((aj (y.2*aB.2))+(aj ((Int.tmod (aj ((aj (y.1*aB.2))+(aj (y.2*aB.1)))) 1000000000)*1000000000)))) 1000000000000000000)))),(Int.tmod (aj ((aj (y.2*aB.2))+(aj ((Int.tmod (aj ((aj (y.1*aB.2))+(aj (y.2*aB.1)))) 1000000000)*1000000000)))) 1000000000000000000))) fun y_2=>
 y_2) else
 (((aj ((aj ((aj (y.1*aB.1))+(aj (Int.tdiv (aj ((aj (y.1*aB.2))+(aj (y.2*aB.1)))) 1000000000))))+(aj (Int.tdiv (aj ((aj (y.2*aB.2))+(aj ((Int.tmod (aj ((aj (y.1*aB.2))+(aj (y.2*aB.1)))) 1000000000)*1000000000)))) 1000000000000000000)))),(Int.tmod (aj ((aj (y.2*aB.2))+(aj ((Int.tmod (aj ((aj (y.1*aB.2))+(aj (y.2*aB.1)))) 1000000000)*1000000000)))) 1000000000000000000)),0))))))
def agf (_:I2):Prop:=True
def akk (x:I2):Tr (I2×Int) false:=
 (.fm ((aI x.1 x.2)>1000000000000000000)
 (.ret (jg,2))
 (.fm ((aG x.1 x.2)<(-1000000000000000000))
 (.ret (jg,2))
 (.fn0 xI (aI x.1 (aj (z0- x.1))) trivial fun y=>
 (.fn0 xI (aI x.2 (aj (z0- x.2))) trivial fun aB=>
 (.cQ (!((decide (x.1<z0))==(decide (x.2<z0))))
 (.fn0 SP ((aj ((aj ((aj (y.1*aB.1))+(aj (Int.tdiv (aj ((aj (y.1*aB.2))+(aj (y.2*aB.1)))) 1000000000))))+(aj (Int.tdiv (aj ((aj (y.2*aB.2))+(aj ((Int.tmod (aj ((aj (y.1*aB.2))+(aj (y.2*aB.1)))) 1000000000)*1000000000)))) 1000000000000000000)))),(Int.tmod (aj ((aj (y.2*aB.2))+(aj ((Int.tmod (aj ((aj (y.1*aB.2))+(aj (y.2*aB.1)))) 1000000000)*1000000000)))) 1000000000000000000)) trivial fun y_2=>
 (.ret y_2))
 (.ret (((aj ((aj ((aj (y.1*aB.1))+(aj (Int.tdiv (aj ((aj (y.1*aB.2))+(aj (y.2*aB.1)))) 1000000000))))+(aj (Int.tdiv (aj ((aj (y.2*aB.2))+(aj ((Int.tmod (aj ((aj (y.1*aB.2))+(aj (y.2*aB.1)))) 1000000000)*1000000000)))) 1000000000000000000)))),(Int.tmod (aj ((aj (y.2*aB.2))+(aj ((Int.tmod (aj ((aj (y.1*aB.2))+(aj (y.2*aB.1)))) 1000000000)*1000000000)))) 1000000000000000000)),z0)))))))
abbrev MU:bB:=⟨(.pair (.one yi) (.one yi)),(.pair (.agg aQ) (.one yi)),agf,Yw⟩
theorem ain:ah Tryz.prog 145 (ak MU):=ah.tr MU akk (fn:=Tryz.f145) ax PB mixed (by kernel_rfl) (av.nil _ _) (fun x=>au.nil) (fun x=>(by kernel_rfl)) fun x Q=>(by kernel_rfl)
def ZU:List (Nat×Ev.Spec):=(145,ak MU)::afP
theorem ME:ae Tryz.prog ZU:=ae.add (fn:=Tryz.f145) (by kernel_rfl) ain PB
def aij (x:(I2×I2)):Int:=
 (if (((x.1.1==x.2.1)&&((x.1.2==x.2.2)&&true))=true) then
 0 else
 (aq (compare (x.1.1,x.2.1)) fun y=>
 (aq (compare (x.1.2,x.2.2)) fun aB=>
 (aq (cor [y,aB]) fun y_2=>
 y_2))))
def MS (x:(I2×I2)):Prop:=
 (¬(((x.1.1==x.2.1)&&((x.1.2==x.2.2)&&true))=true)->
 (az (compare (x.1.1,x.2.1)) fun y=>
 (az (compare (x.1.2,x.2.2)) fun aB=>
 (CL [y,aB]))))
def aki (x:(I2×I2)):Tr Int true:=
 (.dy ((x.1.1==x.2.1)&&((x.1.2==x.2.2)&&true))
 (.ret z0)
 (.fn0 iU (x.1.1,x.2.1) trivial fun y=>
 (.fn0 iU (x.1.2,x.2.2) trivial fun aB=>
 (.fn N6 [y,aB] fun y_2=>
 (.ret y_2)))))
abbrev SN:bB:=⟨(.pair (.agg aQ) (.agg aQ)),(.one yi),MS,aij⟩
theorem aik:ah Tryz.prog 146 (ak SN):=ah.tr SN aki (fn:=Tryz.f146) ax ME mixed (by kernel_rfl) (av.nil _ _) (fun x=>au.nil) (fun x=>(by kernel_rfl)) fun x Q=>(by kernel_rfl)
def ZT:List (Nat×Ev.Spec):=(146,ak SN)::ZU
theorem MC:ae Tryz.prog ZT:=ae.add (fn:=Tryz.f146) (by kernel_rfl) aik ME
def over (x:I2):Int:=
 (if ((x.2==0)=true) then
 3 else
 (if ((x.1==(-9223372036854775808))=true) then
 (if ((x.2==(-1))=true) then
 4 else
 0) else
 0))
def aeL (_:I2):Prop:=True
def ajY (x:I2):Tr Int false:=
 (.cQ (x.2==z0)
 (.ret 3)
 (.cQ (x.1==(-9223372036854775808))
 (.cQ (x.2==(-1))
 (.ret 4)
 (.ret z0))
 (.ret z0)))
abbrev RI:bB:=⟨(.pair (.one yi) (.one yi)),(.one yi),aeL,over⟩
theorem ahC:ah Tryz.prog 149 (ak RI):=ah.tr RI ajY (fn:=Tryz.f149) ax MC mixed (by kernel_rfl) (av.nil _ _) (fun x=>au.nil) (fun x=>(by kernel_rfl)) fun x Q=>(by kernel_rfl)
def ZM:List (Nat×Ev.Spec):=(149,ak RI)::ZT
theorem Md:ae Tryz.prog ZM:=ae.add (fn:=Tryz.f149) (by kernel_rfl) ahC MC
def SO (x:I2):I3:=
 (aq (over x) fun y=>
 (if ((y !=0)=true) then
 (0,0,y) else
 (if (((Int.tmod x.1 x.2) !=0)=true) then
 (if ((aj (((BitVec.toNat ((BitVec.ofInt 64 (Int.tmod x.1 x.2))^^^(BitVec.ofInt 64 x.2))):Nat):Int))<0) then
 ((aj ((aj (Int.tdiv x.1 x.2))- 1)),(aj ((Int.tmod x.1 x.2)+x.2)),0) else
 ((aj (Int.tdiv x.1 x.2)),(Int.tmod x.1 x.2),0)) else
 ((aj (Int.tdiv x.1 x.2)),(Int.tmod x.1 x.2),0))))
def wF (x:I2):Prop:=
 (az (over x) fun y=>
 (¬((y !=0)=true)->
 ((x.2≠0)/\
 (x.2≠0))))
def agd (x:I2):Tr I3 true:=
 (.fn0 RI x trivial fun y=>
 (.dy (y !=z0)
 (.ret (z0,z0,y))
 (.od (x.2≠z0)
 (.od (x.2≠z0)
 (.cQ ((Int.tmod x.1 x.2) !=z0)
 (.fm ((aj (((BitVec.toNat ((BitVec.ofInt 64 (Int.tmod x.1 x.2))^^^(BitVec.ofInt 64 x.2))):Nat):Int))<z0)
 (.ret ((wm (aj (Int.tdiv x.1 x.2))),(aj ((Int.tmod x.1 x.2)+x.2)),z0))
 (.ret ((aj (Int.tdiv x.1 x.2)),(Int.tmod x.1 x.2),z0)))
 (.ret ((aj (Int.tdiv x.1 x.2)),(Int.tmod x.1 x.2),z0)))))))
abbrev Fz:bB:=⟨(.pair (.one yi) (.one yi)),(.pair (.one yi) (.pair (.one yi) (.one yi))),wF,SO⟩
theorem acG:ah Tryz.prog 105 (ak Fz):=ah.tr Fz agd (fn:=Tryz.f105) ax Md mixed (by kernel_rfl) (av.nil _ _) (fun x=>au.nil) (fun x=>(by kernel_rfl)) fun x Q=>(by kernel_rfl)
def Qv:List (Nat×Ev.Spec):=(105,ak Fz)::ZM
theorem Fl:ae Tryz.prog Qv:=ae.add (fn:=Tryz.f105) (by kernel_rfl) acG Md
def floor (x:I2):Int:=
 (aq (SO x) fun y=>
 y.1)
def qk (x:I2):Prop:=
 (wF x)
def ag5 (x:I2):Tr Int true:=
 (.fn Fz x fun y=>
 (.ret y.1))
abbrev rK:bB:=⟨(.pair (.one yi) (.one yi)),(.one yi),qk,floor⟩
theorem adw:ah Tryz.prog 66 (ak rK):=ah.tr rK ag5 (fn:=Tryz.f66) ax Fl mixed (by kernel_rfl) (av.nil _ _) (fun x=>au.nil) (fun x=>(by kernel_rfl)) fun x Q=>(by kernel_rfl)
def Ve:List (Nat×Ev.Spec):=(66,ak rK)::Qv
theorem H6:ae Tryz.prog Ve:=ae.add (fn:=Tryz.f66) (by kernel_rfl) adw Fl
def Zh (x:I6):I2:=
 (aq (fA [x.1,x.2.1,x.2.2]) fun y=>
 (if ((!y)=true) then
 (0,5) else
 (aq (IZ (x.2.1,x.1)) fun aB=>
 (aq (IZ (x.2.2,x.1)) fun y_2=>
 (aq (QZ (aB,y_2)) fun bh=>
 bh)))))
def OV (x:I6):Prop:=
 ((dD [x.1,x.2.1,x.2.2])/\
 az (fA [x.1,x.2.1,x.2.2]) fun y=>
 (¬((!y)=true)->
 ((q7 (x.2.1,x.1))/\
 az (IZ (x.2.1,x.1)) fun aB=>
 ((q7 (x.2.2,x.1))/\
 az (IZ (x.2.2,x.1)) fun y_2=>
 (JV (aB,y_2))))))
def ahE (x:I6):Tr I2 true:=
 (.fn oZ [x.1,x.2.1,x.2.2] fun y=>
 (.dy (!y)
 (.ret (z0,5))
 (.fn yW (x.2.1,x.1) fun aB=>
 (.fn yW (x.2.2,x.1) fun y_2=>
 (.fn CM (aB,y_2) fun bh=>
 (.ret bh))))))
abbrev Jq:bB:=⟨(.agg aZ),(.pair (.one yi) (.one yi)),OV,Zh⟩
theorem aeN:ah Tryz.prog 140 (ak Jq):=ah.tr Jq ahE (fn:=Tryz.f140) ax H6 mixed (by kernel_rfl) (av.nil _ _) (fun x=>au.nil) (fun x=>(by kernel_rfl)) fun x Q=>(by kernel_rfl)
def Vo:List (Nat×Ev.Spec):=(140,ak Jq)::Ve
theorem Ie:ae Tryz.prog Vo:=ae.add (fn:=Tryz.f140) (by kernel_rfl) aeN H6
def sC (x:I6):I2:=
 (aq (Zh x) fun y=>
 y)
def j0 (x:I6):Prop:=
 (OV x)
def ah7 (x:I6):Tr I2 true:=
 (.fn Jq x fun y=>
 (.ret y))
abbrev oe:bB:=⟨(.pair (.agg aQ) (.pair (.agg aQ) (.agg aQ))),(.pair (.one yi) (.one yi)),j0,sC⟩
theorem afE:ah Tryz.prog 95 (ak oe):=ah.tr oe ah7 (fn:=Tryz.f95) ax Ie mixed (by kernel_rfl) (av.nil _ _) (fun x=>au.nil) (fun x=>(by kernel_rfl)) fun x Q=>(by kernel_rfl)
def VA:List (Nat×Ev.Spec):=(95,ak oe)::Vo
theorem Iw:ae Tryz.prog VA:=ae.add (fn:=Tryz.f95) (by kernel_rfl) afE Ie
def Bz (x:I6):I2:=
 (aq (sC x) fun y=>
 (aq (compare (y.1,0)) fun aB=>
 (aB,y.2)))
def uC (x:I6):Prop:=
 (j0 x)
def aia (x:I6):Tr I2 true:=
 (.fn oe x fun y=>
 (.fn0 iU (y.1,z0) trivial fun aB=>
 (.ret (aB,y.2))))
abbrev wk:bB:=⟨(.pair (.agg aQ) (.pair (.agg aQ) (.agg aQ))),(.pair (.one yi) (.one yi)),uC,Bz⟩
theorem af1:ah Tryz.prog 104 (ak wk):=ah.tr wk aia (fn:=Tryz.f104) ax Iw mixed (by kernel_rfl) (av.nil _ _) (fun x=>au.nil) (fun x=>(by kernel_rfl)) fun x Q=>(by kernel_rfl)
def VD:List (Nat×Ev.Spec):=(104,ak wk)::VA
theorem Iz:ae Tryz.prog VD:=ae.add (fn:=Tryz.f104) (by kernel_rfl) af1 Iw
def mright (x:I6):Bool:=
 (aq (sC x) fun y=>
 (if ((y.2==0)=true) then
 (y.1 !=0) else
 false))
def fY (x:I6):Prop:=
 (j0 x)
def aeB (x:I6):Tr Bool true:=
 (.fn oe x fun y=>
 (.cQ (y.2==z0)
 (.ret (y.1 !=z0))
 (.ret false)))
abbrev l8:bB:=⟨(.agg aZ),(.one Ty.bool),fY,mright⟩
theorem aa9:ah Tryz.prog 52 (ak l8):=ah.tr l8 aeB (fn:=Tryz.f52) ax Iz mixed (by kernel_rfl) (av.nil _ _) (fun x=>au.nil) (fun x=>(by kernel_rfl)) fun x Q=>(by kernel_rfl)
def P0:List (Nat×Ev.Spec):=(52,ak l8)::VD
theorem ER:ae Tryz.prog P0:=ae.add (fn:=Tryz.f52) (by kernel_rfl) aa9 Iz
def aex (x:ou):Bool:=
 (if ((aI (aI (x.1.length:Int) (x.2.1.length:Int)) (x.2.2.1.length:Int))<=2000) then
 (decide ((x.2.2.2.length:Int)<=500)) else
 false)
def aez (_:ou):Prop:=True
def ajN (x:ou):Tr Bool false:=
 (.fm ((aI (aI (nL x.1) (nL x.2.1)) (nL x.2.2.1))<=2000)
 (.ret (decide ((nL x.2.2.2)<=500)))
 (.ret false))
abbrev RA:bB:=⟨(.agg (Ty.prod (Ty.sl aU) (Ty.prod (Ty.sl aQ) (Ty.prod (Ty.sl aU) (Ty.sl fk))))),(.one Ty.bool),aez,aex⟩
theorem ahp:ah Tryz.prog 117 (ak RA):=ah.tr RA ajN (fn:=Tryz.f117) ax ER mixed (by kernel_rfl) (av.nil _ _) (fun x=>au.nil) (fun x=>(by kernel_rfl)) fun x Q=>(by kernel_rfl)
def ZI:List (Nat×Ev.Spec):=(117,ak RA)::P0
theorem Mb:ae Tryz.prog ZI:=ae.add (fn:=Tryz.f117) (by kernel_rfl) ahp ER
def jr (x:(Int×Int×Bool)):Bool:=
 (if (x.1>=0) then
 (if (x.1<x.2.1) then
 true else
 (if (x.2.2=true) then
 (x.1==(-1)) else
 false)) else
 (if (x.2.2=true) then
 (x.1==(-1)) else
 false))
def Z7 (_:(Int×Int×Bool)):Prop:=True
def agH (x:(Int×Int×Bool)):Tr Bool false:=
 (.fm (x.1>=z0)
 (.fm (x.1<x.2.1)
 (.ret true)
 (.cQ x.2.2
 (.ret (x.1==(-1)))
 (.ret false)))
 (.cQ x.2.2
 (.ret (x.1==(-1)))
 (.ret false)))
abbrev kF:bB:=⟨(.pair (.one yi) (.pair (.one yi) (.one Ty.bool))),(.one Ty.bool),Z7,jr⟩
theorem acZ:ah Tryz.prog 120 (ak kF):=ah.tr kF agH (fn:=Tryz.f120) ax Mb mixed (by kernel_rfl) (av.nil _ _) (fun x=>au.nil) (fun x=>(by kernel_rfl)) fun x Q=>(by kernel_rfl)
def U7:List (Nat×Ev.Spec):=(120,ak kF)::ZI
theorem sE:ae Tryz.prog U7:=ae.add (fn:=Tryz.f120) (by kernel_rfl) acZ Mb
def OJ (x:ou):aF:=⟨[],⟨bq 86 0 [(1,.v (.one (.ptr 0 0))),(29,.v (.one (.full 4))),(30,.v (.one (.i .i64))),(31,.v (.one (.i .i64)))],[.cells [.full 1,.full 2,.full 3,.full 4] 32,.row aU 0,.row aQ 0,.row aU 0,.row fk 0],0,none,[],[0,2,3,4,5],[1],[.i],[.i (x.2.2.2.length:Int),.l aU x.1,.l aQ x.2.1,.l aU x.2.2.1,.l fk x.2.2.2]⟩,[⟨.ret,.ret,⟨bq 86 0 [(2,.v (.one (.b)))],[],0,none,[],[0],[],[],[.b false]⟩⟩,⟨(.exit 0),.normal,⟨bq 86 0 [],[],0,none,[],[],[],[],[]⟩⟩]⟩
def gP (x:ou) (s:Int):Int⊕(Unit⊕Unit):=
 (if (s<(x.2.2.2.length:Int)) then
 (aq (jr ((x.2.2.2.getD s.toNat ((0,0,0),(0,0,0),0,0,0)).1.1,(x.1.length:Int),false)) fun y=>
 (if ((!y)=true) then
 (Sum.inr (Sum.inl ())) else
 (aq (jr ((x.2.2.2.getD s.toNat ((0,0,0),(0,0,0),0,0,0)).1.2.1,(x.2.1.length:Int),true)) fun aB=>
 (if ((!aB)=true) then
 (Sum.inr (Sum.inl ())) else
 (aq (jr ((x.2.2.2.getD s.toNat ((0,0,0),(0,0,0),0,0,0)).1.2.2,(x.2.2.1.length:Int),true)) fun y_2=>
 (if ((!y_2)=true) then
 (Sum.inr (Sum.inl ())) else
 (if ((!((decide ((x.2.2.2.getD s.toNat ((0,0,0),(0,0,0),0,0,0)).1.2.1<0))==(decide ((x.2.2.2.getD s.toNat ((0,0,0),(0,0,0),0,0,0)).1.2.1<0))))=true) then
 (Sum.inr (Sum.inl ())) else
 (if ((!((decide ((x.2.2.2.getD s.toNat ((0,0,0),(0,0,0),0,0,0)).1.2.2<0))==(decide ((x.2.2.2.getD s.toNat ((0,0,0),(0,0,0),0,0,0)).1.2.2<0))))=true) then
 (Sum.inr (Sum.inl ())) else
 (aq (jr ((x.2.2.2.getD s.toNat ((0,0,0),(0,0,0),0,0,0)).2.1.1,(x.1.length:Int),false)) fun bh=>
 (if ((!bh)=true) then
 (Sum.inr (Sum.inl ())) else
 (aq (jr ((x.2.2.2.getD s.toNat ((0,0,0),(0,0,0),0,0,0)).2.1.2.1,(x.2.1.length:Int),true)) fun bj=>
 (if ((!bj)=true) then
 (Sum.inr (Sum.inl ())) else
 (aq (jr ((x.2.2.2.getD s.toNat ((0,0,0),(0,0,0),0,0,0)).2.1.2.2,(x.2.2.1.length:Int),true)) fun gw=>
 (if ((!gw)=true) then
 (Sum.inr (Sum.inl ())) else
 (if ((!((decide ((x.2.2.2.getD s.toNat ((0,0,0),(0,0,0),0,0,0)).2.1.2.1<0))==(decide ((x.2.2.2.getD s.toNat ((0,0,0),(0,0,0),0,0,0)).1.2.1<0))))=true) then
 (Sum.inr (Sum.inl ())) else
 (if ((!((decide ((x.2.2.2.getD s.toNat ((0,0,0),(0,0,0),0,0,0)).2.1.2.2<0))==(decide ((x.2.2.2.getD s.toNat ((0,0,0),(0,0,0),0,0,0)).1.2.2<0))))=true) then
 (Sum.inr (Sum.inl ())) else
 (aq (jr ((x.2.2.2.getD s.toNat ((0,0,0),(0,0,0),0,0,0)).2.2.1,(x.1.length:Int),false)) fun tF=>
 (if ((!tF)=true) then
 (Sum.inr (Sum.inl ())) else
 (aq (jr ((x.2.2.2.getD s.toNat ((0,0,0),(0,0,0),0,0,0)).2.2.2.1,(x.2.1.length:Int),true)) fun Cv=>
 (if ((!Cv)=true) then
 (Sum.inr (Sum.inl ())) else
 (aq (jr ((x.2.2.2.getD s.toNat ((0,0,0),(0,0,0),0,0,0)).2.2.2.2,(x.2.2.1.length:Int),true)) fun MV=>
 (if ((!MV)=true) then
 (Sum.inr (Sum.inl ())) else
 (if ((!((decide ((x.2.2.2.getD s.toNat ((0,0,0),(0,0,0),0,0,0)).2.2.2.1<0))==(decide ((x.2.2.2.getD s.toNat ((0,0,0),(0,0,0),0,0,0)).1.2.1<0))))=true) then
 (Sum.inr (Sum.inl ())) else
 (if ((!((decide ((x.2.2.2.getD s.toNat ((0,0,0),(0,0,0),0,0,0)).2.2.2.2<0))==(decide ((x.2.2.2.getD s.toNat ((0,0,0),(0,0,0),0,0,0)).1.2.2<0))))=true) then
 (Sum.inr (Sum.inl ())) else
 (Sum.inl (aj (s+1))))))))))))))))))))))))))) else
 (Sum.inr (Sum.inr (()))))
def sY (x:ou) (s:Int):Prop:=
 ((s<(x.2.2.2.length:Int))->
 (((0<=s)/\ (s<(x.2.2.2.length:Int)))/\
 ((s.toNat<x.2.2.2.length)/\
 (s.toNat<x.2.2.2.length))))
def Hq (x:ou) (s:Int):Tr (Int⊕(Unit⊕Unit)) true:=
 (.i10 (s<(nL x.2.2.2))
 (.gu s x.2.2.2
 (.fn0 kF ((gT x.2.2.2 s jq).1.1,(nL x.1),false) trivial fun y=>
 (.cQ (!y)
 (.ret (.inr (Sum.inl ())))
 (.fn0 kF ((gT x.2.2.2 s jq).1.2.1,(nL x.2.1),true) trivial fun aB=>
 (.cQ (!aB)
 (.ret (.inr (Sum.inl ())))
 (.fn0 kF ((gT x.2.2.2 s jq).1.2.2,(nL x.2.2.1),true) trivial fun y_2=>
 (.cQ (!y_2)
 (.ret (.inr (Sum.inl ())))
 (.cQ (!((decide ((gT x.2.2.2 s jq).1.2.1<z0))==(decide ((gT x.2.2.2 s jq).1.2.1<z0))))
 (.ret (.inr (Sum.inl ())))
 (.cQ (!((decide ((gT x.2.2.2 s jq).1.2.2<z0))==(decide ((gT x.2.2.2 s jq).1.2.2<z0))))
 (.ret (.inr (Sum.inl ())))
 (.fn0 kF ((gT x.2.2.2 s jq).2.1.1,(nL x.1),false) trivial fun bh=>
 (.cQ (!bh)
 (.ret (.inr (Sum.inl ())))
 (.fn0 kF ((gT x.2.2.2 s jq).2.1.2.1,(nL x.2.1),true) trivial fun bj=>
 (.cQ (!bj)
 (.ret (.inr (Sum.inl ())))
 (.fn0 kF ((gT x.2.2.2 s jq).2.1.2.2,(nL x.2.2.1),true) trivial fun gw=>
 (.cQ (!gw)
 (.ret (.inr (Sum.inl ())))
 (.cQ (!((decide ((gT x.2.2.2 s jq).2.1.2.1<z0))==(decide ((gT x.2.2.2 s jq).1.2.1<z0))))
 (.ret (.inr (Sum.inl ())))
 (.cQ (!((decide ((gT x.2.2.2 s jq).2.1.2.2<z0))==(decide ((gT x.2.2.2 s jq).1.2.2<z0))))
 (.ret (.inr (Sum.inl ())))
 (.fn0 kF ((gT x.2.2.2 s jq).2.2.1,(nL x.1),false) trivial fun tF=>
 (.cQ (!tF)
 (.ret (.inr (Sum.inl ())))
 (.fn0 kF ((gT x.2.2.2 s jq).2.2.2.1,(nL x.2.1),true) trivial fun Cv=>
 (.cQ (!Cv)
 (.ret (.inr (Sum.inl ())))
 (.fn0 kF ((gT x.2.2.2 s jq).2.2.2.2,(nL x.2.2.1),true) trivial fun MV=>
 (.cQ (!MV)
 (.ret (.inr (Sum.inl ())))
 (.cQ (!((decide ((gT x.2.2.2 s jq).2.2.2.1<z0))==(decide ((gT x.2.2.2 s jq).1.2.1<z0))))
 (.ret (.inr (Sum.inl ())))
 (.cQ (!((decide ((gT x.2.2.2 s jq).2.2.2.2<z0))==(decide ((gT x.2.2.2 s jq).1.2.2<z0))))
 (.ret (.inr (Sum.inl ())))
 (.ret (.inl (w1 s))))))))))))))))))))))))))))
 (.ret (.inr (Sum.inr (())))))
def KM (x:ou):Bool:=
 (aq (aex x) fun y=>
 (if ((!y)=true) then
 false else
 (aq (is3 x.1) fun aB=>
 (if ((!aB)=true) then
 false else
 (aq (is2 x.2.1) fun y_2=>
 (if ((!y_2)=true) then
 false else
 (aq (is3 x.2.2.1) fun bh=>
 (if ((!bh)=true) then
 false else
 (aq (run (gP x) 0) fun r=>
 (Sum.elim (fun a=>
 false) (fun b=>
 true) r))))))))))
def vh (x:ou):Prop:=
 (az (aex x) fun y=>
 (¬((!y)=true)->
 ((Jg x.1)/\
 az (is3 x.1) fun aB=>
 (¬((!aB)=true)->
 ((Dd x.2.1)/\
 az (is2 x.2.1) fun y_2=>
 (¬((!y_2)=true)->
 ((Jg x.2.2.1)/\
 az (is3 x.2.2.1) fun bh=>
 (¬((!bh)=true)->
 (Term (gP x) (sY x) 0)))))))))
def aew (x:ou):Tr Bool true:=
 (.fn0 RA x trivial fun y=>
 (.dy (!y)
 (.ret false)
 (.fn Tz x.1 fun aB=>
 (.dy (!aB)
 (.ret false)
 (.fn Oz x.2.1 fun y_2=>
 (.dy (!y_2)
 (.ret false)
 (.fn Tz x.2.2.1 fun bh=>
 (.dy (!bh)
 (.ret false)
 (aF.lp (OJ x) (Hq x) z0 fun r=>
 (.ri r (fun a=>
 (.ret false)) (fun b=>
 (.ret true))))))))))))
abbrev Dr:bB:=⟨(.agg (Ty.prod (Ty.sl aU) (Ty.prod (Ty.sl aQ) (Ty.prod (Ty.sl aU) (Ty.sl fk))))),(.one Ty.bool),vh,KM⟩
theorem aa7:ah Tryz.prog 76 (ak Dr):=ah.tr Dr aew (fn:=Tryz.f76) ax sE mixed (by kernel_rfl) (av.nil _ _) (fun x=>(au.tr ax (ae.bD sE (av.nil _ _)) mixed 0 (OJ x) (Hq x) (au.j7 ax (ae.bD sE (av.nil _ _)) mixed 2 4 au.nil (by kernel_rfl)) (by kernel_rfl) fun g s Q=>(by kernel_rfl))) (fun x=>(by kernel_rfl)) fun x Q=>(by kernel_rfl)
def PZ:List (Nat×Ev.Spec):=(76,ak Dr)::U7
theorem EP:ae Tryz.prog PZ:=ae.add (fn:=Tryz.f76) (by kernel_rfl) aa7 sE
def far (x:I3):Bool:=
 (if ((aI (aI x.1 x.2.1) x.2.2)>4096) then
 true else
 (decide ((aG (aG x.1 x.2.1) x.2.2)<(-4096))))
def agU (_:I3):Prop:=True
def akR (x:I3):Tr Bool false:=
 (.fm ((aI (aI x.1 x.2.1) x.2.2)>4096)
 (.ret true)
 (.ret (decide ((aG (aG x.1 x.2.1) x.2.2)<(-4096)))))
abbrev YO:bB:=⟨(.agg aU),(.one Ty.bool),agU,far⟩
theorem ajd:ah Tryz.prog 78 (ak YO):=ah.tr YO akR (fn:=Tryz.f78) ax EP mixed (by kernel_rfl) (av.nil _ _) (fun x=>au.nil) (fun x=>(by kernel_rfl)) fun x Q=>(by kernel_rfl)
def afR:List (Nat×Ev.Spec):=(78,ak YO)::PZ
theorem PF:ae Tryz.prog afR:=ae.add (fn:=Tryz.f78) (by kernel_rfl) ajd EP
def Ol (x:Int):I2:=
 (if (x<0) then
 (0,5) else
 (if (x>4096) then
 (0,5) else
 ((aj ((aj (Int.tdiv x 16))+1)),0)))
def aaF (_:Int):Prop:=True
def ag7 (x:Int):Tr I2 false:=
 (.fm (x<z0)
 (.ret (z0,5))
 (.fm (x>4096)
 (.ret (z0,5))
 (.ret ((w1 (aj (Int.tdiv x 16))),z0))))
abbrev C0:bB:=⟨(.one yi),(.pair (.one yi) (.one yi)),aaF,Ol⟩
theorem adz:ah Tryz.prog 171 (ak C0):=ah.tr C0 ag7 (fn:=Tryz.f171) ax PF mixed (by kernel_rfl) (av.nil _ _) (fun x=>au.nil) (fun x=>(by kernel_rfl)) fun x Q=>(by kernel_rfl)
def Vh:List (Nat×Ev.Spec):=(171,ak C0)::afR
theorem H7:ae Tryz.prog Vh:=ae.add (fn:=Tryz.f171) (by kernel_rfl) adz PF
def Kg (x:I2):I2:=
 (aq (Ol x.1) fun y=>
 (aq (Ol x.2) fun aB=>
 (y.1,aB.1)))
def Wj (_:I2):Prop:=True
def adA (x:I2):Tr I2 false:=
 (.fn0 C0 x.1 trivial fun y=>
 (.fn0 C0 x.2 trivial fun aB=>
 (.ret (y.1,aB.1))))
abbrev C1:bB:=⟨(.agg aQ),(.pair (.one yi) (.one yi)),Wj,Kg⟩
theorem aaG:ah Tryz.prog 135 (ak C1):=ah.tr C1 adA (fn:=Tryz.f135) ax H7 mixed (by kernel_rfl) (av.nil _ _) (fun x=>au.nil) (fun x=>(by kernel_rfl)) fun x Q=>(by kernel_rfl)
def PJ:List (Nat×Ev.Spec):=(135,ak C1)::Vh
theorem EG:ae Tryz.prog PJ:=ae.add (fn:=Tryz.f135) (by kernel_rfl) aaG H7
end Go.Proofs.YtfgdjlhilladhaaGreat
