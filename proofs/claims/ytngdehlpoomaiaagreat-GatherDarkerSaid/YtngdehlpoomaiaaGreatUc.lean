/- Models: what is built; what is right. -/
import Derived.Test.YtngdehlpoomaiaaGreatUb
noncomputable section
set_option linter.unusedSectionVars false
set_option linter.unusedVariables false
set_option linter.unusedSimpArgs false
namespace Go.Proofs.YtngdehlpoomaiaaGreat
open Go Go.Ev Go.Proofs
def O2:List (Nat×Ev.Spec):=(155,iV Lm)::z8
theorem u7:af Tryz.prog O2:=af.add (fn:=Tryz.f155) (by kernel_rfl) YM yj
def Is (x:(List I9)):aL:=⟨[],⟨dL 36 0 [(5,.v (.one (.ptr 0 0))),(6,.v (.one (.ptr 1 0))),(7,.v (.one (.full 4))),(15,.v (.one (.i .i64))),(16,.v (.one (.i .i64)))],[.cells [.raw] 75,.cells [.iT 155 0 [.loc 0 0,.loc 2 0,.loc 1 0]] 203,.cells [.full 3] 202,.row ff 0,.row yi 2],0,none,[],[0,2,3],[4,1],[(.l yi),.i],[.i ((List.replicate x.length (0:Int)).length:Int),.v (.slice none 0 0),.l ff x]⟩,[⟨(.exit 1),.normal,⟨dL 36 0 [(5,.v (.one (.ptr 0 0))),(6,.v (.one (.ptr 1 0))),(7,.v (.one (.full 4)))],[.cells [.raw] 75,.cells [.iT 155 0 [.loc 0 0,.loc 2 0,.loc 1 0]] 203,.cells [.full 3] 202,.row ff 0,.row yi 2],0,none,[],[0,1],[2],[(.l yi)],[.v (.slice none 0 0),.l ff x]⟩⟩]⟩
def fA (x:(List I9)) (s:(List Int×Int)):(List Int×Int)⊕(List Int):=
 (if (s.2<((List.replicate x.length (0:Int)).length:Int)) then
 (aj (List.set s.1 s.2.toNat s.2) fun y=>
 (Sum.inl (y,(au (s.2+1))))) else
 (Sum.inr (s.1)))
def lG (x:(List I9)) (s:(List Int×Int)):Prop:=
 ((s.2<((List.replicate x.length (0:Int)).length:Int))->
 ((((0:Int)<=s.2)/\ (s.2<(s.1.length:Int)))/\
 ((s.2.toNat<s.1.length)/\
 (s.2.toNat<s.1.length))))
def B7 (x:(List I9)) (s:(List Int×Int)):Tr ((List Int×Int)⊕(List Int)) true:=
 (.i10 (s.2<(nL (List.replicate x.length z0)))
 (.nc s.2 s.1
 (.lt (List.set s.1 (tN s.2) s.2) fun y=>
 (.ret (.inl (y,(w1 s.2))))))
 (.ret (.inr (s.1))))
def iu (x:(List I9)):(List ((I3×I3)×Int×Int×List Int)×Int):=
 (if ((x.length:Int)>500) then
 ([],2) else
 (aj (BP x) fun y=>
 (if ((!y)=true) then
 ([],5) else
 (aj (run (fA x) ((List.replicate x.length (0:Int)),(0:Int))) fun r=>
 (aj (YL (r,x,[])) fun aA=>
 (aA,0))))))
def kU (x:(List I9)):Prop:=
 (¬((x.length:Int)>500)->
 ((yd x)/\
 aB (BP x) fun y=>
 (¬((!y)=true)->
 ((((x.length:Int)<=(x.length:Int))/\ (x.length<1099511627776))/\
 (Term (fA x) (lG x) ((List.replicate x.length (0:Int)),(0:Int))/\
 aB (run (fA x) ((List.replicate x.length (0:Int)),(0:Int))) fun r=>
 (Bl (r,x,[])))))))
def XU (x:(List I9)):Tr (List ((I3×I3)×Int×Int×List Int)×Int) true:=
 (.HX ((nL x)>500)
 (.ret ([],2))
 (.fn z6 x fun y=>
 (.kO (!y)
 (.ret ([],5))
 (.og (((decide (z0<=(nL x)))&&(decide ((nL x)<=(nL x))))&&(decide (x.length<1099511627776))) (((nL x)<=(nL x))/\ (x.length<1099511627776)) (fun h=>(gh (gh rfl (decide_eq_true h.1)) (decide_eq_true h.2)))
 (aL.lp (Is x) (B7 x) ((List.replicate x.length z0),z0) fun r=>
 (.fnO Lm (r,x,[]) fun aA=>
 (.ret (aA,z0))))))))
abbrev Et:cf:=⟨(.one (Ty.sl ff)),(.pair (.one (Ty.sl (Ty.prod (Ty.prod aO aO) (Ty.prod yi (Ty.prod yi (Ty.sl yi)))))) (.one yi)),kU,iu⟩
theorem UJ:ah Tryz.prog 140 (ak Et):=ah.tr Et XU (fn:=Tryz.f140) az u7 mixed (by kernel_rfl) (av.nil _ _) (fun x=>(ax.tr az (af.eA u7 (av.nil _ _)) mixed 1 (Is x) (B7 x) ax.nil (by kernel_rfl) fun g s Q=>(by kernel_rfl))) (fun x=>(by kernel_rfl)) fun x Q=>(by kernel_rfl)
def JR:List (Nat×Ev.Spec):=(140,ak Et)::O2
theorem z9:af Tryz.prog JR:=af.add (fn:=Tryz.f140) (by kernel_rfl) UJ u7
def HO (x:((I3×I3)×I3)):Bool:=
 (aj (qm x.1) fun y=>
 (if (y=true) then
 (aj (hasB x) fun aA=>
 aA) else
 false))
def tU (x:((I3×I3)×I3)):Prop:=
 (oC x.1)
def afV (x:((I3×I3)×I3)):Tr Bool true:=
 (.fn qW x.1 fun y=>
 (.iQ y
 (.fn0 E2 x trivial fun aA=>
 (.ret aA))
 (.ret false)))
abbrev Bm:cf:=⟨(.pair (.agg (Ty.prod aO aO)) (.agg aO)),(.one Ty.bool),tU,HO⟩
theorem acN:ah Tryz.prog 167 (ak Bm):=ah.tr Bm afV (fn:=Tryz.f167) az z9 mixed (by kernel_rfl) (av.nil _ _) (fun x=>ax.nil) (fun x=>(by kernel_rfl)) fun x Q=>(by kernel_rfl)
def TY:List (Nat×Ev.Spec):=(167,ak Bm)::JR
theorem Gp:af Tryz.prog TY:=af.add (fn:=Tryz.f167) (by kernel_rfl) acN z9
def uz (x:(((I3×I3)×Int×Int×List Int)×Int)):Bool:=
 (if ((x.1.2.1==0)=true) then
 (x.1.2.2.1==0) else
 false)
def VU (_:(((I3×I3)×Int×Int×List Int)×Int)):Prop:=True
def adq (x:(((I3×I3)×Int×Int×List Int)×Int)):Tr Bool false:=
 (.iQ (x.1.2.1==z0)
 (.ret (x.1.2.2.1==z0))
 (.ret false))
abbrev DK:cf:=⟨(.agg (Ty.prod (Ty.prod (Ty.prod aO aO) (Ty.prod yi (Ty.prod yi (Ty.sl yi)))) yi)),(.one Ty.bool),VU,uz⟩
theorem ZI:ah Tryz.prog 165 (ak DK):=ah.tr DK adq (fn:=Tryz.f165) az Gp mixed (by kernel_rfl) (av.nil _ _) (fun x=>ax.nil) (fun x=>(by kernel_rfl)) fun x Q=>(by kernel_rfl)
def O8:List (Nat×Ev.Spec):=(165,ak DK)::TY
theorem CO:af Tryz.prog O8:=af.add (fn:=Tryz.f165) (by kernel_rfl) ZI Gp
def Vt (x:((((I3×I3)×Int×Int×List Int)×Int)×I9)):Bool:=
 (aj (HO (x.1.1.1,x.2.1)) fun y=>
 (if (y=true) then
 (aj (HO (x.1.1.1,x.2.2.1)) fun aA=>
 (if (aA=true) then
 (aj (HO (x.1.1.1,x.2.2.2)) fun y_2=>
 y_2) else
 false)) else
 false))
def E3 (x:((((I3×I3)×Int×Int×List Int)×Int)×I9)):Prop:=
 ((tU (x.1.1.1,x.2.1))/\
 aB (HO (x.1.1.1,x.2.1)) fun y=>
 ((y=true)->
 ((tU (x.1.1.1,x.2.2.1))/\
 aB (HO (x.1.1.1,x.2.2.1)) fun aA=>
 ((aA=true)->
 (tU (x.1.1.1,x.2.2.2))))))
def afU (x:((((I3×I3)×Int×Int×List Int)×Int)×I9)):Tr Bool true:=
 (.fn Bm (x.1.1.1,x.2.1) fun y=>
 (.Db y
 (.fn Bm (x.1.1.1,x.2.2.1) fun aA=>
 (.Db aA
 (.fn Bm (x.1.1.1,x.2.2.2) fun y_2=>
 (.ret y_2))
 (.ret false)))
 (.ret false)))
abbrev Ln:cf:=⟨(.pair (.agg (Ty.prod (Ty.prod (Ty.prod aO aO) (Ty.prod yi (Ty.prod yi (Ty.sl yi)))) yi)) (.agg ff)),(.one Ty.bool),E3,Vt⟩
theorem acM:ah Tryz.prog 149 (ak Ln):=ah.tr Ln afU (fn:=Tryz.f149) az CO mixed (by kernel_rfl) (av.nil _ _) (fun x=>ax.nil) (fun x=>(by kernel_rfl)) fun x Q=>(by kernel_rfl)
def TX:List (Nat×Ev.Spec):=(149,ak Ln)::O8
theorem Gn:af Tryz.prog TX:=af.add (fn:=Tryz.f149) (by kernel_rfl) acM CO
def agH (x:I2):I2:=
 ((IntKind.wrap IntKind.u32 (Int.fdiv (IntKind.wrap IntKind.u64 ((IntKind.wrap IntKind.u64 x.1)*(IntKind.wrap IntKind.u64 x.2))) 4294967296)),(IntKind.wrap IntKind.u32 (IntKind.wrap IntKind.u64 ((IntKind.wrap IntKind.u64 x.1)*(IntKind.wrap IntKind.u64 x.2)))))
def Rv (_:I2):Prop:=True
def ZW (x:I2):Tr I2 false:=
 (.ret ((IntKind.wrap IntKind.u32 (Int.fdiv (IntKind.wrap IntKind.u64 ((IntKind.wrap IntKind.u64 x.1)*(IntKind.wrap IntKind.u64 x.2))) 4294967296)),(IntKind.wrap IntKind.u32 (IntKind.wrap IntKind.u64 ((IntKind.wrap IntKind.u64 x.1)*(IntKind.wrap IntKind.u64 x.2))))))
abbrev FE:cf:=⟨(.pair (.one (Ty.int IntKind.u32)) (.one (Ty.int IntKind.u32))),(.pair (.one (Ty.int IntKind.u32)) (.one (Ty.int IntKind.u32))),Rv,agH⟩
theorem Wc:ah Tryz.prog 210 (ak FE):=ah.tr FE ZW (fn:=Tryz.f210) az Gn mixed (by kernel_rfl) (av.nil _ _) (fun x=>ax.nil) (fun x=>(by kernel_rfl)) fun x Q=>(by kernel_rfl)
def Ki:List (Nat×Ev.Spec):=(210,ak FE)::TX
theorem Ay:af Tryz.prog Ki:=af.add (fn:=Tryz.f210) (by kernel_rfl) Wc Gn
def Rw (x:I2):I2:=
 ((IntKind.wrap IntKind.u64 ((IntKind.wrap IntKind.u64 ((IntKind.wrap IntKind.u64 ((Int.fdiv x.1 4294967296)*(Int.fdiv x.2 4294967296)))+(Int.fdiv (IntKind.wrap IntKind.u64 ((IntKind.wrap IntKind.u64 ((Int.fdiv x.1 4294967296)*(IntKind.wrap IntKind.u64 (((BitVec.toNat ((BitVec.ofInt 64 x.2)&&&(BitVec.ofInt 64 4294967295))):Nat):Int))))+(Int.fdiv (IntKind.wrap IntKind.u64 ((IntKind.wrap IntKind.u64 (((BitVec.toNat ((BitVec.ofInt 64 x.1)&&&(BitVec.ofInt 64 4294967295))):Nat):Int))*(IntKind.wrap IntKind.u64 (((BitVec.toNat ((BitVec.ofInt 64 x.2)&&&(BitVec.ofInt 64 4294967295))):Nat):Int)))) 4294967296))) 4294967296)))+(Int.fdiv (IntKind.wrap IntKind.u64 ((IntKind.wrap IntKind.u64 (((BitVec.toNat ((BitVec.ofInt 64 (IntKind.wrap IntKind.u64 ((IntKind.wrap IntKind.u64 ((Int.fdiv x.1 4294967296)*(IntKind.wrap IntKind.u64 (((BitVec.toNat ((BitVec.ofInt 64 x.2)&&&(BitVec.ofInt 64 4294967295))):Nat):Int))))+(Int.fdiv (IntKind.wrap IntKind.u64 ((IntKind.wrap IntKind.u64 (((BitVec.toNat ((BitVec.ofInt 64 x.1)&&&(BitVec.ofInt 64 4294967295))):Nat):Int))*(IntKind.wrap IntKind.u64 (((BitVec.toNat ((BitVec.ofInt 64 x.2)&&&(BitVec.ofInt 64 4294967295))):Nat):Int)))) 4294967296))))&&&(BitVec.ofInt 64 4294967295))):Nat):Int))+(IntKind.wrap IntKind.u64 ((IntKind.wrap IntKind.u64 (((BitVec.toNat ((BitVec.ofInt 64 x.1)&&&(BitVec.ofInt 64 4294967295))):Nat):Int))*(Int.fdiv x.2 4294967296))))) 4294967296))),(IntKind.wrap IntKind.u64 (x.1*x.2)))
def Rx (_:I2):Prop:=True
def ZX (x:I2):Tr I2 false:=
 (.ret ((IntKind.wrap IntKind.u64 ((IntKind.wrap IntKind.u64 ((IntKind.wrap IntKind.u64 ((Int.fdiv x.1 4294967296)*(Int.fdiv x.2 4294967296)))+(Int.fdiv (IntKind.wrap IntKind.u64 ((IntKind.wrap IntKind.u64 ((Int.fdiv x.1 4294967296)*(IntKind.wrap IntKind.u64 (((BitVec.toNat ((BitVec.ofInt 64 x.2)&&&(BitVec.ofInt 64 4294967295))):Nat):Int))))+(Int.fdiv (IntKind.wrap IntKind.u64 ((IntKind.wrap IntKind.u64 (((BitVec.toNat ((BitVec.ofInt 64 x.1)&&&(BitVec.ofInt 64 4294967295))):Nat):Int))*(IntKind.wrap IntKind.u64 (((BitVec.toNat ((BitVec.ofInt 64 x.2)&&&(BitVec.ofInt 64 4294967295))):Nat):Int)))) 4294967296))) 4294967296)))+(Int.fdiv (IntKind.wrap IntKind.u64 ((IntKind.wrap IntKind.u64 (((BitVec.toNat ((BitVec.ofInt 64 (IntKind.wrap IntKind.u64 ((IntKind.wrap IntKind.u64 ((Int.fdiv x.1 4294967296)*(IntKind.wrap IntKind.u64 (((BitVec.toNat ((BitVec.ofInt 64 x.2)&&&(BitVec.ofInt 64 4294967295))):Nat):Int))))+(Int.fdiv (IntKind.wrap IntKind.u64 ((IntKind.wrap IntKind.u64 (((BitVec.toNat ((BitVec.ofInt 64 x.1)&&&(BitVec.ofInt 64 4294967295))):Nat):Int))*(IntKind.wrap IntKind.u64 (((BitVec.toNat ((BitVec.ofInt 64 x.2)&&&(BitVec.ofInt 64 4294967295))):Nat):Int)))) 4294967296))))&&&(BitVec.ofInt 64 4294967295))):Nat):Int))+(IntKind.wrap IntKind.u64 ((IntKind.wrap IntKind.u64 (((BitVec.toNat ((BitVec.ofInt 64 x.1)&&&(BitVec.ofInt 64 4294967295))):Nat):Int))*(Int.fdiv x.2 4294967296))))) 4294967296))),(IntKind.wrap IntKind.u64 (x.1*x.2))))
abbrev zG:cf:=⟨(.pair (.one (Ty.int IntKind.u64)) (.one (Ty.int IntKind.u64))),(.pair (.one (Ty.int IntKind.u64)) (.one (Ty.int IntKind.u64))),Rx,Rw⟩
theorem Wd:ah Tryz.prog 211 (ak zG):=ah.tr zG ZX (fn:=Tryz.f211) az Ay mixed (by kernel_rfl) (av.nil _ _) (fun x=>ax.nil) (fun x=>(by kernel_rfl)) fun x Q=>(by kernel_rfl)
def Kj:List (Nat×Ev.Spec):=(211,ak zG)::Ki
theorem Az:af Tryz.prog Kj:=af.add (fn:=Tryz.f211) (by kernel_rfl) Wd Ay
def MM (x:I2):I2:=
 (aj (Rw x) fun y=>
 y)
def UH (_:I2):Prop:=True
def ab1 (x:I2):Tr I2 false:=
 (.fn0 zG x trivial fun y=>
 (.ret y))
abbrev Dr:cf:=⟨(.pair (.one (Ty.int IntKind.u64)) (.one (Ty.int IntKind.u64))),(.pair (.one (Ty.int IntKind.u64)) (.one (Ty.int IntKind.u64))),UH,MM⟩
theorem XQ:ah Tryz.prog 186 (ak Dr):=ah.tr Dr ab1 (fn:=Tryz.f186) az Az mixed (by kernel_rfl) (av.nil _ _) (fun x=>ax.nil) (fun x=>(by kernel_rfl)) fun x Q=>(by kernel_rfl)
def OO:List (Nat×Ev.Spec):=(186,ak Dr)::Kj
theorem uX:af Tryz.prog OO:=af.add (fn:=Tryz.f186) (by kernel_rfl) XQ Az
def FY (x:(List Int×Int)):aL:=⟨[],⟨dL 48 0 [(7,.v (.one (.full 0))),(8,.v (.one (.i .i64)))],[.row yi 2],0,none,[],[],[1,0],[(.l yi),.i],[]⟩,[⟨(.exit 0),.normal,⟨dL 48 0 [(7,.v (.one (.full 0)))],[.row yi 2],0,none,[],[],[0],[(.l yi)],[]⟩⟩]⟩
def gD (x:(List Int×Int)) (s:(List Int×Int)):(List Int×Int)⊕(List Int):=
 (if (s.2<(s.1.length:Int)) then
 (aj (ja s.1 (s.2.toNat+0) (s.1.length- s.2.toNat) (List.take s.2.toNat s.1)) fun y=>
 (Sum.inl (y,(au (s.2+(((o8 (s.1.length- s.2.toNat) (List.length (List.take s.2.toNat s.1))):Nat):Int)))))) else
 (Sum.inr (s.1)))
def kE (x:(List Int×Int)) (s:(List Int×Int)):Prop:=
 ((s.2<(s.1.length:Int))->
 (((0<=s.2)/\ (s.2<=(s.1.length:Int)))/\
 ((0<=s.2)/\ (s.2<=(s.1.length:Int)))))
def zS (x:(List Int×Int)) (s:(List Int×Int)):Tr ((List Int×Int)⊕(List Int)) true:=
 (.i10 (s.2<(nL s.1))
 (.og ((decide (z0<=s.2))&&(decide (s.2<=(nL s.1)))) ((z0<=s.2)/\ (s.2<=(nL s.1))) (fun h=>(gh (decide_eq_true h.1) (decide_eq_true h.2)))
 (.og ((decide (z0<=s.2))&&(decide (s.2<=(nL s.1)))) ((z0<=s.2)/\ (s.2<=(nL s.1))) (fun h=>(gh (decide_eq_true h.1) (decide_eq_true h.2)))
 (.lt (ja s.1 ((tN s.2)+0) (s.1.length- (tN s.2)) (List.take (tN s.2) s.1)) fun y=>
 (.ret (.inl (y,(au (s.2+(((o8 (s.1.length- (tN s.2)) (List.length (List.take (tN s.2) s.1))):Nat):Int)))))))))
 (.ret (.inr (s.1))))
def repeatM (x:(List Int×Int)):(List Int):=
 (if (x.2<0) then
 default else
 (aj (MM ((IntKind.wrap IntKind.u64 (x.1.length:Int)),(IntKind.wrap IntKind.u64 x.2))) fun y=>
 (if (y.1>0) then
 default else
 (if (y.2>9223372036854775807) then
 default else
 (aj (ja (List.replicate (Int.toNat (au y.2)) (0:Int)) 0 (List.length (List.replicate (Int.toNat (au y.2)) (0:Int))) x.1) fun aA=>
 (aj (run (gD x) (aA,(((o8 (List.length (List.replicate (Int.toNat (au y.2)) (0:Int))) x.1.length):Nat):Int))) fun r=>
 r))))))
def pL (x:(List Int×Int)):Prop:=
 (((x.2<0)->
 False)/\
 (¬(x.2<0)->
 (aB (MM ((IntKind.wrap IntKind.u64 (x.1.length:Int)),(IntKind.wrap IntKind.u64 x.2))) fun y=>
 (((y.1>0)->
 False)/\
 (¬(y.1>0)->
 (((y.2>9223372036854775807)->
 False)/\
 (¬(y.2>9223372036854775807)->
 ((((0<=(au y.2))/\ ((au y.2)<=(au y.2)))/\ ((Int.toNat (au y.2))<1099511627776))/\
 (aB (ja (List.replicate (Int.toNat (au y.2)) (0:Int)) 0 (List.length (List.replicate (Int.toNat (au y.2)) (0:Int))) x.1) fun aA=>
 (Term (gD x) (kE x) (aA,(((o8 (List.length (List.replicate (Int.toNat (au y.2)) (0:Int))) x.1.length):Nat):Int))))))))))))
def Wx (x:(List Int×Int)):Tr (List Int) true:=
 (.i11 (x.2<z0)
 (.og false False False.elim (.ret default))
 (.fn0 Dr ((IntKind.wrap IntKind.u64 (nL x.1)),(IntKind.wrap IntKind.u64 x.2)) trivial fun y=>
 (.i11 (y.1>z0)
 (.og false False False.elim (.ret default))
 (.i11 (y.2>9223372036854775807)
 (.og false False False.elim (.ret default))
 (.og (((decide (z0<=(au y.2)))&&(decide ((au y.2)<=(au y.2))))&&(decide ((tN (au y.2))<1099511627776))) (((z0<=(au y.2))/\ ((au y.2)<=(au y.2)))/\ ((tN (au y.2))<1099511627776)) (fun h=>(gh (gh (decide_eq_true h.1.1) (decide_eq_true h.1.2)) (decide_eq_true h.2)))
 (.lt (ja (List.replicate (tN (au y.2)) z0) 0 (List.length (List.replicate (tN (au y.2)) z0)) x.1) fun aA=>
 (aL.lp (FY x) (zS x) (aA,(((o8 (List.length (List.replicate (tN (au y.2)) z0)) x.1.length):Nat):Int)) fun r=>
 (.ret r))))))))
abbrev wu:cf:=⟨(.pair (.one (Ty.sl yi)) (.one yi)),(.one (Ty.sl yi)),pL,repeatM⟩
theorem RR:ah Tryz.prog 164 (ak wu):=ah.tr wu Wx (fn:=Tryz.f164) az uX mixed (by kernel_rfl) (av.nil _ _) (fun x=>(ax.tr az (af.eA uX (av.nil _ _)) mixed 0 (FY x) (zS x) ax.nil (by kernel_rfl) fun g s Q=>(by kernel_rfl))) (fun x=>(by kernel_rfl)) fun x Q=>(by kernel_rfl)
def GD:List (Nat×Ev.Spec):=(164,ak wu)::OO
theorem qp:af Tryz.prog GD:=af.add (fn:=Tryz.f164) (by kernel_rfl) RR uX
def I5 (x:(List Int×Int)):aL:=⟨[],⟨dL 19 0 [(0,.v (.one (.full 0))),(1,.v (.one (.i .i64))),(7,.v (.one (.i .i64))),(8,.v (.one (.i .i64)))],[.row yi 0],0,none,[],[0,1,3],[2],[.i],[.i x.2,.i (x.1.length:Int),.l yi x.1]⟩,[⟨.ret,.ret,⟨dL 19 0 [(4,.v (.one (.i .i64)))],[],0,none,[],[],[0],[.i],[]⟩⟩,⟨(.exit 0),.normal,⟨dL 19 0 [],[],0,none,[],[],[],[],[]⟩⟩]⟩
def iE (x:(List Int×Int)) (s:Int):Int⊕(Int⊕Unit):=
 (if (s<(x.1.length:Int)) then
 (if ((x.2==(x.1.getD s.toNat 0))=true) then
 (Sum.inr (Sum.inl s)) else
 (Sum.inl (au (s+1)))) else
 (Sum.inr (Sum.inr (()))))
def qc (x:(List Int×Int)) (s:Int):Prop:=
 ((s<(x.1.length:Int))->
 (((0<=s)/\ (s<(x.1.length:Int)))/\
 ((s.toNat<x.1.length)/\
 (s.toNat<x.1.length))))
def Cj (x:(List Int×Int)) (s:Int):Tr (Int⊕(Int⊕Unit)) true:=
 (.i10 (s<(nL x.1))
 (.nc s x.1
 (.iQ (x.2==(gI x.1 s))
 (.ret (.inr (Sum.inl s)))
 (.ret (.inl (w1 s)))))
 (.ret (.inr (Sum.inr (())))))
def Q8 (x:(List Int×Int)):Int:=
 (aj (run (iE x) 0) fun r=>
 (Sum.elim (fun a=>
 a) (fun b=>
 (-1)) r))
def xT (x:(List Int×Int)):Prop:=
 (Term (iE x) (qc x) 0)
def Zo (x:(List Int×Int)):Tr Int true:=
 (aL.lp (I5 x) (Cj x) z0 fun r=>
 (.OD r (fun a=>
 (.ret a)) (fun b=>
 (.ret (-1)))))
abbrev zj:cf:=⟨(.pair (.one (Ty.sl yi)) (.one yi)),(.one yi),xT,Q8⟩
theorem VG:ah Tryz.prog 187 (ak zj):=ah.tr zj Zo (fn:=Tryz.f187) az qp mixed (by kernel_rfl) (av.nil _ _) (fun x=>(ax.tr az (af.eA qp (av.nil _ _)) mixed 0 (I5 x) (Cj x) ax.nil (by kernel_rfl) fun g s Q=>(by kernel_rfl))) (fun x=>(by kernel_rfl)) fun x Q=>(by kernel_rfl)
def J7:List (Nat×Ev.Spec):=(187,ak zj)::GD
theorem Aq:af Tryz.prog J7:=af.add (fn:=Tryz.f187) (by kernel_rfl) VG qp
def kY (x:(List Int×Int)):Bool:=
 (aj (Q8 x) fun y=>
 (decide (y>=0)))
def pV (x:(List Int×Int)):Prop:=
 (xT x)
def MV (x:(List Int×Int)):Tr Bool true:=
 (.fn zj x fun y=>
 (.ret (decide (y>=z0))))
abbrev oX:cf:=⟨(.pair (.one (Ty.sl yi)) (.one yi)),(.one Ty.bool),pV,kY⟩
theorem K6:ah Tryz.prog 166 (ak oX):=ah.tr oX MV (fn:=Tryz.f166) az Aq mixed (by kernel_rfl) (av.nil _ _) (fun x=>ax.nil) (fun x=>(by kernel_rfl)) fun x Q=>(by kernel_rfl)
def Ag:List (Nat×Ev.Spec):=(166,ak oX)::J7
theorem mO:af Tryz.prog Ag:=af.add (fn:=Tryz.f166) (by kernel_rfl) K6 Aq
def Cz (x:(List ((I3×I3)×Int×Int×List Int))):aL:=⟨[],⟨dL 84 0 [(0,.v (.one (.full 0))),(4,.v (.one (.full 1))),(11,.v (.one (.full 0))),(12,.v (.one (.i .i64))),(13,.v (.one (.i .i64)))],[.row (Ty.prod (Ty.prod aO aO) (Ty.prod yi (Ty.prod yi (Ty.sl yi)))) 0,.row yi 2],0,none,[],[0,2],[3,1],[(.l yi),.i],[.i (x.length:Int),.l (Ty.prod (Ty.prod aO aO) (Ty.prod yi (Ty.prod yi (Ty.sl yi)))) x]⟩,[⟨.ret,.ret,⟨dL 84 0 [(2,.v (.one (.raw))),(3,.v (.one (.b)))],[],0,none,[],[0,1],[],[],[.v (.slice none 0 0),.b false]⟩⟩,⟨(.exit 0),.normal,⟨dL 84 0 [(0,.v (.one (.full 0))),(4,.v (.one (.full 1)))],[.row (Ty.prod (Ty.prod aO aO) (Ty.prod yi (Ty.prod yi (Ty.sl yi)))) 0,.row yi 2],0,none,[],[0],[1],[(.l yi)],[.l (Ty.prod (Ty.prod aO aO) (Ty.prod yi (Ty.prod yi (Ty.sl yi)))) x]⟩⟩]⟩
def dg (x:(List ((I3×I3)×Int×Int×List Int))) (s:(List Int×Int)):(List Int×Int)⊕(Unit⊕(List Int)):=
 (if (s.2<(x.length:Int)) then
 (aj (uz ((x.getD s.2.toNat (((0,0,0),0,0,0),0,0,[])),s.2)) fun y=>
 (if (y=true) then
 (Sum.inl (s.1,(au (s.2+1)))) else
 (if (((x.getD s.2.toNat (((0,0,0),0,0,0),0,0,[])).2.2.2.length:Int)>0) then
 (Sum.inr (Sum.inl ())) else
 (if (((x.getD s.2.toNat (((0,0,0),0,0,0),0,0,[])).2.1 !=(au (s.2+1)))=true) then
 (Sum.inr (Sum.inl ())) else
 (if ((x.getD s.2.toNat (((0,0,0),0,0,0),0,0,[])).2.2.1<=(x.getD s.2.toNat (((0,0,0),0,0,0),0,0,[])).2.1) then
 (Sum.inr (Sum.inl ())) else
 (if ((x.getD s.2.toNat (((0,0,0),0,0,0),0,0,[])).2.2.1>=(x.length:Int)) then
 (Sum.inr (Sum.inl ())) else
 (if ((s.1.getD (Int.toNat (x.getD s.2.toNat (((0,0,0),0,0,0),0,0,[])).2.1) 0)>=0) then
 (Sum.inr (Sum.inl ())) else
 (if ((s.1.getD (Int.toNat (x.getD s.2.toNat (((0,0,0),0,0,0),0,0,[])).2.2.1) 0)>=0) then
 (Sum.inr (Sum.inl ())) else
 (aj (List.set s.1 (Int.toNat (x.getD s.2.toNat (((0,0,0),0,0,0),0,0,[])).2.1) s.2) fun aA=>
 (aj (List.set aA (Int.toNat (x.getD s.2.toNat (((0,0,0),0,0,0),0,0,[])).2.2.1) s.2) fun y_2=>
 (Sum.inl (y_2,(au (s.2+1)))))))))))))) else
 (Sum.inr (Sum.inr (s.1))))
def gw (x:(List ((I3×I3)×Int×Int×List Int))) (s:(List Int×Int)):Prop:=
 ((s.2<(x.length:Int))->
 (((0<=s.2)/\ (s.2<(x.length:Int)))/\
 ((s.2.toNat<x.length)/\
 ((s.2.toNat<x.length)/\
 (aB (uz ((x.getD s.2.toNat (((0,0,0),0,0,0),0,0,[])),s.2)) fun y=>
 (¬(y=true)->
 (¬(((x.getD s.2.toNat (((0,0,0),0,0,0),0,0,[])).2.2.2.length:Int)>0)->
 (¬(((x.getD s.2.toNat (((0,0,0),0,0,0),0,0,[])).2.1 !=(au (s.2+1)))=true)->
 (¬((x.getD s.2.toNat (((0,0,0),0,0,0),0,0,[])).2.2.1<=(x.getD s.2.toNat (((0,0,0),0,0,0),0,0,[])).2.1)->
 (¬((x.getD s.2.toNat (((0,0,0),0,0,0),0,0,[])).2.2.1>=(x.length:Int))->
 (((0<=(x.getD s.2.toNat (((0,0,0),0,0,0),0,0,[])).2.1)/\ ((x.getD s.2.toNat (((0,0,0),0,0,0),0,0,[])).2.1<(s.1.length:Int)))/\
 (((Int.toNat (x.getD s.2.toNat (((0,0,0),0,0,0),0,0,[])).2.1)<s.1.length)/\
 (((Int.toNat (x.getD s.2.toNat (((0,0,0),0,0,0),0,0,[])).2.1)<s.1.length)/\
 (¬((s.1.getD (Int.toNat (x.getD s.2.toNat (((0,0,0),0,0,0),0,0,[])).2.1) 0)>=0)->
 (((0<=(x.getD s.2.toNat (((0,0,0),0,0,0),0,0,[])).2.2.1)/\ ((x.getD s.2.toNat (((0,0,0),0,0,0),0,0,[])).2.2.1<(s.1.length:Int)))/\
 (((Int.toNat (x.getD s.2.toNat (((0,0,0),0,0,0),0,0,[])).2.2.1)<s.1.length)/\
 (((Int.toNat (x.getD s.2.toNat (((0,0,0),0,0,0),0,0,[])).2.2.1)<s.1.length)/\
 (¬((s.1.getD (Int.toNat (x.getD s.2.toNat (((0,0,0),0,0,0),0,0,[])).2.2.1) 0)>=0)->
 (((0<=(x.getD s.2.toNat (((0,0,0),0,0,0),0,0,[])).2.1)/\ ((x.getD s.2.toNat (((0,0,0),0,0,0),0,0,[])).2.1<(s.1.length:Int)))/\
 (((Int.toNat (x.getD s.2.toNat (((0,0,0),0,0,0),0,0,[])).2.1)<s.1.length)/\
 (((Int.toNat (x.getD s.2.toNat (((0,0,0),0,0,0),0,0,[])).2.1)<s.1.length)/\
 (aB (List.set s.1 (Int.toNat (x.getD s.2.toNat (((0,0,0),0,0,0),0,0,[])).2.1) s.2) fun aA=>
 (((0<=(x.getD s.2.toNat (((0,0,0),0,0,0),0,0,[])).2.2.1)/\ ((x.getD s.2.toNat (((0,0,0),0,0,0),0,0,[])).2.2.1<(aA.length:Int)))/\
 (((Int.toNat (x.getD s.2.toNat (((0,0,0),0,0,0),0,0,[])).2.2.1)<aA.length)/\
 ((Int.toNat (x.getD s.2.toNat (((0,0,0),0,0,0),0,0,[])).2.2.1)<aA.length)))))))))))))))))))))))))
def xd (x:(List ((I3×I3)×Int×Int×List Int))) (s:(List Int×Int)):Tr ((List Int×Int)⊕(Unit⊕(List Int))) true:=
 (.i10 (s.2<(nL x))
 (.nc s.2 x
 (.fn0 DK ((gT x s.2 ((bH,bH),z0,z0,[])),s.2) trivial fun y=>
 (.kO y
 (.ret (.inl (s.1,(w1 s.2))))
 (.HX ((nL (gT x s.2 ((bH,bH),z0,z0,[])).2.2.2)>z0)
 (.ret (.inr (Sum.inl ())))
 (.kO ((gT x s.2 ((bH,bH),z0,z0,[])).2.1 !=(w1 s.2))
 (.ret (.inr (Sum.inl ())))
 (.HX ((gT x s.2 ((bH,bH),z0,z0,[])).2.2.1<=(gT x s.2 ((bH,bH),z0,z0,[])).2.1)
 (.ret (.inr (Sum.inl ())))
 (.HX ((gT x s.2 ((bH,bH),z0,z0,[])).2.2.1>=(nL x))
 (.ret (.inr (Sum.inl ())))
 (.nc (gT x s.2 ((bH,bH),z0,z0,[])).2.1 s.1
 (.HX ((gI s.1 (gT x s.2 ((bH,bH),z0,z0,[])).2.1)>=z0)
 (.ret (.inr (Sum.inl ())))
 (.nc (gT x s.2 ((bH,bH),z0,z0,[])).2.2.1 s.1
 (.HX ((gI s.1 (gT x s.2 ((bH,bH),z0,z0,[])).2.2.1)>=z0)
 (.ret (.inr (Sum.inl ())))
 (.nc (gT x s.2 ((bH,bH),z0,z0,[])).2.1 s.1
 (.lt (List.set s.1 (tN (gT x s.2 ((bH,bH),z0,z0,[])).2.1) s.2) fun aA=>
 (.nc (gT x s.2 ((bH,bH),z0,z0,[])).2.2.1 aA
 (.lt (List.set aA (tN (gT x s.2 ((bH,bH),z0,z0,[])).2.2.1) s.2) fun y_2=>
 (.ret (.inl (y_2,(w1 s.2)))))))))))))))))))
 (.ret (.inr (Sum.inr (s.1)))))
def uM (x:(List ((I3×I3)×Int×Int×List Int))):(List Int×Bool):=
 (aj (repeatM ([(-1)],(x.length:Int))) fun y=>
 (aj (run (dg x) (y,0)) fun r=>
 (Sum.elim (fun a=>
 ([],false)) (fun b=>
 (if ((x.length:Int)>0) then
 (aj (kY ((List.drop 1 b),(-1))) fun aA=>
 (b,(!aA))) else
 (b,false))) r)))
def nk (x:(List ((I3×I3)×Int×Int×List Int))):Prop:=
 ((pL ([(-1)],(x.length:Int)))/\
 aB (repeatM ([(-1)],(x.length:Int))) fun y=>
 (Term (dg x) (gw x) (y,0)/\
 aB (run (dg x) (y,0)) fun r=>
 (cS r (fun a=>
 True) (fun b=>
 (((x.length:Int)>0)->
 ((1<=(b.length:Int))/\
 (pV ((List.drop 1 b),(-1)))))))))
def RC (x:(List ((I3×I3)×Int×Int×List Int))):Tr (List Int×Bool) true:=
 (.fn wu ([(-1)],(nL x)) fun y=>
 (aL.lp (Cz x) (xd x) (y,z0) fun r=>
 (.s01 r (fun a=>
 (.ret ([],false))) (fun b=>
 (.i10 ((nL x)>z0)
 (.og (true&&(decide (z1<=(nL b)))) (z1<=(nL b)) (fun h=>(gh rfl (decide_eq_true h)))
 (.fn oX ((List.drop 1 b),(-1)) fun aA=>
 (.ret (b,(!aA)))))
 (.ret (b,false)))))))
abbrev si:cf:=⟨(.one (Ty.sl (Ty.prod (Ty.prod aO aO) (Ty.prod yi (Ty.prod yi (Ty.sl yi)))))),(.pair (.one (Ty.sl yi)) (.one Ty.bool)),nk,uM⟩
theorem Oj:ah Tryz.prog 148 (ak si):=ah.tr si RC (fn:=Tryz.f148) az mO mixed (by kernel_rfl) (av.nil _ _) (fun x=>(ax.tr az (af.eA mO (av.nil _ _)) mixed 0 (Cz x) (xd x) ax.nil (by kernel_rfl) fun g s Q=>(by kernel_rfl))) (fun x=>(by kernel_rfl)) fun x Q=>(by kernel_rfl)
def CS:List (Nat×Ev.Spec):=(148,ak si)::Ag
theorem oF:af Tryz.prog CS:=af.add (fn:=Tryz.f148) (by kernel_rfl) Oj mO
def IZ (x:(List Bool×Bool)):aL:=⟨[],⟨dL 19 0 [(0,.v (.one (.full 0))),(1,.v (.one (.b))),(7,.v (.one (.i .i64))),(8,.v (.one (.i .i64)))],[.row Ty.bool 0],0,none,[],[0,1,3],[2],[.i],[.b x.2,.i (x.1.length:Int),.l Ty.bool x.1]⟩,[⟨.ret,.ret,⟨dL 19 0 [(4,.v (.one (.i .i64)))],[],0,none,[],[],[0],[.i],[]⟩⟩,⟨(.exit 0),.normal,⟨dL 19 0 [],[],0,none,[],[],[],[],[]⟩⟩]⟩
def iC (x:(List Bool×Bool)) (s:Int):Int⊕(Int⊕Unit):=
 (if (s<(x.1.length:Int)) then
 (if ((x.2==(x.1.getD s.toNat false))=true) then
 (Sum.inr (Sum.inl s)) else
 (Sum.inl (au (s+1)))) else
 (Sum.inr (Sum.inr (()))))
def qa (x:(List Bool×Bool)) (s:Int):Prop:=
 ((s<(x.1.length:Int))->
 (((0<=s)/\ (s<(x.1.length:Int)))/\
 ((s.toNat<x.1.length)/\
 (s.toNat<x.1.length))))
def Cg (x:(List Bool×Bool)) (s:Int):Tr (Int⊕(Int⊕Unit)) true:=
 (.i10 (s<(nL x.1))
 (.nc s x.1
 (.iQ (x.2==(gT x.1 s false))
 (.ret (.inr (Sum.inl s)))
 (.ret (.inl (w1 s)))))
 (.ret (.inr (Sum.inr (())))))
def Q0 (x:(List Bool×Bool)):Int:=
 (aj (run (iC x) 0) fun r=>
 (Sum.elim (fun a=>
 a) (fun b=>
 (-1)) r))
def Fj (x:(List Bool×Bool)):Prop:=
 (Term (iC x) (qa x) 0)
def Zk (x:(List Bool×Bool)):Tr Int true:=
 (aL.lp (IZ x) (Cg x) z0 fun r=>
 (.OD r (fun a=>
 (.ret a)) (fun b=>
 (.ret (-1)))))
abbrev zi:cf:=⟨(.pair (.one (Ty.sl Ty.bool)) (.one Ty.bool)),(.one yi),Fj,Q0⟩
theorem VE:ah Tryz.prog 168 (ak zi):=ah.tr zi Zk (fn:=Tryz.f168) az oF mixed (by kernel_rfl) (av.nil _ _) (fun x=>(ax.tr az (af.eA oF (av.nil _ _)) mixed 0 (IZ x) (Cg x) ax.nil (by kernel_rfl) fun g s Q=>(by kernel_rfl))) (fun x=>(by kernel_rfl)) fun x Q=>(by kernel_rfl)
def J4:List (Nat×Ev.Spec):=(168,ak zi)::CS
theorem Am:af Tryz.prog J4:=af.add (fn:=Tryz.f168) (by kernel_rfl) VE oF
def kW (x:(List Bool×Bool)):Bool:=
 (aj (Q0 x) fun y=>
 (decide (y>=0)))
def pT (x:(List Bool×Bool)):Prop:=
 (Fj x)
def MS (x:(List Bool×Bool)):Tr Bool true:=
 (.fn zi x fun y=>
 (.ret (decide (y>=z0))))
abbrev oU:cf:=⟨(.pair (.one (Ty.sl Ty.bool)) (.one Ty.bool)),(.one Ty.bool),pT,kW⟩
theorem K4:ah Tryz.prog 150 (ak oU):=ah.tr oU MS (fn:=Tryz.f150) az Am mixed (by kernel_rfl) (av.nil _ _) (fun x=>ax.nil) (fun x=>(by kernel_rfl)) fun x Q=>(by kernel_rfl)
def Ad:List (Nat×Ev.Spec):=(150,ak oU)::J4
theorem gF:af Tryz.prog Ad:=af.add (fn:=Tryz.f150) (by kernel_rfl) K4 Am
def Zy (x:(List ((I3×I3)×Int×Int×List Int)×List I9)):aL:=⟨[],⟨dL 78 0 [(0,.v (.one (.full 0))),(1,.v (.one (.full 1))),(5,.v (.one (.full 2))),(7,.v (.one (.full 3))),(8,.v (.one (.i .i64))),(11,.v (.one (.i .i64))),(12,.v (.one (.i .i64))),(23,.v (.one (.full 0))),(24,.v (.one (.i .i64))),(25,.v (.one (.i .i64))),(31,.v (.one (.full 4))),(32,.v (.one (.i .i64))),(33,.v (.one (.i .i64)))],[.row (Ty.prod (Ty.prod aO aO) (Ty.prod yi (Ty.prod yi (Ty.sl yi)))) 0,.row ff 0,.row yi 2,.row Ty.bool 2,.row yi 0],0,none,[],[3,7,8],[9,10,0,1,2,4,11,5,6],[(.l yi),(.l Ty.bool),.i,.i,.i,.i,(.l yi),.i,.i],[.i (x.1.length:Int),.l (Ty.prod (Ty.prod aO aO) (Ty.prod yi (Ty.prod yi (Ty.sl yi)))) x.1,.l ff x.2]⟩,[⟨.ret,.ret,⟨dL 78 0 [(4,.v (.one (.b)))],[],0,none,[],[0],[],[],[.b false]⟩⟩,⟨(.exit 4),.normal,⟨dL 78 0 [(0,.v (.one (.full 0))),(1,.v (.one (.full 1))),(5,.v (.one (.full 2))),(7,.v (.one (.full 3))),(8,.v (.one (.i .i64))),(23,.v (.one (.full 0))),(24,.v (.one (.i .i64))),(25,.v (.one (.i .i64))),(31,.v (.one (.full 4))),(32,.v (.one (.i .i64))),(33,.v (.one (.i .i64)))],[.row (Ty.prod (Ty.prod aO aO) (Ty.prod yi (Ty.prod yi (Ty.sl yi)))) 0,.row ff 0,.row yi 2,.row Ty.bool 2,.row yi 0],0,none,[],[1,5,6],[7,8,0,2,9,3,4],[(.l yi),(.l Ty.bool),.i,.i,(.l yi),.i,.i],[.i (x.1.length:Int),.l (Ty.prod (Ty.prod aO aO) (Ty.prod yi (Ty.prod yi (Ty.sl yi)))) x.1,.l ff x.2]⟩⟩]⟩
def mg (x:(List ((I3×I3)×Int×Int×List Int)×List I9)) (s:(List Int×List Bool×Int×Int×Int×Int×List Int×I2)):(List Int×List Bool×Int×Int×Int×Int×List Int×I2)⊕(Unit⊕(List Int×List Bool×Int×Int×List Int×I2)):=
 (if (s.2.2.2.2.1>=0) then
 (aj (Vt (((x.1.getD s.2.2.2.2.1.toNat (((0,0,0),0,0,0),0,0,[])),s.2.2.2.2.1),(x.2.getD s.2.2.2.1.toNat ((0,0,0),(0,0,0),0,0,0)))) fun y=>
 (if ((!y)=true) then
 (Sum.inr (Sum.inl ())) else
 (Sum.inl (s.1,s.2.1,s.2.2.1,s.2.2.2.1,(s.1.getD s.2.2.2.2.1.toNat 0),s.2.2.2.2.2.1,s.2.2.2.2.2.2.1,s.2.2.2.2.2.2.2.1,s.2.2.2.2.2.2.2.2)))) else
 (Sum.inr (Sum.inr ((s.1,s.2.1,s.2.2.1,s.2.2.2.2.2.1,s.2.2.2.2.2.2.1,s.2.2.2.2.2.2.2.1,s.2.2.2.2.2.2.2.2)))))
def rU (x:(List ((I3×I3)×Int×Int×List Int)×List I9)) (s:(List Int×List Bool×Int×Int×Int×Int×List Int×I2)):Prop:=
 ((s.2.2.2.2.1>=0)->
 (((0<=s.2.2.2.2.1)/\ (s.2.2.2.2.1<(x.1.length:Int)))/\
 ((s.2.2.2.2.1.toNat<x.1.length)/\
 ((s.2.2.2.2.1.toNat<x.1.length)/\
 (((0<=s.2.2.2.1)/\ (s.2.2.2.1<(x.2.length:Int)))/\
 ((s.2.2.2.1.toNat<x.2.length)/\
 ((s.2.2.2.1.toNat<x.2.length)/\
 ((E3 (((x.1.getD s.2.2.2.2.1.toNat (((0,0,0),0,0,0),0,0,[])),s.2.2.2.2.1),(x.2.getD s.2.2.2.1.toNat ((0,0,0),(0,0,0),0,0,0))))/\
 aB (Vt (((x.1.getD s.2.2.2.2.1.toNat (((0,0,0),0,0,0),0,0,[])),s.2.2.2.2.1),(x.2.getD s.2.2.2.1.toNat ((0,0,0),(0,0,0),0,0,0)))) fun y=>
 (¬((!y)=true)->
 (((0<=s.2.2.2.2.1)/\ (s.2.2.2.2.1<(s.1.length:Int)))/\
 ((s.2.2.2.2.1.toNat<s.1.length)/\
 (s.2.2.2.2.1.toNat<s.1.length))))))))))))
def NQ (x:(List ((I3×I3)×Int×Int×List Int)×List I9)) (s:(List Int×List Bool×Int×Int×Int×Int×List Int×I2)):Tr ((List Int×List Bool×Int×Int×Int×Int×List Int×I2)⊕(Unit⊕(List Int×List Bool×Int×Int×List Int×I2))) true:=
 (.i10 (s.2.2.2.2.1>=z0)
 (.nc s.2.2.2.2.1 x.1
 (.nc s.2.2.2.1 x.2
 (.fn Ln (((gT x.1 s.2.2.2.2.1 ((bH,bH),z0,z0,[])),s.2.2.2.2.1),(gT x.2 s.2.2.2.1 My)) fun y=>
 (.kO (!y)
 (.ret (.inr (Sum.inl ())))
 (.nc s.2.2.2.2.1 s.1
 (.ret (.inl (s.1,s.2.1,s.2.2.1,s.2.2.2.1,(gI s.1 s.2.2.2.2.1),s.2.2.2.2.2.1,s.2.2.2.2.2.2.1,s.2.2.2.2.2.2.2.1,s.2.2.2.2.2.2.2.2))))))))
 (.ret (.inr (Sum.inr ((s.1,s.2.1,s.2.2.1,s.2.2.2.2.2.1,s.2.2.2.2.2.2.1,s.2.2.2.2.2.2.2.1,s.2.2.2.2.2.2.2.2))))))
def Zx (x:(List ((I3×I3)×Int×Int×List Int)×List I9)):aL:=⟨[],⟨dL 78 0 [(0,.v (.one (.full 0))),(1,.v (.one (.full 1))),(5,.v (.one (.full 2))),(7,.v (.one (.full 3))),(8,.v (.one (.i .i64))),(23,.v (.one (.full 0))),(24,.v (.one (.i .i64))),(25,.v (.one (.i .i64))),(31,.v (.one (.full 4))),(32,.v (.one (.i .i64))),(33,.v (.one (.i .i64)))],[.row (Ty.prod (Ty.prod aO aO) (Ty.prod yi (Ty.prod yi (Ty.sl yi)))) 0,.row ff 0,.row yi 2,.row Ty.bool 2,.row yi 0],0,none,[],[1,5,6],[7,8,0,2,9,3,4],[(.l yi),(.l Ty.bool),.i,.i,(.l yi),.i,.i],[.i (x.1.length:Int),.l (Ty.prod (Ty.prod aO aO) (Ty.prod yi (Ty.prod yi (Ty.sl yi)))) x.1,.l ff x.2]⟩,[⟨.ret,.ret,⟨dL 78 0 [(4,.v (.one (.b)))],[],0,none,[],[0],[],[],[.b false]⟩⟩,⟨(.exit 2),.normal,⟨dL 78 0 [(0,.v (.one (.full 0))),(1,.v (.one (.full 1))),(5,.v (.one (.full 2))),(7,.v (.one (.full 3))),(23,.v (.one (.full 0))),(24,.v (.one (.i .i64))),(25,.v (.one (.i .i64)))],[.row (Ty.prod (Ty.prod aO aO) (Ty.prod yi (Ty.prod yi (Ty.sl yi)))) 0,.row ff 0,.row yi 2,.row Ty.bool 2],0,none,[],[0,2,3],[4,5,1],[(.l yi),(.l Ty.bool),.i],[.i (x.1.length:Int),.l (Ty.prod (Ty.prod aO aO) (Ty.prod yi (Ty.prod yi (Ty.sl yi)))) x.1,.l ff x.2]⟩⟩]⟩
def me (x:(List ((I3×I3)×Int×Int×List Int)×List I9)) (s:(List Int×List Bool×Int×Int×List Int×I2)):(List Int×List Bool×Int×Int×List Int×I2)⊕(Unit⊕(List Int×List Bool×Int)):=
 (if (s.2.2.2.2.2.2<s.2.2.2.2.2.1) then
 (if ((s.2.2.2.2.1.getD s.2.2.2.2.2.2.toNat 0)<0) then
 (Sum.inr (Sum.inl ())) else
 (if ((s.2.2.2.2.1.getD s.2.2.2.2.2.2.toNat 0)>=(x.2.length:Int)) then
 (Sum.inr (Sum.inl ())) else
 (if ((s.2.1.getD (Int.toNat (s.2.2.2.2.1.getD s.2.2.2.2.2.2.toNat 0)) false)=true) then
 (Sum.inr (Sum.inl ())) else
 (aj (List.set s.2.1 (Int.toNat (s.2.2.2.2.1.getD s.2.2.2.2.2.2.toNat 0)) true) fun y=>
 (aj (run (mg x) (s.1,y,s.2.2.1,(s.2.2.2.2.1.getD s.2.2.2.2.2.2.toNat 0),s.2.2.1,s.2.2.2.1,s.2.2.2.2.1,s.2.2.2.2.2.1,s.2.2.2.2.2.2)) fun r=>
 (Sum.elim (fun a=>
 (Sum.inr (Sum.inl ()))) (fun b=>
 (Sum.inl (b.1,b.2.1,b.2.2.1,b.2.2.2.1,b.2.2.2.2.1,b.2.2.2.2.2.1,(au (b.2.2.2.2.2.2+1))))) r)))))) else
 (Sum.inr (Sum.inr ((s.1,s.2.1,s.2.2.2.1)))))
def rT (x:(List ((I3×I3)×Int×Int×List Int)×List I9)) (s:(List Int×List Bool×Int×Int×List Int×I2)):Prop:=
 ((s.2.2.2.2.2.2<s.2.2.2.2.2.1)->
 (((0<=s.2.2.2.2.2.2)/\ (s.2.2.2.2.2.2<(s.2.2.2.2.1.length:Int)))/\
 ((s.2.2.2.2.2.2.toNat<s.2.2.2.2.1.length)/\
 ((s.2.2.2.2.2.2.toNat<s.2.2.2.2.1.length)/\
 (¬((s.2.2.2.2.1.getD s.2.2.2.2.2.2.toNat 0)<0)->
 (¬((s.2.2.2.2.1.getD s.2.2.2.2.2.2.toNat 0)>=(x.2.length:Int))->
 (((0<=(s.2.2.2.2.1.getD s.2.2.2.2.2.2.toNat 0))/\ ((s.2.2.2.2.1.getD s.2.2.2.2.2.2.toNat 0)<(s.2.1.length:Int)))/\
 (((Int.toNat (s.2.2.2.2.1.getD s.2.2.2.2.2.2.toNat 0))<s.2.1.length)/\
 (((Int.toNat (s.2.2.2.2.1.getD s.2.2.2.2.2.2.toNat 0))<s.2.1.length)/\
 (¬((s.2.1.getD (Int.toNat (s.2.2.2.2.1.getD s.2.2.2.2.2.2.toNat 0)) false)=true)->
 (((0<=(s.2.2.2.2.1.getD s.2.2.2.2.2.2.toNat 0))/\ ((s.2.2.2.2.1.getD s.2.2.2.2.2.2.toNat 0)<(s.2.1.length:Int)))/\
 (((Int.toNat (s.2.2.2.2.1.getD s.2.2.2.2.2.2.toNat 0))<s.2.1.length)/\
 (((Int.toNat (s.2.2.2.2.1.getD s.2.2.2.2.2.2.toNat 0))<s.2.1.length)/\
 (aB (List.set s.2.1 (Int.toNat (s.2.2.2.2.1.getD s.2.2.2.2.2.2.toNat 0)) true) fun y=>
 (Term (mg x) (rU x) (s.1,y,s.2.2.1,(s.2.2.2.2.1.getD s.2.2.2.2.2.2.toNat 0),s.2.2.1,s.2.2.2.1,s.2.2.2.2.1,s.2.2.2.2.2.1,s.2.2.2.2.2.2))))))))))))))))
def NP (x:(List ((I3×I3)×Int×Int×List Int)×List I9)) (s:(List Int×List Bool×Int×Int×List Int×I2)):Tr ((List Int×List Bool×Int×Int×List Int×I2)⊕(Unit⊕(List Int×List Bool×Int))) true:=
 (.i10 (s.2.2.2.2.2.2<s.2.2.2.2.2.1)
 (.nc s.2.2.2.2.2.2 s.2.2.2.2.1
 (.HX ((gI s.2.2.2.2.1 s.2.2.2.2.2.2)<z0)
 (.ret (.inr (Sum.inl ())))
 (.HX ((gI s.2.2.2.2.1 s.2.2.2.2.2.2)>=(nL x.2))
 (.ret (.inr (Sum.inl ())))
 (.nc (gI s.2.2.2.2.1 s.2.2.2.2.2.2) s.2.1
 (.kO (gT s.2.1 (gI s.2.2.2.2.1 s.2.2.2.2.2.2) false)
 (.ret (.inr (Sum.inl ())))
 (.nc (gI s.2.2.2.2.1 s.2.2.2.2.2.2) s.2.1
 (.lt (List.set s.2.1 (tN (gI s.2.2.2.2.1 s.2.2.2.2.2.2)) true) fun y=>
 (aL.lp (Zy x) (NQ x) (s.1,y,s.2.2.1,(gI s.2.2.2.2.1 s.2.2.2.2.2.2),s.2.2.1,s.2.2.2.1,s.2.2.2.2.1,s.2.2.2.2.2.1,s.2.2.2.2.2.2) fun r=>
 (.OD r (fun a=>
 (.ret (.inr (Sum.inl ())))) (fun b=>
 (.ret (.inl (b.1,b.2.1,b.2.2.1,b.2.2.2.1,b.2.2.2.2.1,b.2.2.2.2.2.1,(w1 b.2.2.2.2.2.2))))))))))))))
 (.ret (.inr (Sum.inr ((s.1,s.2.1,s.2.2.2.1))))))
def Zw (x:(List ((I3×I3)×Int×Int×List Int)×List I9)):aL:=⟨[],⟨dL 78 0 [(0,.v (.one (.full 0))),(1,.v (.one (.full 1))),(5,.v (.one (.full 2))),(7,.v (.one (.full 3))),(23,.v (.one (.full 0))),(24,.v (.one (.i .i64))),(25,.v (.one (.i .i64)))],[.row (Ty.prod (Ty.prod aO aO) (Ty.prod yi (Ty.prod yi (Ty.sl yi)))) 0,.row ff 0,.row yi 2,.row Ty.bool 2],0,none,[],[0,2,3],[4,5,1],[(.l yi),(.l Ty.bool),.i],[.i (x.1.length:Int),.l (Ty.prod (Ty.prod aO aO) (Ty.prod yi (Ty.prod yi (Ty.sl yi)))) x.1,.l ff x.2]⟩,[⟨.ret,.ret,⟨dL 78 0 [(4,.v (.one (.b)))],[],0,none,[],[0],[],[],[.b false]⟩⟩,⟨(.exit 0),.normal,⟨dL 78 0 [(7,.v (.one (.full 0)))],[.row Ty.bool 2],0,none,[],[],[0],[(.l Ty.bool)],[]⟩⟩]⟩
def jO (x:(List ((I3×I3)×Int×Int×List Int)×List I9)) (s:(List Int×List Bool×Int)):(List Int×List Bool×Int)⊕(Unit⊕(List Bool)):=
 (if (s.2.2<(x.1.length:Int)) then
 (aj (run (me x) (s.1,s.2.1,s.2.2,s.2.2,(x.1.getD s.2.2.toNat (((0,0,0),0,0,0),0,0,[])).2.2.2,((x.1.getD s.2.2.toNat (((0,0,0),0,0,0),0,0,[])).2.2.2.length:Int),0)) fun r=>
 (Sum.elim (fun a=>
 (Sum.inr (Sum.inl ()))) (fun b=>
 (Sum.inl (b.1,b.2.1,(au (b.2.2+1))))) r)) else
 (Sum.inr (Sum.inr (s.2.1))))
def rS (x:(List ((I3×I3)×Int×Int×List Int)×List I9)) (s:(List Int×List Bool×Int)):Prop:=
 ((s.2.2<(x.1.length:Int))->
 (((0<=s.2.2)/\ (s.2.2<(x.1.length:Int)))/\
 ((s.2.2.toNat<x.1.length)/\
 ((s.2.2.toNat<x.1.length)/\
 (Term (me x) (rT x) (s.1,s.2.1,s.2.2,s.2.2,(x.1.getD s.2.2.toNat (((0,0,0),0,0,0),0,0,[])).2.2.2,((x.1.getD s.2.2.toNat (((0,0,0),0,0,0),0,0,[])).2.2.2.length:Int),0))))))
def NO (x:(List ((I3×I3)×Int×Int×List Int)×List I9)) (s:(List Int×List Bool×Int)):Tr ((List Int×List Bool×Int)⊕(Unit⊕(List Bool))) true:=
 (.i10 (s.2.2<(nL x.1))
 (.nc s.2.2 x.1
 (aL.lp (Zx x) (NP x) (s.1,s.2.1,s.2.2,s.2.2,(gT x.1 s.2.2 ((bH,bH),z0,z0,[])).2.2.2,(nL (gT x.1 s.2.2 ((bH,bH),z0,z0,[])).2.2.2),z0) fun r=>
 (.OD r (fun a=>
 (.ret (.inr (Sum.inl ())))) (fun b=>
 (.ret (.inl (b.1,b.2.1,(w1 b.2.2))))))))
 (.ret (.inr (Sum.inr (s.2.1)))))
def isT (x:(List ((I3×I3)×Int×Int×List Int)×List I9)):Bool:=
 (aj (uM x.1) fun y=>
 (if ((!y.2)=true) then
 false else
 (aj (run (jO x) (y.1,(List.replicate x.2.length false),(0:Int))) fun r=>
 (Sum.elim (fun a=>
 false) (fun b=>
 (aj (kW (b,false)) fun aA=>
 (!aA))) r))))
def DG (x:(List ((I3×I3)×Int×Int×List Int)×List I9)):Prop:=
 ((nk x.1)/\
 aB (uM x.1) fun y=>
 (¬((!y.2)=true)->
 ((((x.2.length:Int)<=(x.2.length:Int))/\ (x.2.length<1099511627776))/\
 (Term (jO x) (rS x) (y.1,(List.replicate x.2.length false),(0:Int))/\
 aB (run (jO x) (y.1,(List.replicate x.2.length false),(0:Int))) fun r=>
 (cS r (fun a=>
 True) (fun b=>
 (pT (b,false))))))))
def aiZ (x:(List ((I3×I3)×Int×Int×List Int)×List I9)):Tr Bool true:=
 (.fn si x.1 fun y=>
 (.kO (!y.2)
 (.ret false)
 (.og (((decide (z0<=(nL x.2)))&&(decide ((nL x.2)<=(nL x.2))))&&(decide (x.2.length<1099511627776))) (((nL x.2)<=(nL x.2))/\ (x.2.length<1099511627776)) (fun h=>(gh (gh rfl (decide_eq_true h.1)) (decide_eq_true h.2)))
 (aL.lp (Zw x) (NO x) (y.1,(List.replicate x.2.length false),z0) fun r=>
 (.s01 r (fun a=>
 (.ret false)) (fun b=>
 (.fn oU (b,false) fun aA=>
 (.ret (!aA)))))))))
abbrev Tc:cf:=⟨(.pair (.one (Ty.sl (Ty.prod (Ty.prod aO aO) (Ty.prod yi (Ty.prod yi (Ty.sl yi)))))) (.one (Ty.sl ff))),(.one Ty.bool),DG,isT⟩
theorem agv:ah Tryz.prog 137 (ak Tc):=ah.tr Tc aiZ (fn:=Tryz.f137) az gF mixed (by kernel_rfl) (av.nil _ _) (fun x=>(ax.tr az (af.eA gF (av.nil _ _)) mixed 0 (Zw x) (NO x) (ax.tr az (af.eA gF (av.nil _ _)) mixed 2 (Zx x) (NP x) (ax.tr az (af.eA gF (av.nil _ _)) mixed 4 (Zy x) (NQ x) ax.nil (by kernel_rfl) fun g s Q=>(by kernel_rfl)) (by kernel_rfl) fun g s Q=>(by kernel_rfl)) (by kernel_rfl) fun g s Q=>(by kernel_rfl))) (fun x=>(by kernel_rfl)) fun x Q=>(by kernel_rfl)
def aaL:List (Nat×Ev.Spec):=(137,ak Tc)::Ad
theorem Ka:af Tryz.prog aaL:=af.add (fn:=Tryz.f137) (by kernel_rfl) agv gF
end Go.Proofs.YtngdehlpoomaiaaGreat
