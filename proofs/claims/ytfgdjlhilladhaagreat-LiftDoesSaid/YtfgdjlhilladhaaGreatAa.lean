/- Models of functions of layer 17. -/
import Derived.Test.YtfgdjlhilladhaaGreatEvR
import Derived.Test.YtfgdjlhilladhaaGreatTt
noncomputable section
set_option linter.unusedSectionVars false
set_option linter.unusedVariables false
set_option linter.unusedSimpArgs false
namespace Go.Proofs.YtfgdjlhilladhaaGreat
open Go Go.Ev Go.Proofs
def behind (x:I3):Bool:=
 (if (x.2.2>=x.1) then
 (decide ((IntKind.wrap IntKind.u64 ((IntKind.wrap IntKind.u64 x.2.2)- (IntKind.wrap IntKind.u64 x.1)))>=(IntKind.wrap IntKind.u64 x.2.1))) else
 false)
def VX (_:I3):Prop:=True
def ac1 (x:I3):Tr Bool false:=
 (.fm (x.2.2>=x.1)
 (.ret (decide ((IntKind.wrap IntKind.u64 ((IntKind.wrap IntKind.u64 x.2.2)- (IntKind.wrap IntKind.u64 x.1)))>=(IntKind.wrap IntKind.u64 x.2.1))))
 (.ret false))
abbrev xh:bB:=⟨(.pair (.one yi) (.pair (.one yi) (.one yi))),(.one Ty.bool),VX,behind⟩
theorem Z9:ah Tryz.prog 168 (ak xh):=ah.tr xh ac1 (fn:=Tryz.f168) ax (ae.nil _) mixed (by kernel_rfl) (av.nil _ _) (fun x=>au.nil) (fun x=>(by kernel_rfl)) fun x Q=>(by kernel_rfl)
def Py:List (Nat×Ev.Spec):=(168,ak xh):: []
theorem Ey:ae Tryz.prog Py:=ae.add (fn:=Tryz.f168) (by kernel_rfl) Z9 (ae.nil _)
def Zw (x:(Int×I3)):Bool:=
 (if (x.2.1<=0) then
 true else
 (if (x.2.2.2<=0) then
 true else
 (aq (behind (x.1,x.2.1,x.2.2.1)) fun y=>
 (if (y=true) then
 true else
 (aq (behind (x.2.2.1,x.2.2.2,x.1)) fun aB=>
 aB)))))
def acu (_:(Int×I3)):Prop:=True
def ah8 (x:(Int×I3)):Tr Bool false:=
 (.fm (x.2.1<=z0)
 (.ret true)
 (.fm (x.2.2.2<=z0)
 (.ret true)
 (.fn0 xh (x.1,x.2.1,x.2.2.1) trivial fun y=>
 (.cQ y
 (.ret true)
 (.fn0 xh (x.2.2.1,x.2.2.2,x.1) trivial fun aB=>
 (.ret aB))))))
abbrev Ew:bB:=⟨(.pair (.one yi) (.pair (.one yi) (.pair (.one yi) (.one yi)))),(.one Ty.bool),acu,Zw⟩
theorem afF:ah Tryz.prog 167 (ak Ew):=ah.tr Ew ah8 (fn:=Tryz.f167) ax Ey mixed (by kernel_rfl) (av.nil _ _) (fun x=>au.nil) (fun x=>(by kernel_rfl)) fun x Q=>(by kernel_rfl)
def VB:List (Nat×Ev.Spec):=(167,ak Ew)::Py
theorem Iy:ae Tryz.prog VB:=ae.add (fn:=Tryz.f167) (by kernel_rfl) afF Ey
def Sx (x:((Int×I3)×Int×I3)):Bool:=
 (aq (Zw (x.1.1,x.1.2.2.1,x.2.1,x.2.2.2.1)) fun y=>
 (if (y=true) then
 true else
 (aq (Zw (x.1.2.1,x.1.2.2.2,x.2.2.1,x.2.2.2.2)) fun aB=>
 aB)))
def Ya (_:((Int×I3)×Int×I3)):Prop:=True
def afD (x:((Int×I3)×Int×I3)):Tr Bool false:=
 (.fn0 Ew (x.1.1,x.1.2.2.1,x.2.1,x.2.2.2.1) trivial fun y=>
 (.cQ y
 (.ret true)
 (.fn0 Ew (x.1.2.1,x.1.2.2.2,x.2.2.1,x.2.2.2.2) trivial fun aB=>
 (.ret aB))))
abbrev Es:bB:=⟨(.pair (.agg (Ty.prod yi aU)) (.agg (Ty.prod yi aU))),(.one Ty.bool),Ya,Sx⟩
theorem acr:ah Tryz.prog 131 (ak Es):=ah.tr Es afD (fn:=Tryz.f131) ax Iy mixed (by kernel_rfl) (av.nil _ _) (fun x=>au.nil) (fun x=>(by kernel_rfl)) fun x Q=>(by kernel_rfl)
def Qs:List (Nat×Ev.Spec):=(131,ak Es)::VB
theorem Fj:ae Tryz.prog Qs:=ae.add (fn:=Tryz.f131) (by kernel_rfl) acr Iy
def T6 (x:((Int×I3)×Int×I3)):Bool:=
 (aq (Sx x) fun y=>
 (!y))
def aeH (_:((Int×I3)×Int×I3)):Prop:=True
def ajU (x:((Int×I3)×Int×I3)):Tr Bool false:=
 (.fn0 Es x trivial fun y=>
 (.ret (!y)))
abbrev RD:bB:=⟨(.pair (.agg (Ty.prod yi aU)) (.ptr (.prod (.int .i64) (.prod (.int .i64) (.prod (.int .i64) (.int .i64)))))),(.one Ty.bool),aeH,T6⟩
theorem ahv:ah Tryz.prog 130 (ak RD):=ah.tr RD ajU (fn:=Tryz.f130) ax Fj mixed (by kernel_rfl) (av.nil _ _) (fun x=>au.nil) (fun x=>(by kernel_rfl)) fun x Q=>(by kernel_rfl)
def ZL:List (Nat×Ev.Spec):=(130,ak RD)::Qs
theorem Cp:ae Tryz.prog ZL:=ae.add (fn:=Tryz.f130) (by kernel_rfl) ahv Fj
def Ow (x:(List (Int×I3)×Int×I3)):aF:=⟨[],⟨bq 19 0 [(0,.v (.one (.full 0))),(1,.v (.one (.ik 130 0 [.elem 1]))),(7,.v (.one (.i .i64))),(8,.v (.one (.i .i64)))],[.row (Ty.prod yi aU) 0,.row (Ty.prod yi aU) 0],0,none,[],[0,1,3,4],[2],[.i],[.n 0,.i (x.1.length:Int),.l (Ty.prod yi aU) x.1,.l (Ty.prod yi aU) [x.2]]⟩,[⟨.ret,.ret,⟨bq 19 0 [(4,.v (.one (.i .i64)))],[],0,none,[],[],[0],[.i],[]⟩⟩,⟨(.exit 0),.normal,⟨bq 19 0 [],[],0,none,[],[],[],[],[]⟩⟩]⟩
def jw (x:(List (Int×I3)×Int×I3)) (s:Int):Int⊕(Int⊕Unit):=
 (if (s<(x.1.length:Int)) then
 (aq (T6 ((x.1.getD s.toNat (0,0,0,0)),x.2)) fun y=>
 (if (y=true) then
 (Sum.inr (Sum.inl s)) else
 (Sum.inl (aj (s+1))))) else
 (Sum.inr (Sum.inr (()))))
def sV (x:(List (Int×I3)×Int×I3)) (s:Int):Prop:=
 ((s<(x.1.length:Int))->
 (((0<=s)/\ (s<(x.1.length:Int)))/\
 ((s.toNat<x.1.length)/\
 (s.toNat<x.1.length))))
def G9 (x:(List (Int×I3)×Int×I3)) (s:Int):Tr (Int⊕(Int⊕Unit)) true:=
 (.i10 (s<(nL x.1))
 (.gu s x.1
 (.fn0 RD ((gT x.1 s (z0,ef)),x.2) trivial fun y=>
 (.cQ y
 (.ret (.inr (Sum.inl s)))
 (.ret (.inl (w1 s))))))
 (.ret (.inr (Sum.inr (())))))
def WB (x:(List (Int×I3)×Int×I3)):Int:=
 (aq (run (jw x) 0) fun r=>
 (Sum.elim (fun a=>
 a) (fun b=>
 (-1)) r))
def Ks (x:(List (Int×I3)×Int×I3)):Prop:=
 (Term (jw x) (sV x) 0)
def ad3 (x:(List (Int×I3)×Int×I3)):Tr Int true:=
 (aF.lp (Ow x) (G9 x) z0 fun r=>
 (.ri r (fun a=>
 (.ret a)) (fun b=>
 (.ret (-1)))))
abbrev C8:bB:=⟨(.pair (.one (Ty.sl (Ty.prod yi aU))) (.ik 130 (.ptr (.prod (.int .i64) (.prod (.int .i64) (.prod (.int .i64) (.int .i64))))))),(.one yi),Ks,WB⟩
theorem aaM:ah Tryz.prog 166 (ak C8):=ah.tr C8 ad3 (fn:=Tryz.f166) ax Cp mixed (by kernel_rfl) (av.nil _ _) (fun x=>(au.tr ax (ae.bD Cp (av.nil _ _)) mixed 0 (Ow x) (G9 x) au.nil (by kernel_rfl) fun g s Q=>(by kernel_rfl))) (fun x=>(by kernel_rfl)) fun x Q=>(by kernel_rfl)
def PS:List (Nat×Ev.Spec):=(166,ak C8)::ZL
theorem EJ:ae Tryz.prog PS:=ae.add (fn:=Tryz.f166) (by kernel_rfl) aaM Cp
def zo (x:(List (Int×I3)×Int×I3)):Bool:=
 (aq (WB x) fun y=>
 (decide (y>=0)))
def sO (x:(List (Int×I3)×Int×I3)):Prop:=
 (Ks x)
def S7 (x:(List (Int×I3)×Int×I3)):Tr Bool true:=
 (.fn C8 x fun y=>
 (.ret (decide (y>=z0))))
abbrev rF:bB:=⟨(.pair (.one (Ty.sl (Ty.prod yi aU))) (.ik 130 (.ptr (.prod (.int .i64) (.prod (.int .i64) (.prod (.int .i64) (.int .i64))))))),(.one Ty.bool),sO,zo⟩
theorem QV:ah Tryz.prog 129 (ak rF):=ah.tr rF S7 (fn:=Tryz.f129) ax EJ mixed (by kernel_rfl) (av.nil _ _) (fun x=>au.nil) (fun x=>(by kernel_rfl)) fun x Q=>(by kernel_rfl)
def EB:List (Nat×Ev.Spec):=(129,ak rF)::PS
theorem pF:ae Tryz.prog EB:=ae.add (fn:=Tryz.f129) (by kernel_rfl) QV EJ
def Zy (x:(Int×Int×List (Int×I3))):aF:=⟨[],⟨bq 66 0 [(0,.v (.one (.i .i64))),(1,.v (.one (.i .i64))),(2,.v (.one (.full 0))),(9,.v (.one (.full 0))),(10,.v (.one (.i .i64))),(11,.v (.one (.i .i64)))],[.row (Ty.prod yi aU) 0],0,none,[],[0,1,2,4],[3],[.i],[.i x.1,.i x.2.1,.i (x.2.2.length:Int),.l (Ty.prod yi aU) x.2.2]⟩,[⟨.ret,.ret,⟨bq 66 0 [(6,.v (.one (.b)))],[],0,none,[],[0],[],[],[.b false]⟩⟩,⟨(.exit 0),.normal,⟨bq 66 0 [],[],0,none,[],[],[],[],[]⟩⟩]⟩
def mJ (x:(Int×Int×List (Int×I3))) (s:Int):Int⊕(Unit⊕Unit):=
 (if (s<(x.2.2.length:Int)) then
 (if ((aG (x.2.2.getD s.toNat (0,0,0,0)).2.2.1 (x.2.2.getD s.toNat (0,0,0,0)).2.2.2)<1) then
 (Sum.inr (Sum.inl ())) else
 (if ((aG (x.2.2.getD s.toNat (0,0,0,0)).1 (x.2.2.getD s.toNat (0,0,0,0)).2.1)<0) then
 (Sum.inr (Sum.inl ())) else
 (if ((x.2.2.getD s.toNat (0,0,0,0)).2.2.1>x.1) then
 (Sum.inr (Sum.inl ())) else
 (if ((x.2.2.getD s.toNat (0,0,0,0)).2.2.2>x.2.1) then
 (Sum.inr (Sum.inl ())) else
 (if ((x.2.2.getD s.toNat (0,0,0,0)).1>(aj (x.1- (x.2.2.getD s.toNat (0,0,0,0)).2.2.1))) then
 (Sum.inr (Sum.inl ())) else
 (if ((x.2.2.getD s.toNat (0,0,0,0)).2.1>(aj (x.2.1- (x.2.2.getD s.toNat (0,0,0,0)).2.2.2))) then
 (Sum.inr (Sum.inl ())) else
 (aq (zo ((List.take s.toNat x.2.2),(x.2.2.getD s.toNat (0,0,0,0)))) fun y=>
 (if (y=true) then
 (Sum.inr (Sum.inl ())) else
 (Sum.inl (aj (s+1))))))))))) else
 (Sum.inr (Sum.inr (()))))
def sD (x:(Int×Int×List (Int×I3))) (s:Int):Prop:=
 ((s<(x.2.2.length:Int))->
 (((0<=s)/\ (s<(x.2.2.length:Int)))/\
 ((s.toNat<x.2.2.length)/\
 ((s.toNat<x.2.2.length)/\
 (¬((aG (x.2.2.getD s.toNat (0,0,0,0)).2.2.1 (x.2.2.getD s.toNat (0,0,0,0)).2.2.2)<1)->
 (¬((aG (x.2.2.getD s.toNat (0,0,0,0)).1 (x.2.2.getD s.toNat (0,0,0,0)).2.1)<0)->
 (¬((x.2.2.getD s.toNat (0,0,0,0)).2.2.1>x.1)->
 (¬((x.2.2.getD s.toNat (0,0,0,0)).2.2.2>x.2.1)->
 (¬((x.2.2.getD s.toNat (0,0,0,0)).1>(aj (x.1- (x.2.2.getD s.toNat (0,0,0,0)).2.2.1)))->
 (¬((x.2.2.getD s.toNat (0,0,0,0)).2.1>(aj (x.2.1- (x.2.2.getD s.toNat (0,0,0,0)).2.2.2)))->
 (((0<=s)/\ (s<=(x.2.2.length:Int)))/\
 (sO ((List.take s.toNat x.2.2),(x.2.2.getD s.toNat (0,0,0,0)))))))))))))))
def Pv (x:(Int×Int×List (Int×I3))) (s:Int):Tr (Int⊕(Unit⊕Unit)) true:=
 (.i10 (s<(nL x.2.2))
 (.gu s x.2.2
 (.nK ((aG (gT x.2.2 s (z0,ef)).2.2.1 (gT x.2.2 s (z0,ef)).2.2.2)<z1)
 (.ret (.inr (Sum.inl ())))
 (.nK ((aG (gT x.2.2 s (z0,ef)).1 (gT x.2.2 s (z0,ef)).2.1)<z0)
 (.ret (.inr (Sum.inl ())))
 (.nK ((gT x.2.2 s (z0,ef)).2.2.1>x.1)
 (.ret (.inr (Sum.inl ())))
 (.nK ((gT x.2.2 s (z0,ef)).2.2.2>x.2.1)
 (.ret (.inr (Sum.inl ())))
 (.nK ((gT x.2.2 s (z0,ef)).1>(aj (x.1- (gT x.2.2 s (z0,ef)).2.2.1)))
 (.ret (.inr (Sum.inl ())))
 (.nK ((gT x.2.2 s (z0,ef)).2.1>(aj (x.2.1- (gT x.2.2 s (z0,ef)).2.2.2)))
 (.ret (.inr (Sum.inl ())))
 (.og ((decide (z0<=s))&&(decide (s<=(nL x.2.2)))) ((z0<=s)/\ (s<=(nL x.2.2))) (fun h=>(dK (decide_eq_true h.1) (decide_eq_true h.2)))
 (.fn rF ((List.take (tN s) x.2.2),(gT x.2.2 s (z0,ef))) fun y=>
 (.cQ y
 (.ret (.inr (Sum.inl ())))
 (.ret (.inl (w1 s)))))))))))))
 (.ret (.inr (Sum.inr (())))))
def afG (x:(Int×Int×List (Int×I3))):Bool:=
 (aq (run (mJ x) 0) fun r=>
 (Sum.elim (fun a=>
 false) (fun b=>
 true) r))
def LU (x:(Int×Int×List (Int×I3))):Prop:=
 (Term (mJ x) (sD x) 0)
def aka (x:(Int×Int×List (Int×I3))):Tr Bool true:=
 (aF.lp (Zy x) (Pv x) z0 fun r=>
 (.ri r (fun a=>
 (.ret false)) (fun b=>
 (.ret true))))
abbrev LS:bB:=⟨(.pair (.one yi) (.pair (.one yi) (.one (Ty.sl (Ty.prod yi aU))))),(.one Ty.bool),LU,afG⟩
theorem Zz:ah Tryz.prog 89 (ak LS):=ah.tr LS aka (fn:=Tryz.f89) ax pF mixed (by kernel_rfl) (av.nil _ _) (fun x=>(au.tr ax (ae.bD pF (av.nil _ _)) mixed 0 (Zy x) (Pv x) au.nil (by kernel_rfl) fun g s Q=>(by kernel_rfl))) (fun x=>(by kernel_rfl)) fun x Q=>(by kernel_rfl)
def ZQ:List (Nat×Ev.Spec):=(89,ak LS)::EB
theorem My:ae Tryz.prog ZQ:=ae.add (fn:=Tryz.f89) (by kernel_rfl) Zz pF
def ajP (x:I2):I2:=
 ((IntKind.wrap IntKind.u32 (Int.fdiv (IntKind.wrap IntKind.u64 ((IntKind.wrap IntKind.u64 x.1)*(IntKind.wrap IntKind.u64 x.2))) 4294967296)),(IntKind.wrap IntKind.u32 (IntKind.wrap IntKind.u64 ((IntKind.wrap IntKind.u64 x.1)*(IntKind.wrap IntKind.u64 x.2)))))
def WZ (_:I2):Prop:=True
def aeD (x:I2):Tr I2 false:=
 (.ret ((IntKind.wrap IntKind.u32 (Int.fdiv (IntKind.wrap IntKind.u64 ((IntKind.wrap IntKind.u64 x.1)*(IntKind.wrap IntKind.u64 x.2))) 4294967296)),(IntKind.wrap IntKind.u32 (IntKind.wrap IntKind.u64 ((IntKind.wrap IntKind.u64 x.1)*(IntKind.wrap IntKind.u64 x.2))))))
abbrev KR:bB:=⟨(.pair (.one (Ty.int IntKind.u32)) (.one (Ty.int IntKind.u32))),(.pair (.one (Ty.int IntKind.u32)) (.one (Ty.int IntKind.u32))),WZ,ajP⟩
theorem abd:ah Tryz.prog 138 (ak KR):=ah.tr KR aeD (fn:=Tryz.f138) ax My mixed (by kernel_rfl) (av.nil _ _) (fun x=>au.nil) (fun x=>(by kernel_rfl)) fun x Q=>(by kernel_rfl)
def P1:List (Nat×Ev.Spec):=(138,ak KR)::ZQ
theorem ES:ae Tryz.prog P1:=ae.add (fn:=Tryz.f138) (by kernel_rfl) abd My
def W0 (x:I2):I2:=
 ((IntKind.wrap IntKind.u64 ((IntKind.wrap IntKind.u64 ((IntKind.wrap IntKind.u64 ((Int.fdiv x.1 4294967296)*(Int.fdiv x.2 4294967296)))+(Int.fdiv (IntKind.wrap IntKind.u64 ((IntKind.wrap IntKind.u64 ((Int.fdiv x.1 4294967296)*(IntKind.wrap IntKind.u64 (((BitVec.toNat ((BitVec.ofInt 64 x.2)&&&(BitVec.ofInt 64 4294967295))):Nat):Int))))+(Int.fdiv (IntKind.wrap IntKind.u64 ((IntKind.wrap IntKind.u64 (((BitVec.toNat ((BitVec.ofInt 64 x.1)&&&(BitVec.ofInt 64 4294967295))):Nat):Int))*(IntKind.wrap IntKind.u64 (((BitVec.toNat ((BitVec.ofInt 64 x.2)&&&(BitVec.ofInt 64 4294967295))):Nat):Int)))) 4294967296))) 4294967296)))+(Int.fdiv (IntKind.wrap IntKind.u64 ((IntKind.wrap IntKind.u64 (((BitVec.toNat ((BitVec.ofInt 64 (IntKind.wrap IntKind.u64 ((IntKind.wrap IntKind.u64 ((Int.fdiv x.1 4294967296)*(IntKind.wrap IntKind.u64 (((BitVec.toNat ((BitVec.ofInt 64 x.2)&&&(BitVec.ofInt 64 4294967295))):Nat):Int))))+(Int.fdiv (IntKind.wrap IntKind.u64 ((IntKind.wrap IntKind.u64 (((BitVec.toNat ((BitVec.ofInt 64 x.1)&&&(BitVec.ofInt 64 4294967295))):Nat):Int))*(IntKind.wrap IntKind.u64 (((BitVec.toNat ((BitVec.ofInt 64 x.2)&&&(BitVec.ofInt 64 4294967295))):Nat):Int)))) 4294967296))))&&&(BitVec.ofInt 64 4294967295))):Nat):Int))+(IntKind.wrap IntKind.u64 ((IntKind.wrap IntKind.u64 (((BitVec.toNat ((BitVec.ofInt 64 x.1)&&&(BitVec.ofInt 64 4294967295))):Nat):Int))*(Int.fdiv x.2 4294967296))))) 4294967296))),(IntKind.wrap IntKind.u64 (x.1*x.2)))
def W2 (_:I2):Prop:=True
abbrev aiP (x:I2):=(IntKind.wrap IntKind.u64 ((IntKind.wrap IntKind.u64 ((Int.fdiv x.1 (4294967296:Int))*(IntKind.wrap IntKind.u64 (((BitVec.toNat ((BitVec.ofInt 64 x.2)&&&(BitVec.ofInt 64 (4294967295:Int)))):Nat):Int))))+(Int.fdiv (IntKind.wrap IntKind.u64 ((IntKind.wrap IntKind.u64 (((BitVec.toNat ((BitVec.ofInt 64 x.1)&&&(BitVec.ofInt 64 (4294967295:Int)))):Nat):Int))*(IntKind.wrap IntKind.u64 (((BitVec.toNat ((BitVec.ofInt 64 x.2)&&&(BitVec.ofInt 64 (4294967295:Int)))):Nat):Int)))) (4294967296:Int))))
def aeE (x:I2):Tr I2 false:=
 (.ret ((IntKind.wrap IntKind.u64 ((IntKind.wrap IntKind.u64 ((IntKind.wrap IntKind.u64 ((Int.fdiv x.1 4294967296)*(Int.fdiv x.2 4294967296)))+(Int.fdiv (aiP x) 4294967296)))+(Int.fdiv (IntKind.wrap IntKind.u64 ((IntKind.wrap IntKind.u64 (((BitVec.toNat ((BitVec.ofInt 64 (aiP x))&&&(BitVec.ofInt 64 4294967295))):Nat):Int))+(IntKind.wrap IntKind.u64 ((IntKind.wrap IntKind.u64 (((BitVec.toNat ((BitVec.ofInt 64 x.1)&&&(BitVec.ofInt 64 4294967295))):Nat):Int))*(Int.fdiv x.2 4294967296))))) 4294967296))),(IntKind.wrap IntKind.u64 (x.1*x.2))))
abbrev Ds:bB:=⟨(.pair (.one (Ty.int IntKind.u64)) (.one (Ty.int IntKind.u64))),(.pair (.one (Ty.int IntKind.u64)) (.one (Ty.int IntKind.u64))),W2,W0⟩
theorem abe:ah Tryz.prog 139 (ak Ds):=ah.tr Ds aeE (fn:=Tryz.f139) ax ES mixed (by kernel_rfl) (av.nil _ _) (fun x=>au.nil) (fun x=>(by kernel_rfl)) fun x Q=>(by kernel_rfl)
def P4:List (Nat×Ev.Spec):=(139,ak Ds)::P1
theorem ET:ae Tryz.prog P4:=ae.add (fn:=Tryz.f139) (by kernel_rfl) abe ES
def S3 (x:I2):I2:=
 (aq (W0 x) fun y=>
 y)
def aac (_:I2):Prop:=True
def agJ (x:I2):Tr I2 false:=
 (.fn0 Ds x trivial fun y=>
 (.ret y))
abbrev I1:bB:=⟨(.pair (.one (Ty.int IntKind.u64)) (.one (Ty.int IntKind.u64))),(.pair (.one (Ty.int IntKind.u64)) (.one (Ty.int IntKind.u64))),aac,S3⟩
theorem ac3:ah Tryz.prog 93 (ak I1):=ah.tr I1 agJ (fn:=Tryz.f93) ax ET mixed (by kernel_rfl) (av.nil _ _) (fun x=>au.nil) (fun x=>(by kernel_rfl)) fun x Q=>(by kernel_rfl)
def U8:List (Nat×Ev.Spec):=(93,ak I1)::P4
theorem yE:ae Tryz.prog U8:=ae.add (fn:=Tryz.f93) (by kernel_rfl) ac3 ET
def LG (x:(List Int×Int)):aF:=⟨[],⟨bq 48 0 [(7,.v (.one (.full 0))),(8,.v (.one (.i .i64)))],[.row yi 2],0,none,[],[],[1,0],[(.l yi),.i],[]⟩,[⟨(.exit 0),.normal,⟨bq 48 0 [(7,.v (.one (.full 0)))],[.row yi 2],0,none,[],[],[0],[(.l yi)],[]⟩⟩]⟩
def iS (x:(List Int×Int)) (s:(List Int×Int)):(List Int×Int)⊕(List Int):=
 (if (s.2<(s.1.length:Int)) then
 (aq (j8 s.1 (s.2.toNat+0) (s.1.length- s.2.toNat) (List.take s.2.toNat s.1)) fun y=>
 (Sum.inl (y,(aj (s.2+(((rH (s.1.length- s.2.toNat) (List.length (List.take s.2.toNat s.1))):Nat):Int)))))) else
 (Sum.inr (s.1)))
def mG (x:(List Int×Int)) (s:(List Int×Int)):Prop:=
 ((s.2<(s.1.length:Int))->
 (((0<=s.2)/\ (s.2<=(s.1.length:Int)))/\
 ((0<=s.2)/\ (s.2<=(s.1.length:Int)))))
def Ep (x:(List Int×Int)) (s:(List Int×Int)):Tr ((List Int×Int)⊕(List Int)) true:=
 (.i10 (s.2<(nL s.1))
 (.og ((decide (z0<=s.2))&&(decide (s.2<=(nL s.1)))) ((z0<=s.2)/\ (s.2<=(nL s.1))) (fun h=>(dK (decide_eq_true h.1) (decide_eq_true h.2)))
 (.og ((decide (z0<=s.2))&&(decide (s.2<=(nL s.1)))) ((z0<=s.2)/\ (s.2<=(nL s.1))) (fun h=>(dK (decide_eq_true h.1) (decide_eq_true h.2)))
 (.lt (j8 s.1 ((tN s.2)+0) (s.1.length- (tN s.2)) (List.take (tN s.2) s.1)) fun y=>
 (.ret (.inl (y,(aj (s.2+(((rH (s.1.length- (tN s.2)) (List.length (List.take (tN s.2) s.1))):Nat):Int)))))))))
 (.ret (.inr (s.1))))
def repeatM (x:(List Int×Int)):(List Int):=
 (if (x.2<0) then
 default else
 (aq (S3 ((IntKind.wrap IntKind.u64 (x.1.length:Int)),(IntKind.wrap IntKind.u64 x.2))) fun y=>
 (if (y.1>0) then
 default else
 (if (y.2>9223372036854775807) then
 default else
 (aq (j8 (List.replicate (Int.toNat (aj y.2)) (0:Int)) 0 (List.length (List.replicate (Int.toNat (aj y.2)) (0:Int))) x.1) fun aB=>
 (aq (run (iS x) (aB,(((rH (List.length (List.replicate (Int.toNat (aj y.2)) (0:Int))) x.1.length):Nat):Int))) fun r=>
 r))))))
def lM (x:(List Int×Int)):Prop:=
 (((x.2<0)->
 False)/\
 (¬(x.2<0)->
 (az (S3 ((IntKind.wrap IntKind.u64 (x.1.length:Int)),(IntKind.wrap IntKind.u64 x.2))) fun y=>
 (((y.1>0)->
 False)/\
 (¬(y.1>0)->
 (((y.2>9223372036854775807)->
 False)/\
 (¬(y.2>9223372036854775807)->
 ((((0<=(aj y.2))/\ ((aj y.2)<=(aj y.2)))/\ ((Int.toNat (aj y.2))<1099511627776))/\
 (az (j8 (List.replicate (Int.toNat (aj y.2)) (0:Int)) 0 (List.length (List.replicate (Int.toNat (aj y.2)) (0:Int))) x.1) fun aB=>
 (Term (iS x) (mG x) (aB,(((rH (List.length (List.replicate (Int.toNat (aj y.2)) (0:Int))) x.1.length):Nat):Int))))))))))))
def acf (x:(List Int×Int)):Tr (List Int) true:=
 (.i11 (x.2<z0)
 (.og false False False.elim (.ret default))
 (.fn0 I1 ((IntKind.wrap IntKind.u64 (nL x.1)),(IntKind.wrap IntKind.u64 x.2)) trivial fun y=>
 (.i11 (y.1>z0)
 (.og false False False.elim (.ret default))
 (.i11 (y.2>9223372036854775807)
 (.og false False False.elim (.ret default))
 (.og (((decide (z0<=(aj y.2)))&&(decide ((aj y.2)<=(aj y.2))))&&(decide ((tN (aj y.2))<1099511627776))) (((z0<=(aj y.2))/\ ((aj y.2)<=(aj y.2)))/\ ((tN (aj y.2))<1099511627776)) (fun h=>(dK (dK (decide_eq_true h.1.1) (decide_eq_true h.1.2)) (decide_eq_true h.2)))
 (.lt (j8 (List.replicate (tN (aj y.2)) z0) 0 (List.length (List.replicate (tN (aj y.2)) z0)) x.1) fun aB=>
 (aF.lp (LG x) (Ep x) (aB,(((rH (List.length (List.replicate (tN (aj y.2)) z0)) x.1.length):Nat):Int)) fun r=>
 (.ret r))))))))
abbrev uw:bB:=⟨(.pair (.one (Ty.sl yi)) (.one yi)),(.one (Ty.sl yi)),lM,repeatM⟩
theorem LH:ah Tryz.prog 49 (ak uw):=ah.tr uw acf (fn:=Tryz.f49) ax yE mixed (by kernel_rfl) (av.nil _ _) (fun x=>(au.tr ax (ae.bD yE (av.nil _ _)) mixed 0 (LG x) (Ep x) au.nil (by kernel_rfl) fun g s Q=>(by kernel_rfl))) (fun x=>(by kernel_rfl)) fun x Q=>(by kernel_rfl)
def Yh:List (Nat×Ev.Spec):=(49,ak uw)::U8
theorem Bv:ae Tryz.prog Yh:=ae.add (fn:=Tryz.f49) (by kernel_rfl) LH yE
def Ot (x:(List Int×Int)):aF:=⟨[],⟨bq 19 0 [(0,.v (.one (.full 0))),(1,.v (.one (.i .i64))),(7,.v (.one (.i .i64))),(8,.v (.one (.i .i64)))],[.row yi 0],0,none,[],[0,1,3],[2],[.i],[.i x.2,.i (x.1.length:Int),.l yi x.1]⟩,[⟨.ret,.ret,⟨bq 19 0 [(4,.v (.one (.i .i64)))],[],0,none,[],[],[0],[.i],[]⟩⟩,⟨(.exit 0),.normal,⟨bq 19 0 [],[],0,none,[],[],[],[],[]⟩⟩]⟩
def xK (x:(List Int×Int)) (s:Int):Int⊕(Int⊕Unit):=
 (if (s<(x.1.length:Int)) then
 (if ((x.2==(x.1.getD s.toNat 0))=true) then
 (Sum.inr (Sum.inl s)) else
 (Sum.inl (aj (s+1)))) else
 (Sum.inr (Sum.inr (()))))
def Ni (x:(List Int×Int)) (s:Int):Prop:=
 ((s<(x.1.length:Int))->
 (((0<=s)/\ (s<(x.1.length:Int)))/\
 ((s.toNat<x.1.length)/\
 (s.toNat<x.1.length))))
def G7 (x:(List Int×Int)) (s:Int):Tr (Int⊕(Int⊕Unit)) true:=
 (.i10 (s<(nL x.1))
 (.gu s x.1
 (.cQ (x.2==(gI x.1 s))
 (.ret (.inr (Sum.inl s)))
 (.ret (.inl (w1 s)))))
 (.ret (.inr (Sum.inr (())))))
def Wz (x:(List Int×Int)):Int:=
 (aq (run (xK x) 0) fun r=>
 (Sum.elim (fun a=>
 a) (fun b=>
 (-1)) r))
def Kq (x:(List Int×Int)):Prop:=
 (Term (xK x) (Ni x) 0)
def ad0 (x:(List Int×Int)):Tr Int true:=
 (aF.lp (Ot x) (G7 x) z0 fun r=>
 (.ri r (fun a=>
 (.ret a)) (fun b=>
 (.ret (-1)))))
abbrev C6:bB:=⟨(.pair (.one (Ty.sl yi)) (.one yi)),(.one yi),Kq,Wz⟩
theorem aaK:ah Tryz.prog 55 (ak C6):=ah.tr C6 ad0 (fn:=Tryz.f55) ax Bv mixed (by kernel_rfl) (av.nil _ _) (fun x=>(au.tr ax (ae.bD Bv (av.nil _ _)) mixed 0 (Ot x) (G7 x) au.nil (by kernel_rfl) fun g s Q=>(by kernel_rfl))) (fun x=>(by kernel_rfl)) fun x Q=>(by kernel_rfl)
end Go.Proofs.YtfgdjlhilladhaaGreat
