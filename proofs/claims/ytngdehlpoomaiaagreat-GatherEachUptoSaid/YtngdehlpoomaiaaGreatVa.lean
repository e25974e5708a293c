/- Models of functions of layer 22: a walk. -/
import Derived.Test.YtngdehlpoomaiaaGreatSb
import Derived.Test.YtngdehlpoomaiaaGreatTq
import Derived.Test.YtngdehlpoomaiaaGreatTp
noncomputable section
set_option linter.unusedSectionVars false
set_option linter.unusedVariables false
set_option linter.unusedSimpArgs false
namespace Go.Proofs.YtngdehlpoomaiaaGreat
open Go Go.Ev Go.Proofs
abbrev lV:Type:=(List Int×List ((I3×I3)×Int×Int×List Int)×List I9×I3×I3)
abbrev M4:Type:=((List ((I3×I3)×Int×Int×List Int)×List I9×I3×I3)×Int)
abbrev kB:Type:=(List ((I3×I3)×Int×Int×List Int)×List I9×I3×I3)
abbrev akF:Ty:= .prod (.sl (.prod (.prod (.prod (.int .i64) (.prod (.int .i64) (.int .i64))) (.prod (.int .i64) (.prod (.int .i64) (.int .i64)))) (.prod (.int .i64) (.prod (.int .i64) (.sl (.int .i64)))))) (.prod (.sl (.prod (.prod (.int .i64) (.prod (.int .i64) (.int .i64))) (.prod (.prod (.int .i64) (.prod (.int .i64) (.int .i64))) (.prod (.int .i64) (.prod (.int .i64) (.int .i64)))))) (.prod (.prod (.int .i64) (.prod (.int .i64) (.int .i64))) (.prod (.int .i64) (.prod (.int .i64) (.int .i64)))))
def Jt (x:M4):Bool:=
 (aq (ZS (x.1.2.2.1,x.1.2.2.2,(x.1.2.1.getD x.2.toNat ((0,0,0),(0,0,0),0,0,0)))) fun y=>
 y.1)
def wA (x:M4):Prop:=
 (((0<=x.2)/\ (x.2<(x.1.2.1.length:Int)))/\
 ((x.2.toNat<x.1.2.1.length)/\
 ((x.2.toNat<x.1.2.1.length)/\
 (zx (x.1.2.2.1,x.1.2.2.2,(x.1.2.1.getD x.2.toNat ((0,0,0),(0,0,0),0,0,0)))))))
def aea (x:M4):Tr Bool true:=
 (.mS x.2 x.1.2.1
 (.fn Ma (x.1.2.2.1,x.1.2.2.2,(gT x.1.2.1 x.2 Lm)) fun y=>
 (.ret y.1)))
abbrev D2:bY:=⟨(.pair (.agg (Ty.prod (Ty.sl (Ty.prod (Ty.prod aM aM) (Ty.prod yi (Ty.prod yi (Ty.sl yi))))) (Ty.prod (Ty.sl dF) (Ty.prod aM aM)))) (.one yi)),(.one Ty.bool),wA,Jt⟩
theorem ZT:ai Tryz.prog 153 (ak D2):=ai.tr D2 aea (fn:=Tryz.f153) aA G4 mixed (by kernel_rfl) (ax.nil _ _) (fun x=>ay.nil) (fun x=>(by kernel_rfl)) fun x Q=>(by kernel_rfl)
def P7:List (Nat×Ev.Spec):=(153,ak D2)::US
theorem vB:ah Tryz.prog P7:=ah.add (fn:=Tryz.f153) (by kernel_rfl) ZT G4
def JF (x:lV):aK:=⟨[],⟨di 19 0 [(0,.v (.one (.full 0))),(1,.v (.one (.mv 153 true [.full 1,.full 2,.ext,.ext,.ext,.ext,.ext,.ext]))),(7,.v (.one (.i .i64))),(8,.v (.one (.i .i64)))],[.row yi 0,.row (Ty.prod (Ty.prod aM aM) (Ty.prod yi (Ty.prod yi (Ty.sl yi)))) 0,.row dF 0],0,none,[],[0,1,2,3,4,5,6,8,9,10],[7],[.i],[.v (.int .i64 x.2.2.2.1.1),.v (.int .i64 x.2.2.2.1.2.1),.v (.int .i64 x.2.2.2.1.2.2),.v (.int .i64 x.2.2.2.2.1),.v (.int .i64 x.2.2.2.2.2.1),.v (.int .i64 x.2.2.2.2.2.2),.i (x.1.length:Int),.l yi x.1,.l (Ty.prod (Ty.prod aM aM) (Ty.prod yi (Ty.prod yi (Ty.sl yi)))) x.2.1,.l dF x.2.2.1]⟩,[⟨.ret,.ret,⟨di 19 0 [(4,.v (.one (.i .i64)))],[],0,none,[],[],[0],[.i],[]⟩⟩,⟨(.exit 0),.normal,⟨di 19 0 [],[],0,none,[],[],[],[],[]⟩⟩]⟩
def iC (x:lV) (s:Int):Int⊕(Int⊕Unit):=
 (if (s<(x.1.length:Int)) then
 (aq (Jt (x.2,(x.1.getD s.toNat 0))) fun y=>
 (if (y=true) then
 (Sum.inr (Sum.inl s)) else
 (Sum.inl (av (s+1))))) else
 (Sum.inr (Sum.inr (()))))
def qt (x:lV) (s:Int):Prop:=
 ((s<(x.1.length:Int))->
 (((0<=s)/\ (s<(x.1.length:Int)))/\
 ((s.toNat<x.1.length)/\
 ((s.toNat<x.1.length)/\
 (wA (x.2,(x.1.getD s.toNat 0)))))))
def CI (x:lV) (s:Int):Tr (Int⊕(Int⊕Unit)) true:=
 (.i10 (s<(nL x.1))
 (.mS s x.1
 (.fn D2 (x.2,(gI x.1 s)) fun y=>
 (.qH y
 (.ret (.inr (Sum.inl s)))
 (.ret (.inl (w1 s))))))
 (.ret (.inr (Sum.inr (())))))
def RZ (x:lV):Int:=
 (aq (run (iC x) 0) fun r=>
 (Sum.elim (fun a=>
 a) (fun b=>
 (-1)) r))
def FU (x:lV):Prop:=
 (Term (iC x) (qt x) 0)
def aaf (x:lV):Tr Int true:=
 (aK.lp (JF x) (CI x) z0 fun r=>
 (.MK r (fun a=>
 (.ret a)) (fun b=>
 (.ret (-1)))))
abbrev zF:bY:=⟨(.pair (.one (Ty.sl yi)) (.mv 153 true akF)),(.one yi),FU,RZ⟩
theorem Ww:ai Tryz.prog 173 (ak zF):=ai.tr zF aaf (fn:=Tryz.f173) aA vB mixed (by kernel_rfl) (ax.nil _ _) (fun x=>(ay.tr aA (ah.dX vB (ax.nil _ _)) mixed 0 (JF x) (CI x) ay.nil (by kernel_rfl) fun g s Q=>(by kernel_rfl))) (fun x=>(by kernel_rfl)) fun x Q=>(by kernel_rfl)
def KP:List (Nat×Ev.Spec):=(173,ak zF)::P7
theorem AL:ah Tryz.prog KP:=ah.add (fn:=Tryz.f173) (by kernel_rfl) Ww vB
def qL (x:lV):Bool:=
 (aq (RZ x) fun y=>
 (decide (y>=0)))
def lK (x:lV):Prop:=
 (FU x)
def NT (x:lV):Tr Bool true:=
 (.fn zF x fun y=>
 (.ret (decide (y>=z0))))
abbrev pF:bY:=⟨(.pair (.one (Ty.sl yi)) (.mv 153 true akF)),(.one Ty.bool),lK,qL⟩
theorem LP:ai Tryz.prog 152 (ak pF):=ai.tr pF NT (fn:=Tryz.f152) aA AL mixed (by kernel_rfl) (ax.nil _ _) (fun x=>ay.nil) (fun x=>(by kernel_rfl)) fun x Q=>(by kernel_rfl)
def AA:List (Nat×Ev.Spec):=(152,ak pF)::KP
theorem mP:ah Tryz.prog AA:=ah.add (fn:=Tryz.f152) (by kernel_rfl) LP AL
def QO (x:kB):aK:=⟨[],⟨di 61 0 [(1,.v (.one (.ptr 0 0))),(4,.v (.one (.i .i64))),(5,.v (.one (.full 3)))],[.cells [.full 1,.full 2,.i .i64,.i .i64,.i .i64,.i .i64,.i .i64,.i .i64] 181,.row (Ty.prod (Ty.prod aM aM) (Ty.prod yi (Ty.prod yi (Ty.sl yi)))) 0,.row dF 0,.row yi 3],0,none,[],[1,2,3,4,5,6,7,8],[0,9],[.i,(.l yi)],[.i x.2.2.1.1,.i x.2.2.1.2.1,.i x.2.2.1.2.2,.i x.2.2.2.1,.i x.2.2.2.2.1,.i x.2.2.2.2.2,.l (Ty.prod (Ty.prod aM aM) (Ty.prod yi (Ty.prod yi (Ty.sl yi)))) x.1,.l dF x.2.1]⟩,[⟨.ret,.ret,⟨di 61 0 [(2,.v (.one (.b))),(3,.v (.one (.i .i64)))],[],0,none,[],[0],[1],[.i],[.b true]⟩⟩,⟨(.exit 0),.normal,⟨di 61 0 [(4,.v (.one (.i .i64)))],[],0,none,[],[],[0],[.i],[]⟩⟩]⟩
def cC (x:kB) (s:(Int×List Int)):(Int×List Int)⊕(Int⊕Int):=
 (if ((s.2.length:Int)>0) then
 (aq (qu (x.2.2.1,x.2.2.2,(x.1.getD (Int.toNat (s.2.getD (Int.toNat (av ((s.2.length:Int)- 1))) 0)) (((0,0,0),0,0,0),0,0,[])).1)) fun y=>
 (if ((!y.1)=true) then
 (Sum.inl ((av (s.1+1)),(List.take (Int.toNat (av ((s.2.length:Int)- 1))) s.2))) else
 (if (((x.1.getD (Int.toNat (s.2.getD (Int.toNat (av ((s.2.length:Int)- 1))) 0)) (((0,0,0),0,0,0),0,0,[])).2.1==0)=true) then
 (aq (qL ((x.1.getD (Int.toNat (s.2.getD (Int.toNat (av ((s.2.length:Int)- 1))) 0)) (((0,0,0),0,0,0),0,0,[])).2.2.2,x)) fun aB=>
 (if (aB=true) then
 (Sum.inr (Sum.inl (av (s.1+1)))) else
 (Sum.inl ((av (s.1+1)),(List.take (Int.toNat (av ((s.2.length:Int)- 1))) s.2))))) else
 (Sum.inl ((av (s.1+1)),((List.take (Int.toNat (av ((s.2.length:Int)- 1))) s.2)++ [(x.1.getD (Int.toNat (s.2.getD (Int.toNat (av ((s.2.length:Int)- 1))) 0)) (((0,0,0),0,0,0),0,0,[])).2.2.1,(x.1.getD (Int.toNat (s.2.getD (Int.toNat (av ((s.2.length:Int)- 1))) 0)) (((0,0,0),0,0,0),0,0,[])).2.1])))))) else
 (Sum.inr (Sum.inr (s.1))))
def fW (x:kB) (s:(Int×List Int)):Prop:=
 (((s.2.length:Int)>0)->
 (((0<=(av ((s.2.length:Int)- 1)))/\ ((av ((s.2.length:Int)- 1))<(s.2.length:Int)))/\
 (((Int.toNat (av ((s.2.length:Int)- 1)))<s.2.length)/\
 (((Int.toNat (av ((s.2.length:Int)- 1)))<s.2.length)/\
 (((0<=(s.2.getD (Int.toNat (av ((s.2.length:Int)- 1))) 0))/\ ((s.2.getD (Int.toNat (av ((s.2.length:Int)- 1))) 0)<(x.1.length:Int)))/\
 (((Int.toNat (s.2.getD (Int.toNat (av ((s.2.length:Int)- 1))) 0))<x.1.length)/\
 (((Int.toNat (s.2.getD (Int.toNat (av ((s.2.length:Int)- 1))) 0))<x.1.length)/\
 (((0<=(av ((s.2.length:Int)- 1)))/\ ((av ((s.2.length:Int)- 1))<=(s.2.length:Int)))/\
 ((lz (x.2.2.1,x.2.2.2,(x.1.getD (Int.toNat (s.2.getD (Int.toNat (av ((s.2.length:Int)- 1))) 0)) (((0,0,0),0,0,0),0,0,[])).1))/\
 aC (qu (x.2.2.1,x.2.2.2,(x.1.getD (Int.toNat (s.2.getD (Int.toNat (av ((s.2.length:Int)- 1))) 0)) (((0,0,0),0,0,0),0,0,[])).1)) fun y=>
 (¬((!y.1)=true)->
 (((((x.1.getD (Int.toNat (s.2.getD (Int.toNat (av ((s.2.length:Int)- 1))) 0)) (((0,0,0),0,0,0),0,0,[])).2.1==0)=true)->
 (lK ((x.1.getD (Int.toNat (s.2.getD (Int.toNat (av ((s.2.length:Int)- 1))) 0)) (((0,0,0),0,0,0),0,0,[])).2.2.2,x)))/\
 (¬(((x.1.getD (Int.toNat (s.2.getD (Int.toNat (av ((s.2.length:Int)- 1))) 0)) (((0,0,0),0,0,0),0,0,[])).2.1==0)=true)->
 (((List.length (List.take (Int.toNat (av ((s.2.length:Int)- 1))) s.2))+2)<1099511627776)))))))))))))
abbrev Pg (x:kB) (s:(Int×List Int)):=(gT x.1 (gI s.2 (wm (nL s.2))) ((bX,bX),z0,z0,[]))
def HY (x:kB) (s:(Int×List Int)):Tr ((Int×List Int)⊕(Int⊕Int)) true:=
 (.i10 ((nL s.2)>z0)
 (.mS (wm (nL s.2)) s.2
 (.mS (gI s.2 (wm (nL s.2))) x.1
 (.og ((decide (z0<=(wm (nL s.2))))&&(decide ((wm (nL s.2))<=(nL s.2)))) ((z0<=(wm (nL s.2)))/\ ((wm (nL s.2))<=(nL s.2))) (fun h=>(gV (decide_eq_true h.1) (decide_eq_true h.2)))
 (.fn zV (x.2.2.1,x.2.2.2,(Pg x s).1) fun y=>
 (.nM (!y.1)
 (.ret (.inl ((w1 s.1),(List.take (tN (wm (nL s.2))) s.2))))
 (.b11 ((Pg x s).2.1==z0)
 (.fn pF ((Pg x s).2.2.2,x) fun aB=>
 (.qH aB
 (.ret (.inr (Sum.inl (w1 s.1))))
 (.ret (.inl ((w1 s.1),(List.take (tN (wm (nL s.2))) s.2))))))
 (.od (((List.length (List.take (tN (wm (nL s.2))) s.2))+2)<1099511627776)
 (.ret (.inl ((w1 s.1),((List.take (tN (wm (nL s.2))) s.2)++ [(Pg x s).2.2.1,(Pg x s).2.1])))))))))))
 (.ret (.inr (Sum.inr (s.1)))))
def Vl (x:kB):(Bool×Int):=
 (aq (run (cC x) (0,[0])) fun r=>
 (Sum.elim (fun a=>
 (true,a)) (fun b=>
 (false,b)) r))
def Cm (x:kB):Prop:=
 (Term (cC x) (fW x) (0,[0]))
def afo (x:kB):Tr (Bool×Int) true:=
 (aK.lp (QO x) (HY x) (z0,[z0]) fun r=>
 (.MK r (fun a=>
 (.ret (true,a))) (fun b=>
 (.ret (false,b)))))
abbrev Er:bY:=⟨(.agg (Ty.prod (Ty.sl (Ty.prod (Ty.prod aM aM) (Ty.prod yi (Ty.prod yi (Ty.sl yi))))) (Ty.prod (Ty.sl dF) (Ty.prod aM aM)))),(.pair (.one Ty.bool) (.one yi)),Cm,Vl⟩
theorem acg:ai Tryz.prog 138 (ak Er):=ai.tr Er afo (fn:=Tryz.f138) aA mP mixed (by kernel_rfl) (ax.nil _ _) (fun x=>(ay.tr aA (ah.dX mP (ax.nil _ _)) mixed 0 (QO x) (HY x) ay.nil (by kernel_rfl) fun g s Q=>(by kernel_rfl))) (fun x=>(by kernel_rfl)) fun x Q=>(by kernel_rfl)
def Qn:List (Nat×Ev.Spec):=(138,ak Er)::AA
theorem Di:ah Tryz.prog Qn:=ah.add (fn:=Tryz.f138) (by kernel_rfl) acg mP
def VX (x:I9):Bool:=
 (aq (dR [x.1,x.2.1,x.2.2]) fun y=>
 (!y))
def Fj (x:I9):Prop:=
 (ct [x.1,x.2.1,x.2.2])
def agQ (x:I9):Tr Bool true:=
 (.fn dS [x.1,x.2.1,x.2.2] fun y=>
 (.ret (!y)))
abbrev LW:bY:=⟨(.agg dF),(.one Ty.bool),Fj,VX⟩
theorem adz:ai Tryz.prog 136 (ak LW):=ai.tr LW agQ (fn:=Tryz.f136) aA Di mixed (by kernel_rfl) (ax.nil _ _) (fun x=>ay.nil) (fun x=>(by kernel_rfl)) fun x Q=>(by kernel_rfl)
def UK:List (Nat×Ev.Spec):=(136,ak LW)::Qn
theorem yC:ah Tryz.prog UK:=ah.add (fn:=Tryz.f136) (by kernel_rfl) adz Di
def JA (x:(List I9×Bool)):aK:=⟨[],⟨di 19 0 [(0,.v (.one (.full 0))),(1,.v (.one (.iP 136 0 []))),(7,.v (.one (.i .i64))),(8,.v (.one (.i .i64)))],[.row dF 0],0,none,[],[0,2],[1],[.i],[.i (x.1.length:Int),.l dF x.1]⟩,[⟨.ret,.ret,⟨di 19 0 [(4,.v (.one (.i .i64)))],[],0,none,[],[],[0],[.i],[]⟩⟩,⟨(.exit 0),.normal,⟨di 19 0 [],[],0,none,[],[],[],[],[]⟩⟩]⟩
def iz (x:(List I9×Bool)) (s:Int):Int⊕(Int⊕Unit):=
 (if (s<(x.1.length:Int)) then
 (aq (VX (x.1.getD s.toNat ((0,0,0),(0,0,0),0,0,0))) fun y=>
 (if (y=true) then
 (Sum.inr (Sum.inl s)) else
 (Sum.inl (av (s+1))))) else
 (Sum.inr (Sum.inr (()))))
def qo (x:(List I9×Bool)) (s:Int):Prop:=
 ((s<(x.1.length:Int))->
 (((0<=s)/\ (s<(x.1.length:Int)))/\
 ((s.toNat<x.1.length)/\
 ((s.toNat<x.1.length)/\
 (Fj (x.1.getD s.toNat ((0,0,0),(0,0,0),0,0,0)))))))
def CD (x:(List I9×Bool)) (s:Int):Tr (Int⊕(Int⊕Unit)) true:=
 (.i10 (s<(nL x.1))
 (.mS s x.1
 (.fn LW (gT x.1 s Lm) fun y=>
 (.qH y
 (.ret (.inr (Sum.inl s)))
 (.ret (.inl (w1 s))))))
 (.ret (.inr (Sum.inr (())))))
def RW (x:(List I9×Bool)):Int:=
 (aq (run (iz x) 0) fun r=>
 (Sum.elim (fun a=>
 a) (fun b=>
 (-1)) r))
def FQ (x:(List I9×Bool)):Prop:=
 (Term (iz x) (qo x) 0)
def Z8 (x:(List I9×Bool)):Tr Int true:=
 (aK.lp (JA x) (CD x) z0 fun r=>
 (.MK r (fun a=>
 (.ret a)) (fun b=>
 (.ret (-1)))))
abbrev uL:bY:=⟨(.pair (.one (Ty.sl dF)) (.iP 136 .none)),(.one yi),FQ,RW⟩
theorem JB:ai Tryz.prog 59 (ak uL):=ai.tr uL Z8 (fn:=Tryz.f59) aA yC mixed (by kernel_rfl) (ax.nil _ _) (fun x=>(ay.tr aA (ah.dX yC (ax.nil _ _)) mixed 0 (JA x) (CD x) ay.nil (by kernel_rfl) fun g s Q=>(by kernel_rfl))) (fun x=>(by kernel_rfl)) fun x Q=>(by kernel_rfl)
def KK:List (Nat×Ev.Spec):=(59,ak uL)::UK
theorem AH:ah Tryz.prog KK:=ah.add (fn:=Tryz.f59) (by kernel_rfl) JB yC
def kW (x:(List I9×Bool)):Bool:=
 (aq (RW (x.1,false)) fun y=>
 (decide (y>=0)))
def qi (x:(List I9×Bool)):Prop:=
 (FQ (x.1,false))
def NO (x:(List I9×Bool)):Tr Bool true:=
 (.fn uL (x.1,false) fun y=>
 (.ret (decide (y>=z0))))
abbrev l5:bY:=⟨(.pair (.one (Ty.sl dF)) (.iP 136 .none)),(.one Ty.bool),qi,kW⟩
theorem ze:ai Tryz.prog 27 (ak l5):=ai.tr l5 NO (fn:=Tryz.f27) aA AH mixed (by kernel_rfl) (ax.nil _ _) (fun x=>ay.nil) (fun x=>(by kernel_rfl)) fun x Q=>(by kernel_rfl)
def Aw:List (Nat×Ev.Spec):=(27,ak l5)::KK
theorem tj:ah Tryz.prog Aw:=ah.add (fn:=Tryz.f27) (by kernel_rfl) ze AH
def Lh (x:kB):(Bool×I2):=
 (aq (isT (x.1,x.2.1)) fun y=>
 (if ((!y)=true) then
 (false,0,1) else
 (aq (dR [x.2.2.1,x.2.2.2]) fun aB=>
 (if ((!aB)=true) then
 (false,0,5) else
 (aq (kW (x.2.1,false)) fun y_2=>
 (if (y_2=true) then
 (false,0,5) else
 (if (((x.2.1.length:Int)==0)=true) then
 (false,1,0) else
 (aq (Vl x) fun bk=>
 (bk.1,bk.2,0)))))))))
def rB (x:kB):Prop:=
 ((D6 (x.1,x.2.1))/\
 aC (isT (x.1,x.2.1)) fun y=>
 (¬((!y)=true)->
 ((ct [x.2.2.1,x.2.2.2])/\
 aC (dR [x.2.2.1,x.2.2.2]) fun aB=>
 (¬((!aB)=true)->
 ((qi (x.2.1,false))/\
 aC (kW (x.2.1,false)) fun y_2=>
 (¬(y_2=true)->
 (¬(((x.2.1.length:Int)==0)=true)->
 (Cm x))))))))
def afp (x:kB):Tr (Bool×I2) true:=
 (.fn T8 (x.1,x.2.1) fun y=>
 (.nM (!y)
 (.ret (false,z0,z1))
 (.fn dS [x.2.2.1,x.2.2.2] fun aB=>
 (.nM (!aB)
 (.ret (false,z0,5))
 (.fn l5 (x.2.1,false) fun y_2=>
 (.nM y_2
 (.ret (false,z0,5))
 (.nM ((nL x.2.1)==z0)
 (.ret (false,z1,z0))
 (.fn Er x fun bk=>
 (.ret (bk.1,bk.2,z0))))))))))
abbrev M6:bY:=⟨(.pair (.one (Ty.sl (Ty.prod (Ty.prod aM aM) (Ty.prod yi (Ty.prod yi (Ty.sl yi)))))) (.pair (.one (Ty.sl dF)) (.pair (.agg aM) (.agg aM)))),(.pair (.one Ty.bool) (.pair (.one yi) (.one yi))),rB,Lh⟩
theorem ach:ai Tryz.prog 120 (ak M6):=ai.tr M6 afp (fn:=Tryz.f120) aA tj mixed (by kernel_rfl) (ax.nil _ _) (fun x=>ay.nil) (fun x=>(by kernel_rfl)) fun x Q=>(by kernel_rfl)
def Qo:List (Nat×Ev.Spec):=(120,ak M6)::Aw
theorem Qp:ah Tryz.prog Qo:=ah.add (fn:=Tryz.f120) (by kernel_rfl) ach tj
end Go.Proofs.YtngdehlpoomaiaaGreat
namespace Go.Proofs.YtngdehlpoomaiaaGreat
open Go Go.Ev Go.Proofs
abbrev P3:Type:=Int×(Int×Int)
abbrev T3:Type:=P3×(P3×P3)
abbrev z3:P3:=(0,0,0)
abbrev zT:T3:=(z3,z3,z3)
abbrev B3:Type:=P3×P3
theorem H9 (m:Int) (hm:0<=m) (hm2:m<4611686018427387904) (x:List Int) (hl:x.length<4611686018427387904):yP (m,x)/\ within (m,x)= !x.any (fun v=>decide (v< -m)||decide (v>m)):=by
 refine jV x hl _ _ _ (fun i hi=> ?_) (fun i v hv=> ?_) ?_
 ·unfold xQ
  intro h
  simp only [Int.toNat_natCast];dsimp only at h ⊢;omega
 ·have hlt:=c6 hv
  unfold kD
  rw [if_pos (by dsimp only;omega),Int.toNat_natCast]
  dsimp only
  rw [iS hv,aF (n:=0- m) (by omega) (by omega),show 0- m= -m by omega]
  by_cases h1:v< -m
  ·simp [h1]
  ·by_cases h2:v>m
   ·simp [h1,h2]
   ·simp [h1,h2]
 ·unfold kD
  rw [if_neg (by dsimp only;omega)]
abbrev fF (p:Int×(Int×Int)):Prop:=(-16384<=p.1/\ p.1<=16384)/\ (-16384<=p.2.1/\ p.2.1<=16384)/\ (-16384<=p.2.2/\ p.2.2<=16384)
theorem ahS {α:Type} {l:List α} {bad:α->Bool} {P:α->Prop} [DecidablePred P] (h: ∀x,bad x= !decide (P x)):(!l.any bad)=decide (∀x∈l,P x):=by
 rw [Bool.eq_iff_iff]
 simp [h]
theorem fR (x:List (Int×Int×Int)) (hl:x.length<4611686018427387904):ct x/\ dR x=decide (∀p∈x,fF p):=by
 have hn: ∀a b c:Int,within (16384,[a,b,c])=decide (fF (a,b,c)):=fun a b c=>by
  rw [(H9 16384 (by omega) (by omega) [a,b,c] (by simp)).2,Bool.eq_iff_iff];simp
 rw [<- ahS (bad:=fun p=> !decide (fF p)) (fun _=>rfl)]
 refine jV x hl _ _ _ (fun i hi=> ?_) (fun i v hv=> ?_) ?_
 ·unfold xy
  intro h
  simp only [Int.toNat_natCast]
  exact ⟨by omega,by omega,by omega,(H9 16384 (by omega) (by omega) _ (by simp)).1⟩
 ·have hlt:=c6 hv
  unfold kq
  rw [if_pos (by omega),Int.toNat_natCast,iS hv]
  unfold aq
  rw [hn]
 ·unfold kq
  rw [if_neg (by omega)]
theorem eH {S R:Type} [Inhabited R] {step:S->S⊕R} {pre:S->Prop} (n:Nat) (J:Nat->S->Prop) (Post:R->Prop)
  (h1: ∀i s,i<n->J i s->pre s/\ ((∃s',step s= .inl s'/\ J (i+1) s')\/ (∃r,step s= .inr r/\ Post r)))
  (h2: ∀s,J n s->pre s/\ ∃r,step s= .inr r/\ Post r) {s:S} (h0:J 0 s):TR step pre s Post:=by
 have key: ∀k i,i+k=n-> ∀s,J i s->TR step pre s Post:=by
  intro k
  induction k with
  |zero=>
   intro i e s hj
   have:i=n:=by omega
   subst this
   obtain ⟨hp,r,e1,hq⟩:=h2 s hj
   exact TR.stop hp e1 hq
  |succ k ih=>
   intro i e s hj
   obtain ⟨hp,⟨s',e1,hj'⟩|⟨r,e1,hq⟩⟩:=h1 i s (by omega) hj
   ·exact TR.go hp e1 (ih (i+1) (by omega) s' hj')
   ·exact TR.stop hp e1 hq
 exact key n 0 (by omega) s h0
theorem eA {α:Type} {l:List α} {i:Nat} (h:i<l.length) (d:α):l.take (i+1)=l.take i++ [l.getD i d]:=by
 rw [List.take_add_one,List.getD_eq_getElem?_getD,List.getElem?_eq_getElem h];rfl
theorem jl {α:Type} {l:List α} {i:Nat} (h:i<l.length) (d:α):l.getD i d∈l:=by
 rw [List.getD_eq_getElem?_getD,List.getElem?_eq_getElem h];exact List.getElem_mem h
theorem VD {i n:Nat} (h:i<n) (hn:n<4611686018427387904):av ((i:Int)+1)=((i+1:Nat):Int):=cnt h hn
theorem Mu (a b:Int):bt a b<=a/\ bt a b<=b/\ (bt a b=a\/ bt a b=b):=by unfold bt;split<;>omega
theorem Ms (a b:Int):a<=bf a b/\ b<=bf a b/\ (bf a b=a\/ bf a b=b):=by unfold bf;split<;>omega
def Nm (p q:P3):Prop:=p.1<=q.1/\ p.2.1<=q.2.1/\ p.2.2<=q.2.2
structure Nl (x:List P3) (b:B3):Prop where
 low: ∀p∈x,Nm b.1 p
 high: ∀p∈x,Nm p b.2
 l1: ∃p∈x,p.1=b.1.1
 l2: ∃p∈x,p.2.1=b.1.2.1
 l3: ∃p∈x,p.2.2=b.1.2.2
 h1: ∃p∈x,p.1=b.2.1
 h2: ∃p∈x,p.2.1=b.2.2.1
 h3: ∃p∈x,p.2.2=b.2.2.2
theorem Nl.join {x y:List P3} {a b c:B3} (ha:Nl x a) (hb:Nl y b) (hc:Nl [a.1,a.2,b.1,b.2] c):Nl (x++y) c:=by
 have la:=hc.low a.1 (by simp)
 have lb:=hc.low b.1 (by simp)
 have ua:=hc.high a.2 (by simp)
 have ub:=hc.high b.2 (by simp)
 have wa:Nm a.1 a.2:=by
  obtain ⟨p,hp,_⟩:=ha.l1
  have h1:=ha.low p hp
  have h2:=ha.high p hp
  exact ⟨Int.le_trans h1.1 h2.1,Int.le_trans h1.2.1 h2.2.1,Int.le_trans h1.2.2 h2.2.2⟩
 have wb:Nm b.1 b.2:=by
  obtain ⟨p,hp,_⟩:=hb.l1
  have h1:=hb.low p hp
  have h2:=hb.high p hp
  exact ⟨Int.le_trans h1.1 h2.1,Int.le_trans h1.2.1 h2.2.1,Int.le_trans h1.2.2 h2.2.2⟩
 obtain ⟨la1,la2,la3⟩:=la
 obtain ⟨lb1,lb2,lb3⟩:=lb
 obtain ⟨ua1,ua2,ua3⟩:=ua
 obtain ⟨ub1,ub2,ub3⟩:=ub
 obtain ⟨wa1,wa2,wa3⟩:=wa
 obtain ⟨wb1,wb2,wb3⟩:=wb
 refine ⟨fun p hp=> ?_,fun p hp=> ?_,?_,?_,?_,?_,?_,?_⟩
 ·rcases List.mem_append.1 hp with hp|hp
  ·obtain ⟨h1,h2,h3⟩:=ha.low p hp;exact ⟨by omega,by omega,by omega⟩
  ·obtain ⟨h1,h2,h3⟩:=hb.low p hp;exact ⟨by omega,by omega,by omega⟩
 ·rcases List.mem_append.1 hp with hp|hp
  ·obtain ⟨h1,h2,h3⟩:=ha.high p hp;exact ⟨by omega,by omega,by omega⟩
  ·obtain ⟨h1,h2,h3⟩:=hb.high p hp;exact ⟨by omega,by omega,by omega⟩
 ·obtain ⟨p,hp,e⟩:=hc.l1
  obtain ⟨q,hq,f⟩:=ha.l1
  obtain ⟨q',D5,f'⟩:=hb.l1
  simp only [List.mem_cons,List.not_mem_nil,or_false] at hp
  rcases hp with rfl|rfl|rfl|rfl
  ·exact ⟨q,by simp [hq],by omega⟩
  ·exact ⟨q,by simp [hq],by omega⟩
  ·exact ⟨q',by simp [D5],by omega⟩
  ·exact ⟨q',by simp [D5],by omega⟩
 ·obtain ⟨p,hp,e⟩:=hc.l2
  obtain ⟨q,hq,f⟩:=ha.l2
  obtain ⟨q',D5,f'⟩:=hb.l2
  simp only [List.mem_cons,List.not_mem_nil,or_false] at hp
  rcases hp with rfl|rfl|rfl|rfl
  ·exact ⟨q,by simp [hq],by omega⟩
  ·exact ⟨q,by simp [hq],by omega⟩
  ·exact ⟨q',by simp [D5],by omega⟩
  ·exact ⟨q',by simp [D5],by omega⟩
 ·obtain ⟨p,hp,e⟩:=hc.l3
  obtain ⟨q,hq,f⟩:=ha.l3
  obtain ⟨q',D5,f'⟩:=hb.l3
  simp only [List.mem_cons,List.not_mem_nil,or_false] at hp
  rcases hp with rfl|rfl|rfl|rfl
  ·exact ⟨q,by simp [hq],by omega⟩
  ·exact ⟨q,by simp [hq],by omega⟩
  ·exact ⟨q',by simp [D5],by omega⟩
  ·exact ⟨q',by simp [D5],by omega⟩
 ·obtain ⟨p,hp,e⟩:=hc.h1
  obtain ⟨q,hq,f⟩:=ha.h1
  obtain ⟨q',D5,f'⟩:=hb.h1
  simp only [List.mem_cons,List.not_mem_nil,or_false] at hp
  rcases hp with rfl|rfl|rfl|rfl
  ·exact ⟨q,by simp [hq],by omega⟩
  ·exact ⟨q,by simp [hq],by omega⟩
  ·exact ⟨q',by simp [D5],by omega⟩
  ·exact ⟨q',by simp [D5],by omega⟩
 ·obtain ⟨p,hp,e⟩:=hc.h2
  obtain ⟨q,hq,f⟩:=ha.h2
  obtain ⟨q',D5,f'⟩:=hb.h2
  simp only [List.mem_cons,List.not_mem_nil,or_false] at hp
  rcases hp with rfl|rfl|rfl|rfl
  ·exact ⟨q,by simp [hq],by omega⟩
  ·exact ⟨q,by simp [hq],by omega⟩
  ·exact ⟨q',by simp [D5],by omega⟩
  ·exact ⟨q',by simp [D5],by omega⟩
 ·obtain ⟨p,hp,e⟩:=hc.h3
  obtain ⟨q,hq,f⟩:=ha.h3
  obtain ⟨q',D5,f'⟩:=hb.h3
  simp only [List.mem_cons,List.not_mem_nil,or_false] at hp
  rcases hp with rfl|rfl|rfl|rfl
  ·exact ⟨q,by simp [hq],by omega⟩
  ·exact ⟨q,by simp [hq],by omega⟩
  ·exact ⟨q',by simp [D5],by omega⟩
  ·exact ⟨q',by simp [D5],by omega⟩
theorem of_inner (x:List P3) (a b c d e f g h i:Int) (j:Int):
  TR (oM x) (gN x) (a,b,c,d,e,f,g,h,i,j,0) fun r=>r=(bt a g,bt b h,bt c i,bf d g,bf e h,bf f i,j):=by
 refine TR.go (s':=(bt a g,b,c,bf d g,e,f,g,h,i,j,1)) ?_ ?_ (TR.go (s':=(bt a g,bt b h,c,bf d g,bf e h,f,g,h,i,j,2)) ?_ ?_ (TR.go (s':=(bt a g,bt b h,bt c i,bf d g,bf e h,bf f i,g,h,i,j,3)) ?_ ?_ (TR.stop (r:=(bt a g,bt b h,bt c i,bf d g,bf e h,bf f i,j)) ?_ ?_ rfl)))
 ·unfold gN;dsimp only;decide
 ·rfl
 ·unfold gN;dsimp only;decide
 ·rfl
 ·unfold gN;dsimp only;decide
 ·rfl
 ·unfold gN;dsimp only;decide
 ·rfl
theorem Nl.snoc {x:List P3} {a b c d e f:Int} (h:Nl x ((a,b,c),d,e,f)) (p:P3):Nl (x++ [p]) ((bt a p.1,bt b p.2.1,bt c p.2.2),bf d p.1,bf e p.2.1,bf f p.2.2):=by
 have m1:=Mu a p.1
 have m2:=Mu b p.2.1
 have m3:=Mu c p.2.2
 have m4:=Ms d p.1
 have m5:=Ms e p.2.1
 have m6:=Ms f p.2.2
 have ex: ∀ {Q:P3->Int} {u v w:Int},(∃q∈x,Q q=u)->Q p=v->(w=u\/ w=v)-> ∃q∈x++ [p],Q q=w:=fun {Q u v w} ⟨q,h1,h2⟩ hv hw=>by
  rcases hw with rfl|rfl
  ·exact ⟨q,by simp [h1],h2⟩
  ·exact ⟨p,by simp,hv⟩
 refine ⟨fun q hq=> ?_,fun q hq=> ?_,ex h.l1 rfl m1.2.2,ex (Q:=fun q=>q.2.1) h.l2 rfl m2.2.2,ex (Q:=fun q=>q.2.2) h.l3 rfl m3.2.2,ex h.h1 rfl m4.2.2,ex (Q:=fun q=>q.2.1) h.h2 rfl m5.2.2,ex (Q:=fun q=>q.2.2) h.h3 rfl m6.2.2⟩
 ·simp only [List.mem_append,List.mem_singleton] at hq
  rcases hq with hq|rfl
  ·obtain ⟨g1,g2,g3⟩:=h.low q hq
   dsimp only at g1 g2 g3
   exact ⟨by dsimp only;omega,by dsimp only;omega,by dsimp only;omega⟩
  ·exact ⟨by dsimp only;omega,by dsimp only;omega,by dsimp only;omega⟩
 ·simp only [List.mem_append,List.mem_singleton] at hq
  rcases hq with hq|rfl
  ·obtain ⟨g1,g2,g3⟩:=h.high q hq
   dsimp only at g1 g2 g3
   exact ⟨by dsimp only;omega,by dsimp only;omega,by dsimp only;omega⟩
  ·exact ⟨by dsimp only;omega,by dsimp only;omega,by dsimp only;omega⟩
theorem BV (a:Int):bt a a=a:=by unfold bt;split<;>rfl
theorem BU (a:Int):bf a a=a:=by unfold bf;split<;>rfl
theorem Nl.one (p:P3):Nl [p] (p,p):=by
 have:Nm p p:=⟨Int.le_refl _,Int.le_refl _,Int.le_refl _⟩
 exact ⟨fun q hq=>by simp only [List.mem_singleton] at hq;subst hq;exact this,fun q hq=>by simp only [List.mem_singleton] at hq;subst hq;exact this,⟨p,by simp,rfl⟩,⟨p,by simp,rfl⟩,⟨p,by simp,rfl⟩,⟨p,by simp,rfl⟩,⟨p,by simp,rfl⟩,⟨p,by simp,rfl⟩⟩
theorem aeO (x:List P3) (h0:0<x.length) (hl:x.length<4611686018427387904):
  TR (iJ x) (lT x) ((x.getD 0 z3).1,(x.getD 0 z3).2.1,(x.getD 0 z3).2.2,(x.getD 0 z3).1,(x.getD 0 z3).2.1,(x.getD 0 z3).2.2,0) fun r=>Nl x ((r.1,r.2.1,r.2.2.1),r.2.2.2):=by
 refine eH x.length (fun i s=> ∃b:B3,s=(b.1.1,b.1.2.1,b.1.2.2,b.2.1,b.2.2.1,b.2.2.2,(i:Int))/\ ((i=0/\ b=(x.getD 0 z3,x.getD 0 z3))\/ (0<i/\ Nl (x.take i) b))) _ (fun i s hi hj=> ?_) (fun s hj=> ?_) ⟨(x.getD 0 z3,x.getD 0 z3),rfl,.inl ⟨rfl,rfl⟩⟩
 ·obtain ⟨b,rfl,hb⟩:=hj
  obtain ⟨⟨a1,a2,a3⟩,a4,a5,a6⟩:=b
  have key:=of_inner x a1 a2 a3 a4 a5 a6 (x.getD i z3).1 (x.getD i z3).2.1 (x.getD i z3).2.2 (i:Int)
  refine ⟨?_,.inl ⟨_,?_,((bt a1 (x.getD i z3).1,bt a2 (x.getD i z3).2.1,bt a3 (x.getD i z3).2.2),bf a4 (x.getD i z3).1,bf a5 (x.getD i z3).2.1,bf a6 (x.getD i z3).2.2),rfl,.inr ⟨by omega,?_⟩⟩⟩
  ·unfold lT aC
   intro _
   dsimp only
   rw [Int.toNat_natCast]
   exact ⟨by omega,hi,hi,key.1⟩
  ·unfold iJ aq parts
   dsimp only
   rw [if_pos (by omega),Int.toNat_natCast,key.2,VD hi hl]
  ·rw [eA hi z3]
   rcases hb with ⟨rfl,e⟩|⟨_,hb⟩
   ·simp only [Prod.mk.injEq] at e
    obtain ⟨e1,e2⟩:=e
    simp only [List.take_zero,List.nil_append]
    generalize x.getD 0 z3=p at*
    subst e1
    have e2:=e2.symm
    simp only [Prod.mk.injEq] at e2
    obtain ⟨rfl,rfl,rfl⟩:=e2
    dsimp only
    rw [BV,BV,BV,BU,BU,BU]
    exact Nl.one _
   ·exact hb.snoc _
 ·obtain ⟨b,rfl,hb⟩:=hj
  refine ⟨?_,(b.1.1,b.1.2.1,b.1.2.2,b.2.1,b.2.2.1,b.2.2.2),?_,?_⟩
  ·unfold lT
   intro q
   dsimp only at q;omega
  ·unfold iJ
   dsimp only
   rw [if_neg (by omega)]
  ·rcases hb with ⟨h,_⟩|⟨_,hb⟩
   ·omega
   ·rw [List.take_length] at hb;exact hb
theorem GH (x:List P3) (hl:x.length<4611686018427387904):sO x/\ ((x= []/\ vl x=((z3,z3),1))\/ (x≠ []/\ (¬ ∀p∈x,fF p)/\ vl x=((z3,z3),5))\/ (x≠ []/\ (∀p∈x,fF p)/\ Nl x (vl x).1/\ (vl x).2=0)):=by
 obtain ⟨s1,s2⟩:=fR x hl
 unfold sO vl aC aq parts point
 dsimp only
 by_cases h0:x= []
 ·subst h0
  exact ⟨fun q=>absurd (by decide) q,.inl ⟨rfl,rfl⟩⟩
 ·have hpos:0<x.length:=List.length_pos_iff.2 h0
  have hb: ¬((((x.length:Nat):Int)==0)=true):=by simp;exact h0
  have key:=aeO x hpos hl
  rw [if_neg hb,s2]
  by_cases hs: ∀p∈x,fF p
  ·rw [decide_eq_true hs,if_neg (by decide)]
   exact ⟨fun _=>⟨s1,fun _=>⟨by omega,hpos,hpos,by omega,hpos,hpos,key.1⟩⟩,.inr (.inr ⟨h0,hs,key.2,rfl⟩)⟩
  ·rw [decide_eq_false hs,if_pos (by decide)]
   exact ⟨fun _=>⟨s1,fun q=>absurd (by decide) q⟩,.inr (.inl ⟨h0,hs,rfl⟩)⟩
theorem Oq (b:B3) (p:P3):hasB (b,p)=true↔Nm b.1 p/\ Nm p b.2:=by
 unfold hasB aq parts Nm
 dsimp only
 by_cases h1:p.1<b.1.1
 ·rw [if_pos h1];exact ⟨fun q=>(by cases q),fun q=>absurd q.1.1 (by omega)⟩
 rw [if_neg h1]
 by_cases h2:p.1>b.2.1
 ·rw [if_pos h2];exact ⟨fun q=>(by cases q),fun q=>absurd q.2.1 (by omega)⟩
 rw [if_neg h2]
 by_cases h3:p.2.1<b.1.2.1
 ·rw [if_pos h3];exact ⟨fun q=>(by cases q),fun q=>absurd q.1.2.1 (by omega)⟩
 rw [if_neg h3]
 by_cases h4:p.2.1>b.2.2.1
 ·rw [if_pos h4];exact ⟨fun q=>(by cases q),fun q=>absurd q.2.2.1 (by omega)⟩
 rw [if_neg h4]
 by_cases h5:p.2.2<b.1.2.2
 ·rw [if_pos h5];exact ⟨fun q=>(by cases q),fun q=>absurd q.1.2.2 (by omega)⟩
 rw [if_neg h5]
 by_cases h6:p.2.2>b.2.2.2
 ·rw [if_pos h6];exact ⟨fun q=>(by cases q),fun q=>absurd q.2.2.2 (by omega)⟩
 rw [if_neg h6]
 exact ⟨fun _=>⟨⟨by omega,by omega,by omega⟩,by omega,by omega,by omega⟩,fun _=>rfl⟩
theorem yq (b:B3):oL b/\ (qy b=true↔(fF b.1/\ fF b.2)/\ Nm b.1 b.2):=by
 obtain ⟨s1,s2⟩:=fR [b.1,b.2] (by simp)
 refine ⟨s1,?_⟩
 unfold qy aq
 rw [s2]
 dsimp only
 have hr:Nm b.1 b.1:=⟨Int.le_refl _,Int.le_refl _,Int.le_refl _⟩
 by_cases hs: ∀p∈ [b.1,b.2],fF p
 ·rw [decide_eq_true hs,if_pos rfl,Oq]
  exact ⟨fun q=>⟨⟨hs _ (by simp),hs _ (by simp)⟩,q.2⟩,fun q=>⟨hr,q.2⟩⟩
 ·rw [decide_eq_false hs,if_neg (by decide)]
  refine ⟨fun q=>(by cases q),fun q=>absurd (fun p hp=> ?_) hs⟩
  simp only [List.mem_cons,List.not_mem_nil,or_false] at hp
  rcases hp with rfl|rfl
  ·exact q.1.1
  ·exact q.1.2
theorem Nl.is {x:List P3} {b:B3} (h:Nl x b) (hs: ∀p∈x,fF p):(fF b.1/\ fF b.2)/\ Nm b.1 b.2:=by
 obtain ⟨p1,m1,e1⟩:=h.l1
 obtain ⟨p2,m2,e2⟩:=h.l2
 obtain ⟨p3,m3,e3⟩:=h.l3
 obtain ⟨p4,m4,e4⟩:=h.h1
 obtain ⟨p5,m5,e5⟩:=h.h2
 obtain ⟨p6,m6,e6⟩:=h.h3
 have s1:=(hs p1 m1).1
 have s2:=(hs p2 m2).2.1
 have s3:=(hs p3 m3).2.2
 have s4:=(hs p4 m4).1
 have s5:=(hs p5 m5).2.1
 have s6:=(hs p6 m6).2.2
 have a:=h.low p1 m1
 have c:=h.high p1 m1
 refine ⟨⟨?_,?_⟩,Int.le_trans a.1 c.1,Int.le_trans a.2.1 c.2.1,Int.le_trans a.2.2 c.2.2⟩
 ·rw [e1] at s1;rw [e2] at s2;rw [e3] at s3;exact ⟨s1,s2,s3⟩
 ·rw [e4] at s4;rw [e5] at s5;rw [e6] at s6;exact ⟨s4,s5,s6⟩
end Go.Proofs.YtngdehlpoomaiaaGreat
