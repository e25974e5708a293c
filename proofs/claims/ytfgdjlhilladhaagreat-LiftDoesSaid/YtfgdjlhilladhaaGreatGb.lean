/- Models of functions of layer 20. -/
import Derived.Test.YtfgdjlhilladhaaGreatGa
noncomputable section
set_option linter.unusedSectionVars false
set_option linter.unusedVariables false
set_option linter.unusedSimpArgs false
namespace Go.Proofs.YtfgdjlhilladhaaGreat
open Go Go.Ev Go.Proofs
abbrev ek:Type:=((List I3×List I2×List I3×List I9)×Int×Int×Int×List (List Int×List I6×I2)×List (Int×I3))
abbrev wz:Type:=(List I6×List Int×List Int×List (Int×Int×Int×I3)×Int)
abbrev Av:Type:=(List I6×List Int×List Int×List (Int×Int×Int×I3)×I3)
abbrev ov:Type:=(List Int×List I3×List I2×List I3×List I9)
abbrev SG:Type:=(Int×List I3×List I2×List I3×List I9)
abbrev SH:Type:=((List I3×List I2×List I3×List I9)×Int)
abbrev aev:Ty:=(.prod (.sl (.prod (.int .i64) (.prod (.int .i64) (.int .i64)))) (.prod (.sl (.prod (.int .i64) (.int .i64))) (.prod (.sl (.prod (.int .i64) (.prod (.int .i64) (.int .i64)))) (.sl (.prod (.prod (.int .i64) (.prod (.int .i64) (.int .i64))) (.prod (.prod (.int .i64) (.prod (.int .i64) (.int .i64))) (.prod (.int .i64) (.prod (.int .i64) (.int .i64)))))))))
def jO (x:I2):(I2×Int):=
 (if ((aG x.1 x.2)<0) then
 ((0,0),5) else
 (if ((aI x.1 x.2)>=256) then
 ((0,0),5) else
 (((aj ((aj (16*x.1))+8)),(aj ((aj (16*x.2))+8))),0)))
def TJ (_:I2):Prop:=True
def aaV (x:I2):Tr (I2×Int) false:=
 (.fm ((aG x.1 x.2)<z0)
 (.ret (jg,5))
 (.fm ((aI x.1 x.2)>=256)
 (.ret (jg,5))
 (.ret (((aj ((aj (16*x.1))+8)),(aj ((aj (16*x.2))+8))),z0))))
abbrev m7:bB:=⟨(.pair (.one yi) (.one yi)),(.pair (.agg aQ) (.one yi)),TJ,jO⟩
theorem WO:ah Tryz.prog 9 (ak m7):=ah.tr m7 aaV (fn:=Tryz.f9) ax Bw mixed (by kernel_rfl) (av.nil _ _) (fun x=>au.nil) (fun x=>(by kernel_rfl)) fun x Q=>(by kernel_rfl)
def L8:List (Nat×Ev.Spec):=(9,ak m7)::Mx
theorem Bd:ae Tryz.prog L8:=ae.add (fn:=Tryz.f9) (by kernel_rfl) WO Bw
def iz (x:(Int×Int×I6×I9)):(I3×Int):=
 (aq (jO (x.1,x.2.1)) fun y=>
 (if ((y.2 !=0)=true) then
 ((0,0,0),y.2) else
 (aq (zl (y.1,x.2.2.1)) fun aB=>
 (if ((aB.2.2 !=0)=true) then
 ((0,0,0),aB.2.2) else
 (aq (OO (aB.1,x.2.2)) fun y_2=>
 y_2)))))
def m8 (x:(Int×Int×I6×I9)):Prop:=
 (az (jO (x.1,x.2.1)) fun y=>
 (¬((y.2 !=0)=true)->
 ((xn (y.1,x.2.2.1))/\
 az (zl (y.1,x.2.2.1)) fun aB=>
 (¬((aB.2.2 !=0)=true)->
 (Gc (aB.1,x.2.2))))))
def aeo (x:(Int×Int×I6×I9)):Tr (I3×Int) true:=
 (.fn0 m7 (x.1,x.2.1) trivial fun y=>
 (.dy (y.2 !=z0)
 (.ret (ef,y.2))
 (.fn zm (y.1,x.2.2.1) fun aB=>
 (.dy (aB.2.2 !=z0)
 (.ret (ef,aB.2.2))
 (.fn Jm (aB.1,x.2.2) fun y_2=>
 (.ret y_2))))))
abbrev qE:bB:=⟨(.pair (.one yi) (.pair (.one yi) (.pair (.agg aZ) (.agg fk)))),(.pair (.agg aU) (.one yi)),m8,iz⟩
theorem aa4:ah Tryz.prog 11 (ak qE):=ah.tr qE aeo (fn:=Tryz.f11) ax Bd mixed (by kernel_rfl) (av.nil _ _) (fun x=>au.nil) (fun x=>(by kernel_rfl)) fun x Q=>(by kernel_rfl)
def PX:List (Nat×Ev.Spec):=(11,ak qE)::L8
theorem EN:ae Tryz.prog PX:=ae.add (fn:=Tryz.f11) (by kernel_rfl) aa4 Bd
def aa0 (x:SG):Bool:=
 (if (x.1<0) then
 true else
 (decide (x.1>=(x.2.2.2.2.length:Int))))
def ael (_:SG):Prop:=True
def ajH (x:SG):Tr Bool false:=
 (.fm (x.1<z0)
 (.ret true)
 (.ret (decide (x.1>=(nL x.2.2.2.2)))))
abbrev Rr:bB:=⟨(.pair (.one yi) (.ptr aev)),(.one Ty.bool),ael,aa0⟩
theorem ahl:ah Tryz.prog 74 (ak Rr):=ah.tr Rr ajH (fn:=Tryz.f74) ax EN mixed (by kernel_rfl) (av.nil _ _) (fun x=>au.nil) (fun x=>(by kernel_rfl)) fun x Q=>(by kernel_rfl)
def ZH:List (Nat×Ev.Spec):=(74,ak Rr)::PX
theorem Cn:ae Tryz.prog ZH:=ae.add (fn:=Tryz.f74) (by kernel_rfl) ahl EN
def Ou (x:ov):aF:=⟨[],⟨bq 19 0 [(0,.v (.one (.full 0))),(1,.v (.one (.ik 74 0 [.elem 1]))),(7,.v (.one (.i .i64))),(8,.v (.one (.i .i64)))],[.row yi 0,.row (Ty.prod (Ty.sl aU) (Ty.prod (Ty.sl aQ) (Ty.prod (Ty.sl aU) (Ty.sl fk)))) 0],0,none,[],[0,1,3,4],[2],[.i],[.n 0,.i (x.1.length:Int),.l yi x.1,.l (Ty.prod (Ty.sl aU) (Ty.prod (Ty.sl aQ) (Ty.prod (Ty.sl aU) (Ty.sl fk)))) [x.2]]⟩,[⟨.ret,.ret,⟨bq 19 0 [(4,.v (.one (.i .i64)))],[],0,none,[],[],[0],[.i],[]⟩⟩,⟨(.exit 0),.normal,⟨bq 19 0 [],[],0,none,[],[],[],[],[]⟩⟩]⟩
def jv (x:ov) (s:Int):Int⊕(Int⊕Unit):=
 (if (s<(x.1.length:Int)) then
 (aq (aa0 ((x.1.getD s.toNat 0),x.2)) fun y=>
 (if (y=true) then
 (Sum.inr (Sum.inl s)) else
 (Sum.inl (aj (s+1))))) else
 (Sum.inr (Sum.inr (()))))
def sU (x:ov) (s:Int):Prop:=
 ((s<(x.1.length:Int))->
 (((0<=s)/\ (s<(x.1.length:Int)))/\
 ((s.toNat<x.1.length)/\
 (s.toNat<x.1.length))))
def G8 (x:ov) (s:Int):Tr (Int⊕(Int⊕Unit)) true:=
 (.i10 (s<(nL x.1))
 (.gu s x.1
 (.fn0 Rr ((gI x.1 s),x.2) trivial fun y=>
 (.cQ y
 (.ret (.inr (Sum.inl s)))
 (.ret (.inl (w1 s))))))
 (.ret (.inr (Sum.inr (())))))
def WA (x:ov):Int:=
 (aq (run (jv x) 0) fun r=>
 (Sum.elim (fun a=>
 a) (fun b=>
 (-1)) r))
def Kr (x:ov):Prop:=
 (Term (jv x) (sU x) 0)
def ad1 (x:ov):Tr Int true:=
 (aF.lp (Ou x) (G8 x) z0 fun r=>
 (.ri r (fun a=>
 (.ret a)) (fun b=>
 (.ret (-1)))))
abbrev C7:bB:=⟨(.pair (.one (Ty.sl yi)) (.ik 74 (.ptr aev))),(.one yi),Kr,WA⟩
theorem aaL:ah Tryz.prog 116 (ak C7):=ah.tr C7 ad1 (fn:=Tryz.f116) ax Cn mixed (by kernel_rfl) (av.nil _ _) (fun x=>(au.tr ax (ae.bD Cn (av.nil _ _)) mixed 0 (Ou x) (G8 x) au.nil (by kernel_rfl) fun g s Q=>(by kernel_rfl))) (fun x=>(by kernel_rfl)) fun x Q=>(by kernel_rfl)
def PN:List (Nat×Ev.Spec):=(116,ak C7)::ZH
theorem EI:ae Tryz.prog PN:=ae.add (fn:=Tryz.f116) (by kernel_rfl) aaL Cn
def zn (x:ov):Bool:=
 (aq (WA x) fun y=>
 (decide (y>=0)))
def sN (x:ov):Prop:=
 (Kr x)
def S6 (x:ov):Tr Bool true:=
 (.fn C7 x fun y=>
 (.ret (decide (y>=z0))))
abbrev rE:bB:=⟨(.pair (.one (Ty.sl yi)) (.ik 74 (.ptr aev))),(.one Ty.bool),sN,zn⟩
theorem QU:ah Tryz.prog 75 (ak rE):=ah.tr rE S6 (fn:=Tryz.f75) ax EI mixed (by kernel_rfl) (av.nil _ _) (fun x=>au.nil) (fun x=>(by kernel_rfl)) fun x Q=>(by kernel_rfl)
def EA:List (Nat×Ev.Spec):=(75,ak rE)::PN
theorem pE:ae Tryz.prog EA:=ae.add (fn:=Tryz.f75) (by kernel_rfl) QU EI
def KJ (x:ek):aF:=⟨[],⟨bq 28 0 [(2,.v (.one (.ptr 0 0))),(6,.v (.one (.full 5))),(11,.v (.one (.full 6))),(12,.v (.one (.i .i64))),(13,.v (.one (.i .i64)))],[.cells [.full 1,.full 2,.full 3,.full 4] 32,.row aU 0,.row aQ 0,.row aU 0,.row fk 0,.row yi 2,.row (Ty.prod (Ty.sl yi) (Ty.prod (Ty.sl aZ) aQ)) 0],0,none,[],[0,2,3,4,5,7],[6,1],[(.l yi),.i],[.i (x.2.2.2.2.1.length:Int),.l aU x.1.1,.l aQ x.1.2.1,.l aU x.1.2.2.1,.l fk x.1.2.2.2,.l (Ty.prod (Ty.sl yi) (Ty.prod (Ty.sl aZ) aQ)) x.2.2.2.2.1]⟩,[⟨(.exit 0),.normal,⟨bq 28 0 [(2,.v (.one (.ptr 0 0))),(6,.v (.one (.full 5)))],[.cells [.full 1,.full 2,.full 3,.full 4] 32,.row aU 0,.row aQ 0,.row aU 0,.row fk 0,.row yi 2],0,none,[],[0,1,2,3],[4],[(.l yi)],[.l aU x.1.1,.l aQ x.1.2.1,.l aU x.1.2.2.1,.l fk x.1.2.2.2]⟩⟩]⟩
def fD (x:ek) (s:(List Int×Int)):(List Int×Int)⊕(List Int):=
 (if (s.2<(x.2.2.2.2.1.length:Int)) then
 (Sum.inl ((s.1++(x.2.2.2.2.1.getD s.2.toNat ([],[],0,0)).1),(aj (s.2+1)))) else
 (Sum.inr (s.1)))
def l6 (x:ek) (s:(List Int×Int)):Prop:=
 ((s.2<(x.2.2.2.2.1.length:Int))->
 (((0<=s.2)/\ (s.2<(x.2.2.2.2.1.length:Int)))/\
 ((s.2.toNat<x.2.2.2.2.1.length)/\
 ((s.2.toNat<x.2.2.2.2.1.length)/\
 ((s.1.length+(List.length (x.2.2.2.2.1.getD s.2.toNat ([],[],0,0)).1))<1099511627776)))))
def Dk (x:ek) (s:(List Int×Int)):Tr ((List Int×Int)⊕(List Int)) true:=
 (.i10 (s.2<(nL x.2.2.2.2.1))
 (.gu s.2 x.2.2.2.2.1
 (.od ((s.1.length+(List.length (gT x.2.2.2.2.1 s.2 ([],[],jg)).1))<1099511627776)
 (.ret (.inl ((s.1++(gT x.2.2.2.2.1 s.2 ([],[],jg)).1),(w1 s.2))))))
 (.ret (.inr (s.1))))
def ve (x:ek):(List Int×Bool):=
 (aq (run (fD x) ([],0)) fun r=>
 (aq (zn (r,x.1)) fun y=>
 (r,(!y))))
def rU (x:ek):Prop:=
 (Term (fD x) (l6 x) ([],0)/\
 az (run (fD x) ([],0)) fun r=>
 (sN (r,x.1)))
def aa3 (x:ek):Tr (List Int×Bool) true:=
 (aF.lp (KJ x) (Dk x) ([],z0) fun r=>
 (.fn rE (r,x.1) fun y=>
 (.ret (r,(!y)))))
abbrev zH:bB:=⟨(.pair (.agg (Ty.prod (Ty.sl aU) (Ty.prod (Ty.sl aQ) (Ty.prod (Ty.sl aU) (Ty.sl fk))))) (.agg (Ty.prod yi (Ty.prod yi (Ty.prod yi (Ty.prod (Ty.sl (Ty.prod (Ty.sl yi) (Ty.prod (Ty.sl aZ) aQ))) (Ty.sl (Ty.prod yi aU)))))))),(.pair (.one (Ty.sl yi)) (.one Ty.bool)),rU,ve⟩
theorem WS:ah Tryz.prog 34 (ak zH):=ah.tr zH aa3 (fn:=Tryz.f34) ax pE mixed (by kernel_rfl) (av.nil _ _) (fun x=>(au.tr ax (ae.bD pE (av.nil _ _)) mixed 0 (KJ x) (Dk x) au.nil (by kernel_rfl) fun g s Q=>(by kernel_rfl))) (fun x=>(by kernel_rfl)) fun x Q=>(by kernel_rfl)
def L9:List (Nat×Ev.Spec):=(34,ak zH)::EA
theorem tu:ae Tryz.prog L9:=ae.add (fn:=Tryz.f34) (by kernel_rfl) WS pE
def jh (x:SH):I9:=
 ((x.1.1.getD (Int.toNat (x.1.2.2.2.getD x.2.toNat ((0,0,0),(0,0,0),0,0,0)).1.1) (0,0,0)),(x.1.1.getD (Int.toNat (x.1.2.2.2.getD x.2.toNat ((0,0,0),(0,0,0),0,0,0)).2.1.1) (0,0,0)),(x.1.1.getD (Int.toNat (x.1.2.2.2.getD x.2.toNat ((0,0,0),(0,0,0),0,0,0)).2.2.1) (0,0,0)))
def rV (x:SH):Prop:=
 (((0<=x.2)/\ (x.2<(x.1.2.2.2.length:Int)))/\
 ((x.2.toNat<x.1.2.2.2.length)/\
 ((x.2.toNat<x.1.2.2.2.length)/\
 (((0<=(x.1.2.2.2.getD x.2.toNat ((0,0,0),(0,0,0),0,0,0)).1.1)/\ ((x.1.2.2.2.getD x.2.toNat ((0,0,0),(0,0,0),0,0,0)).1.1<(x.1.1.length:Int)))/\
 (((Int.toNat (x.1.2.2.2.getD x.2.toNat ((0,0,0),(0,0,0),0,0,0)).1.1)<x.1.1.length)/\
 (((Int.toNat (x.1.2.2.2.getD x.2.toNat ((0,0,0),(0,0,0),0,0,0)).1.1)<x.1.1.length)/\
 (((0<=(x.1.2.2.2.getD x.2.toNat ((0,0,0),(0,0,0),0,0,0)).2.1.1)/\ ((x.1.2.2.2.getD x.2.toNat ((0,0,0),(0,0,0),0,0,0)).2.1.1<(x.1.1.length:Int)))/\
 (((Int.toNat (x.1.2.2.2.getD x.2.toNat ((0,0,0),(0,0,0),0,0,0)).2.1.1)<x.1.1.length)/\
 (((Int.toNat (x.1.2.2.2.getD x.2.toNat ((0,0,0),(0,0,0),0,0,0)).2.1.1)<x.1.1.length)/\
 (((0<=(x.1.2.2.2.getD x.2.toNat ((0,0,0),(0,0,0),0,0,0)).2.2.1)/\ ((x.1.2.2.2.getD x.2.toNat ((0,0,0),(0,0,0),0,0,0)).2.2.1<(x.1.1.length:Int)))/\
 (((Int.toNat (x.1.2.2.2.getD x.2.toNat ((0,0,0),(0,0,0),0,0,0)).2.2.1)<x.1.1.length)/\
 ((Int.toNat (x.1.2.2.2.getD x.2.toNat ((0,0,0),(0,0,0),0,0,0)).2.2.1)<x.1.1.length))))))))))))
def aa5 (x:SH):Tr I9 true:=
 (.gu x.2 x.1.2.2.2
 (.gu (gT x.1.2.2.2 x.2 jq).1.1 x.1.1
 (.gu (gT x.1.2.2.2 x.2 jq).2.1.1 x.1.1
 (.gu (gT x.1.2.2.2 x.2 jq).2.2.1 x.1.1
 (.ret ((gT x.1.1 (gT x.1.2.2.2 x.2 jq).1.1 ef),(gT x.1.1 (gT x.1.2.2.2 x.2 jq).2.1.1 ef),(gT x.1.1 (gT x.1.2.2.2 x.2 jq).2.2.1 ef)))))))
abbrev zK:bB:=⟨(.pair (.agg (Ty.prod (Ty.sl aU) (Ty.prod (Ty.sl aQ) (Ty.prod (Ty.sl aU) (Ty.sl fk))))) (.one yi)),(.agg fk),rV,jh⟩
theorem WT:ah Tryz.prog 36 (ak zK):=ah.tr zK aa5 (fn:=Tryz.f36) ax tu mixed (by kernel_rfl) (av.nil _ _) (fun x=>(au.j7 ax (ae.bD tu (av.nil _ _)) mixed 0 4 au.nil (by kernel_rfl))) (fun x=>(by kernel_rfl)) fun x Q=>(by kernel_rfl)
def Ma:List (Nat×Ev.Spec):=(36,ak zK)::L9
theorem oo:ae Tryz.prog Ma:=ae.add (fn:=Tryz.f36) (by kernel_rfl) WT tu
def Hp (x:ek):aF:=⟨[],⟨bq 107 0 [(2,.v (.one (.ptr 0 0))),(3,.v (.one (.ptr 5 0))),(6,.v (.one (.full 8))),(9,.v (.one (.full 9))),(11,.v (.one (.full 10))),(12,.v (.one (.full 11))),(13,.v (.one (.i .i64))),(54,.v (.one (.i .i64))),(55,.v (.one (.i .i64))),(59,.v (.one (.i .i64))),(60,.v (.one (.i .i64)))],[.cells [.full 1,.full 2,.full 3,.full 4] 32,.row aU 0,.row aQ 0,.row aU 0,.row fk 0,.cells [.i .i64,.i .i64,.i .i64,.full 6,.full 7] 36,.row (Ty.prod (Ty.sl yi) (Ty.prod (Ty.sl aZ) aQ)) 0,.row (Ty.prod yi aU) 0,.row aZ 2,.row yi 2,.row yi 2,.row (Ty.prod yi (Ty.prod yi (Ty.prod yi aU))) 2],0,none,[],[1,3,5,6,7,8,9,10,11,12,13],[14,15,16,17,0,2,4],[(.l aZ),(.l yi),(.l yi),(.l (Ty.prod yi (Ty.prod yi (Ty.prod yi aU)))),.i,.i,.i],[.i x.2.2.1,.i x.2.1,.l aU x.1.1,.l aQ x.1.2.1,.l aU x.1.2.2.1,.l fk x.1.2.2.2,.i x.2.1,.i x.2.2.1,.i x.2.2.2.1,.l (Ty.prod (Ty.sl yi) (Ty.prod (Ty.sl aZ) aQ)) x.2.2.2.2.1,.l (Ty.prod yi aU) x.2.2.2.2.2]⟩,[⟨.ret,.ret,⟨bq 107 0 [(4,.v (.one (.raw))),(5,.v (.one (.i .i64)))],[],0,none,[],[0],[1],[.i],[.v (.slice none 0 0)]⟩⟩,⟨(.exit 2),.normal,⟨bq 107 0 [(2,.v (.one (.ptr 0 0))),(3,.v (.one (.ptr 5 0))),(6,.v (.one (.full 8))),(9,.v (.one (.full 9))),(11,.v (.one (.full 10))),(12,.v (.one (.full 11))),(54,.v (.one (.i .i64))),(55,.v (.one (.i .i64)))],[.cells [.full 1,.full 2,.full 3,.full 4] 32,.row aU 0,.row aQ 0,.row aU 0,.row fk 0,.cells [.i .i64,.i .i64,.i .i64,.full 6,.full 7] 36,.row (Ty.prod (Ty.sl yi) (Ty.prod (Ty.sl aZ) aQ)) 0,.row (Ty.prod yi aU) 0,.row aZ 2,.row yi 2,.row yi 2,.row (Ty.prod yi (Ty.prod yi (Ty.prod yi aU))) 2],0,none,[],[0,2,3,4,5,6,7,8,9,10],[11,12,13,14,1],[(.l aZ),(.l yi),(.l yi),(.l (Ty.prod yi (Ty.prod yi (Ty.prod yi aU)))),.i],[.i x.2.2.1,.l aU x.1.1,.l aQ x.1.2.1,.l aU x.1.2.2.1,.l fk x.1.2.2.2,.i x.2.1,.i x.2.2.1,.i x.2.2.2.1,.l (Ty.prod (Ty.sl yi) (Ty.prod (Ty.sl aZ) aQ)) x.2.2.2.2.1,.l (Ty.prod yi aU) x.2.2.2.2.2]⟩⟩]⟩
def eR (x:ek) (s:Av):Av⊕(Int⊕wz):=
 (if (s.2.2.2.2.2.2<x.2.1) then
 (if ((s.2.2.1.getD (Int.toNat (aj ((aj (s.2.2.2.2.1*x.2.1))+s.2.2.2.2.2.2))) 0)<0) then
 (Sum.inl (s.1,s.2.1,s.2.2.1,s.2.2.2.1,s.2.2.2.2.1,s.2.2.2.2.2.1,(aj (s.2.2.2.2.2.2+1)))) else
 (aq (jh (x.1,(s.2.1.getD (Int.toNat (s.2.2.1.getD (Int.toNat (aj ((aj (s.2.2.2.2.1*x.2.1))+s.2.2.2.2.2.2))) 0)) 0))) fun y=>
 (aq (iz (s.2.2.2.2.2.2,s.2.2.2.2.1,(s.1.getD (Int.toNat (s.2.2.1.getD (Int.toNat (aj ((aj (s.2.2.2.2.1*x.2.1))+s.2.2.2.2.2.2))) 0)) ((0,0),(0,0),0,0)),y)) fun aB=>
 (if ((aB.2 !=0)=true) then
 (Sum.inr (Sum.inl aB.2)) else
 (Sum.inl (s.1,s.2.1,s.2.2.1,(s.2.2.2.1++ [(s.2.2.2.2.2.2,s.2.2.2.2.1,(s.2.1.getD (Int.toNat (s.2.2.1.getD (Int.toNat (aj ((aj (s.2.2.2.2.1*x.2.1))+s.2.2.2.2.2.2))) 0)) 0),aB.1)]),s.2.2.2.2.1,s.2.2.2.2.2.1,(aj (s.2.2.2.2.2.2+1)))))))) else
 (Sum.inr (Sum.inr ((s.1,s.2.1,s.2.2.1,s.2.2.2.1,s.2.2.2.2.2.1)))))
def iK (x:ek) (s:Av):Prop:=
 ((s.2.2.2.2.2.2<x.2.1)->
 (((0<=(aj ((aj (s.2.2.2.2.1*x.2.1))+s.2.2.2.2.2.2)))/\ ((aj ((aj (s.2.2.2.2.1*x.2.1))+s.2.2.2.2.2.2))<(s.2.2.1.length:Int)))/\
 (((Int.toNat (aj ((aj (s.2.2.2.2.1*x.2.1))+s.2.2.2.2.2.2)))<s.2.2.1.length)/\
 (((Int.toNat (aj ((aj (s.2.2.2.2.1*x.2.1))+s.2.2.2.2.2.2)))<s.2.2.1.length)/\
 (¬((s.2.2.1.getD (Int.toNat (aj ((aj (s.2.2.2.2.1*x.2.1))+s.2.2.2.2.2.2))) 0)<0)->
 (((0<=(s.2.2.1.getD (Int.toNat (aj ((aj (s.2.2.2.2.1*x.2.1))+s.2.2.2.2.2.2))) 0))/\ ((s.2.2.1.getD (Int.toNat (aj ((aj (s.2.2.2.2.1*x.2.1))+s.2.2.2.2.2.2))) 0)<(s.1.length:Int)))/\
 (((Int.toNat (s.2.2.1.getD (Int.toNat (aj ((aj (s.2.2.2.2.1*x.2.1))+s.2.2.2.2.2.2))) 0))<s.1.length)/\
 (((Int.toNat (s.2.2.1.getD (Int.toNat (aj ((aj (s.2.2.2.2.1*x.2.1))+s.2.2.2.2.2.2))) 0))<s.1.length)/\
 (((0<=(s.2.2.1.getD (Int.toNat (aj ((aj (s.2.2.2.2.1*x.2.1))+s.2.2.2.2.2.2))) 0))/\ ((s.2.2.1.getD (Int.toNat (aj ((aj (s.2.2.2.2.1*x.2.1))+s.2.2.2.2.2.2))) 0)<(s.2.1.length:Int)))/\
 (((Int.toNat (s.2.2.1.getD (Int.toNat (aj ((aj (s.2.2.2.2.1*x.2.1))+s.2.2.2.2.2.2))) 0))<s.2.1.length)/\
 (((Int.toNat (s.2.2.1.getD (Int.toNat (aj ((aj (s.2.2.2.2.1*x.2.1))+s.2.2.2.2.2.2))) 0))<s.2.1.length)/\
 ((rV (x.1,(s.2.1.getD (Int.toNat (s.2.2.1.getD (Int.toNat (aj ((aj (s.2.2.2.2.1*x.2.1))+s.2.2.2.2.2.2))) 0)) 0)))/\
 az (jh (x.1,(s.2.1.getD (Int.toNat (s.2.2.1.getD (Int.toNat (aj ((aj (s.2.2.2.2.1*x.2.1))+s.2.2.2.2.2.2))) 0)) 0))) fun y=>
 ((m8 (s.2.2.2.2.2.2,s.2.2.2.2.1,(s.1.getD (Int.toNat (s.2.2.1.getD (Int.toNat (aj ((aj (s.2.2.2.2.1*x.2.1))+s.2.2.2.2.2.2))) 0)) ((0,0),(0,0),0,0)),y))/\
 az (iz (s.2.2.2.2.2.2,s.2.2.2.2.1,(s.1.getD (Int.toNat (s.2.2.1.getD (Int.toNat (aj ((aj (s.2.2.2.2.1*x.2.1))+s.2.2.2.2.2.2))) 0)) ((0,0),(0,0),0,0)),y)) fun aB=>
 (¬((aB.2 !=0)=true)->
 (((0<=(s.2.2.1.getD (Int.toNat (aj ((aj (s.2.2.2.2.1*x.2.1))+s.2.2.2.2.2.2))) 0))/\ ((s.2.2.1.getD (Int.toNat (aj ((aj (s.2.2.2.2.1*x.2.1))+s.2.2.2.2.2.2))) 0)<(s.2.1.length:Int)))/\
 (((Int.toNat (s.2.2.1.getD (Int.toNat (aj ((aj (s.2.2.2.2.1*x.2.1))+s.2.2.2.2.2.2))) 0))<s.2.1.length)/\
 (((Int.toNat (s.2.2.1.getD (Int.toNat (aj ((aj (s.2.2.2.2.1*x.2.1))+s.2.2.2.2.2.2))) 0))<s.2.1.length)/\
 ((s.2.2.2.1.length+1)<1099511627776))))))))))))))))))
abbrev KY (x:ek) (s:Av):=(gI s.2.2.1 (aj ((aj (s.2.2.2.2.1*x.2.1))+s.2.2.2.2.2.2)))
def AU (x:ek) (s:Av):Tr (Av⊕(Int⊕wz)) true:=
 (.i10 (s.2.2.2.2.2.2<x.2.1)
 (.gu (aj ((aj (s.2.2.2.2.1*x.2.1))+s.2.2.2.2.2.2)) s.2.2.1
 (.nK ((KY x s)<z0)
 (.ret (.inl (s.1,s.2.1,s.2.2.1,s.2.2.2.1,s.2.2.2.2.1,s.2.2.2.2.2.1,(w1 s.2.2.2.2.2.2))))
 (.gu (KY x s) s.1
 (.gu (KY x s) s.2.1
 (.fn zK (x.1,(gI s.2.1 (KY x s))) fun y=>
 (.fn qE (s.2.2.2.2.2.2,s.2.2.2.2.1,(gT s.1 (KY x s) aK),y) fun aB=>
 (.dy (aB.2 !=z0)
 (.ret (.inr (Sum.inl aB.2)))
 (.gu (KY x s) s.2.1
 (.od ((s.2.2.2.1.length+1)<1099511627776)
 (.ret (.inl (s.1,s.2.1,s.2.2.1,(s.2.2.2.1++ [(s.2.2.2.2.2.2,s.2.2.2.2.1,(gI s.2.1 (KY x s)),aB.1)]),s.2.2.2.2.1,s.2.2.2.2.2.1,(w1 s.2.2.2.2.2.2)))))))))))))
 (.ret (.inr (Sum.inr ((s.1,s.2.1,s.2.2.1,s.2.2.2.1,s.2.2.2.2.2.1))))))
def Ho (x:ek):aF:=⟨[],⟨bq 107 0 [(2,.v (.one (.ptr 0 0))),(3,.v (.one (.ptr 5 0))),(6,.v (.one (.full 8))),(9,.v (.one (.full 9))),(11,.v (.one (.full 10))),(12,.v (.one (.full 11))),(54,.v (.one (.i .i64))),(55,.v (.one (.i .i64)))],[.cells [.full 1,.full 2,.full 3,.full 4] 32,.row aU 0,.row aQ 0,.row aU 0,.row fk 0,.cells [.i .i64,.i .i64,.i .i64,.full 6,.full 7] 36,.row (Ty.prod (Ty.sl yi) (Ty.prod (Ty.sl aZ) aQ)) 0,.row (Ty.prod yi aU) 0,.row aZ 2,.row yi 2,.row yi 2,.row (Ty.prod yi (Ty.prod yi (Ty.prod yi aU))) 2],0,none,[],[0,2,3,4,5,6,7,8,9,10],[11,12,13,14,1],[(.l aZ),(.l yi),(.l yi),(.l (Ty.prod yi (Ty.prod yi (Ty.prod yi aU)))),.i],[.i x.2.2.1,.l aU x.1.1,.l aQ x.1.2.1,.l aU x.1.2.2.1,.l fk x.1.2.2.2,.i x.2.1,.i x.2.2.1,.i x.2.2.2.1,.l (Ty.prod (Ty.sl yi) (Ty.prod (Ty.sl aZ) aQ)) x.2.2.2.2.1,.l (Ty.prod yi aU) x.2.2.2.2.2]⟩,[⟨.ret,.ret,⟨bq 107 0 [(4,.v (.one (.raw))),(5,.v (.one (.i .i64)))],[],0,none,[],[0],[1],[.i],[.v (.slice none 0 0)]⟩⟩,⟨(.exit 0),.normal,⟨bq 107 0 [(12,.v (.one (.full 0)))],[.row (Ty.prod yi (Ty.prod yi (Ty.prod yi aU))) 2],0,none,[],[],[0],[(.l (Ty.prod yi (Ty.prod yi (Ty.prod yi aU))))],[]⟩⟩]⟩
def gO (x:ek) (s:wz):wz⊕(Int⊕(List (Int×Int×Int×I3))):=
 (if (s.2.2.2.2<x.2.2.1) then
 (aq (run (eR x) (s.1,s.2.1,s.2.2.1,s.2.2.2.1,s.2.2.2.2,s.2.2.2.2,0)) fun r=>
 (Sum.elim (fun a=>
 (Sum.inr (Sum.inl a))) (fun b=>
 (Sum.inl (b.1,b.2.1,b.2.2.1,b.2.2.2.1,(aj (b.2.2.2.2+1))))) r)) else
 (Sum.inr (Sum.inr (s.2.2.2.1))))
def kJ (x:ek) (s:wz):Prop:=
 ((s.2.2.2.2<x.2.2.1)->
 (Term (eR x) (iK x) (s.1,s.2.1,s.2.2.1,s.2.2.2.1,s.2.2.2.2,s.2.2.2.2,0)))
def AT (x:ek) (s:wz):Tr (wz⊕(Int⊕(List (Int×Int×Int×I3)))) true:=
 (.i10 (s.2.2.2.2<x.2.2.1)
 (aF.lp (Hp x) (AU x) (s.1,s.2.1,s.2.2.1,s.2.2.2.1,s.2.2.2.2,s.2.2.2.2,z0) fun r=>
 (.ri r (fun a=>
 (.ret (.inr (Sum.inl a)))) (fun b=>
 (.ret (.inl (b.1,b.2.1,b.2.2.1,b.2.2.2.1,(w1 b.2.2.2.2)))))))
 (.ret (.inr (Sum.inr (s.2.2.2.1)))))
def fK (x:ek):(List (Int×Int×Int×I3)×Int):=
 (aq (allM x.2) fun y=>
 (aq (ve x) fun aB=>
 (if ((y.2.2 !=0)=true) then
 ([],1) else
 (if ((!aB.2)=true) then
 ([],1) else
 (aq (GL x.1) fun y_2=>
 (if ((!y_2)=true) then
 ([],1) else
 (aq (oa (x.2.1,x.2.2.1,y.1)) fun bh=>
 (if ((bh.2 !=0)=true) then
 ([],bh.2) else
 (aq (run (gO x) (y.1,aB.1,bh.1,[],0)) fun r=>
 (Sum.elim (fun a=>
 ([],a)) (fun b=>
 (b,0)) r))))))))))
def fM (x:ek):Prop:=
 ((xg x.2)/\
 az (allM x.2) fun y=>
 ((rU x)/\
 az (ve x) fun aB=>
 (¬((y.2.2 !=0)=true)->
 (¬((!aB.2)=true)->
 ((Fs x.1)/\
 az (GL x.1) fun y_2=>
 (¬((!y_2)=true)->
 ((jJ (x.2.1,x.2.2.1,y.1))/\
 az (oa (x.2.1,x.2.2.1,y.1)) fun bh=>
 (¬((bh.2 !=0)=true)->
 (Term (gO x) (kJ x) (y.1,aB.1,bh.1,[],0))))))))))
def WV (x:ek):Tr (List (Int×Int×Int×I3)×Int) true:=
 (.fn JJ x.2 fun y=>
 (.fn zH x fun aB=>
 (.dy (y.2.2 !=z0)
 (.ret ([],z1))
 (.dy (!aB.2)
 (.ret ([],z1))
 (.fn SC x.1 fun y_2=>
 (.dy (!y_2)
 (.ret ([],z1))
 (.fn Gx (x.2.1,x.2.2.1,y.1) fun bh=>
 (.dy (bh.2 !=z0)
 (.ret ([],bh.2))
 (aF.lp (Ho x) (AT x) (y.1,aB.1,bh.1,[],z0) fun r=>
 (.ri r (fun a=>
 (.ret ([],a))) (fun b=>
 (.ret (b,z0)))))))))))))
abbrev qF:bB:=⟨(.pair (.agg (Ty.prod (Ty.sl aU) (Ty.prod (Ty.sl aQ) (Ty.prod (Ty.sl aU) (Ty.sl fk))))) (.agg (Ty.prod yi (Ty.prod yi (Ty.prod yi (Ty.prod (Ty.sl (Ty.prod (Ty.sl yi) (Ty.prod (Ty.sl aZ) aQ))) (Ty.sl (Ty.prod yi aU)))))))),(.pair (.one (Ty.sl (Ty.prod yi (Ty.prod yi (Ty.prod yi aU))))) (.one yi)),fM,fK⟩
theorem TP:ah Tryz.prog 13 (ak qF):=ah.tr qF WV (fn:=Tryz.f13) ax oo mixed (by kernel_rfl) (av.nil _ _) (fun x=>(au.tr ax (ae.bD oo (av.nil _ _)) mixed 0 (Ho x) (AT x) (au.tr ax (ae.bD oo (av.nil _ _)) mixed 2 (Hp x) (AU x) au.nil (by kernel_rfl) fun g s Q=>(by kernel_rfl)) (by kernel_rfl) fun g s Q=>(by kernel_rfl))) (fun x=>(by kernel_rfl)) fun x Q=>(by kernel_rfl)
def H9:List (Nat×Ev.Spec):=(13,ak qF)::Ma
theorem yH:ae Tryz.prog H9:=ae.add (fn:=Tryz.f13) (by kernel_rfl) TP oo
def rS (x:((Int×Int×Int×I3)×I2)):Bool:=
 ((x.1.1==x.2.1)&&((x.1.2.1==x.2.2)&&((x.1.2.2.1==x.1.2.2.1)&&(((x.1.2.2.2.1==x.1.2.2.2.1)&&((x.1.2.2.2.2.1==x.1.2.2.2.2.1)&&((x.1.2.2.2.2.2==x.1.2.2.2.2.2)&&true)))&&true))))
def aaW (_:((Int×Int×Int×I3)×I2)):Prop:=True
def ahj (x:((Int×Int×Int×I3)×I2)):Tr Bool false:=
 (.ret ((x.1.1==x.2.1)&&((x.1.2.1==x.2.2)&&((x.1.2.2.1==x.1.2.2.1)&&(((x.1.2.2.2.1==x.1.2.2.2.1)&&((x.1.2.2.2.2.1==x.1.2.2.2.2.1)&&((x.1.2.2.2.2.2==x.1.2.2.2.2.2)&&true)))&&true)))))
abbrev Ji:bB:=⟨(.pair (.agg (Ty.prod yi (Ty.prod yi (Ty.prod yi aU)))) (.pair (.ptr (.int .i64)) (.ptr (.int .i64)))),(.one Ty.bool),aaW,rS⟩
theorem aek:ah Tryz.prog 42 (ak Ji):=ah.tr Ji ahj (fn:=Tryz.f42) ax yH mixed (by kernel_rfl) (av.nil _ _) (fun x=>au.nil) (fun x=>(by kernel_rfl)) fun x Q=>(by kernel_rfl)
def Vj:List (Nat×Ev.Spec):=(42,ak Ji)::H9
theorem yG:ae Tryz.prog Vj:=ae.add (fn:=Tryz.f42) (by kernel_rfl) aek yH
def Ox (x:(List (Int×Int×Int×I3)×I2)):aF:=⟨[],⟨bq 19 0 [(0,.v (.one (.full 0))),(1,.v (.one (.ik 42 0 [.elem 1,.elem 2]))),(7,.v (.one (.i .i64))),(8,.v (.one (.i .i64)))],[.row (Ty.prod yi (Ty.prod yi (Ty.prod yi aU))) 0,.row yi 0,.row yi 0],0,none,[],[0,1,2,4,5,6],[3],[.i],[.n 0,.n 0,.i (x.1.length:Int),.l (Ty.prod yi (Ty.prod yi (Ty.prod yi aU))) x.1,.l yi [x.2.1],.l yi [x.2.2]]⟩,[⟨.ret,.ret,⟨bq 19 0 [(4,.v (.one (.i .i64)))],[],0,none,[],[],[0],[.i],[]⟩⟩,⟨(.exit 0),.normal,⟨bq 19 0 [],[],0,none,[],[],[],[],[]⟩⟩]⟩
def di (x:(List (Int×Int×Int×I3)×I2)) (s:Int):Int⊕(Int⊕Unit):=
 (if (s<(x.1.length:Int)) then
 (aq (rS ((x.1.getD s.toNat (0,0,0,0,0,0)),x.2)) fun y=>
 (if (y=true) then
 (Sum.inr (Sum.inl s)) else
 (Sum.inl (aj (s+1))))) else
 (Sum.inr (Sum.inr (()))))
def ko (x:(List (Int×Int×Int×I3)×I2)) (s:Int):Prop:=
 ((s<(x.1.length:Int))->
 (((0<=s)/\ (s<(x.1.length:Int)))/\
 ((s.toNat<x.1.length)/\
 (s.toNat<x.1.length))))
def He (x:(List (Int×Int×Int×I3)×I2)) (s:Int):Tr (Int⊕(Int⊕Unit)) true:=
 (.i10 (s<(nL x.1))
 (.gu s x.1
 (.fn0 Ji ((gT x.1 s (z0,z0,z0,ef)),x.2) trivial fun y=>
 (.cQ y
 (.ret (.inr (Sum.inl s)))
 (.ret (.inl (w1 s))))))
 (.ret (.inr (Sum.inr (())))))
def F6 (x:(List (Int×Int×Int×I3)×I2)):Int:=
 (aq (run (di x) 0) fun r=>
 (Sum.elim (fun a=>
 a) (fun b=>
 (-1)) r))
def Kt (x:(List (Int×Int×Int×I3)×I2)):Prop:=
 (Term (di x) (ko x) 0)
def ad4 (x:(List (Int×Int×Int×I3)×I2)):Tr Int true:=
 (aF.lp (Ox x) (He x) z0 fun r=>
 (.ri r (fun a=>
 (.ret a)) (fun b=>
 (.ret (-1)))))
abbrev C9:bB:=⟨(.pair (.one (Ty.sl (Ty.prod yi (Ty.prod yi (Ty.prod yi aU))))) (.ik 42 (.pair (.ptr (.int .i64)) (.ptr (.int .i64))))),(.one yi),Kt,F6⟩
theorem aaN:ah Tryz.prog 43 (ak C9):=ah.tr C9 ad4 (fn:=Tryz.f43) ax yG mixed (by kernel_rfl) (av.nil _ _) (fun x=>(au.tr ax (ae.bD yG (av.nil _ _)) mixed 0 (Ox x) (He x) au.nil (by kernel_rfl) fun g s Q=>(by kernel_rfl))) (fun x=>(by kernel_rfl)) fun x Q=>(by kernel_rfl)
def PT:List (Nat×Ev.Spec):=(43,ak C9)::Vj
theorem EK:ae Tryz.prog PT:=ae.add (fn:=Tryz.f43) (by kernel_rfl) aaN yG
def YZ (x:(List (Int×Int×Int×I3)×I2)):((Int×Int×Int×I3)×Bool):=
 (aq (F6 x) fun y=>
 (if (y>=0) then
 ((x.1.getD y.toNat (0,0,0,0,0,0)),true) else
 ((0,0,0,0,0,0),false)))
def Dh (x:(List (Int×Int×Int×I3)×I2)):Prop:=
 ((Kt x)/\
 az (F6 x) fun y=>
 ((y>=0)->
 (((0<=y)/\ (y<(x.1.length:Int)))/\
 ((y.toNat<x.1.length)/\
 (y.toNat<x.1.length)))))
def alT (x:(List (Int×Int×Int×I3)×I2)):Tr ((Int×Int×Int×I3)×Bool) true:=
 (.fn C9 x fun y=>
 (.i10 (y>=z0)
 (.gu y x.1
 (.ret ((gT x.1 y (z0,z0,z0,ef)),true)))
 (.ret ((z0,z0,z0,ef),false))))
abbrev TH:bB:=⟨(.pair (.one (Ty.sl (Ty.prod yi (Ty.prod yi (Ty.prod yi aU))))) (.pair (.one yi) (.one yi))),(.pair (.agg (Ty.prod yi (Ty.prod yi (Ty.prod yi aU)))) (.one Ty.bool)),Dh,YZ⟩
theorem ajG:ah Tryz.prog 15 (ak TH):=ah.tr TH alT (fn:=Tryz.f15) ax EK mixed (by kernel_rfl) (av.nil _ _) (fun x=>au.nil) (fun x=>(by kernel_rfl)) fun x Q=>(by kernel_rfl)
def afX:List (Nat×Ev.Spec):=(15,ak TH)::PT
theorem PW:ae Tryz.prog afX:=ae.add (fn:=Tryz.f15) (by kernel_rfl) ajG EK
def tQ (x:Bool):Bool:=
 (aq (iz (0,0,((0,0),(32,0),0,32),(0,0,0),(64,0,0),0,0,64)) fun y=>
 (aq (iz (1,1,((0,0),(32,0),0,32),(0,0,0),(64,0,0),0,0,64)) fun aB=>
 (aq (jO (1,2)) fun y_2=>
 (aq (jO (256,0)) fun bh=>
 (aq (fK (([],[],[],[]),0,0,0,[],[])) fun bj=>
 (aq (YZ ([(1,0,0,0,0,0),(1,0,2,0,0,0)],1,0)) fun gw=>
 (if ((y.2==0)=true) then
 (if (((y.1.1==16)&&((y.1.2.1==0)&&((y.1.2.2==16)&&true)))=true) then
 (if ((aB.2==y.2)=true) then
 (if (((aB.1.1==32)&&((aB.1.2.1==0)&&((aB.1.2.2==32)&&true)))=true) then
 (if ((y_2.2==y.2)=true) then
 (if (((y_2.1.1==24)&&((y_2.1.2==40)&&true))=true) then
 (if ((bh.2==5)=true) then
 (if ((bj.2==1)=true) then
 (if (gw.2=true) then
 (gw.1.2.2.1==0) else
 false) else
 false) else
 false) else
 false) else
 false) else
 false) else
 false) else
 false) else
 false)))))))
def sX (x:Bool):Prop:=
 ((m8 (0,0,((0,0),(32,0),0,32),(0,0,0),(64,0,0),0,0,64))/\
 az (iz (0,0,((0,0),(32,0),0,32),(0,0,0),(64,0,0),0,0,64)) fun y=>
 ((m8 (1,1,((0,0),(32,0),0,32),(0,0,0),(64,0,0),0,0,64))/\
 az (iz (1,1,((0,0),(32,0),0,32),(0,0,0),(64,0,0),0,0,64)) fun aB=>
 (az (jO (1,2)) fun y_2=>
 (az (jO (256,0)) fun bh=>
 ((fM (([],[],[],[]),0,0,0,[],[]))/\
 az (fK (([],[],[],[]),0,0,0,[],[])) fun bj=>
 (Dh ([(1,0,0,0,0,0),(1,0,2,0,0,0)],1,0)))))))
def TG (x:Bool):Tr Bool true:=
 (.fn qE (z0,z0,(jg,(32,z0),z0,32),ef,(64,jg),z0,z0,64) fun y=>
 (.fn qE (z1,z1,(jg,(32,z0),z0,32),ef,(64,jg),z0,z0,64) fun aB=>
 (.fn0 m7 (z1,2) trivial fun y_2=>
 (.fn0 m7 (256,z0) trivial fun bh=>
 (.fn qF (([],[],[],[]),z0,z0,z0,[],[]) fun bj=>
 (.fn TH ([(z1,z0,z0,ef),(z1,z0,2,ef)],z1,z0) fun gw=>
 (.cQ (y.2==z0)
 (.cQ ((y.1.1==16)&&((y.1.2.1==z0)&&((y.1.2.2==16)&&true)))
 (.cQ (aB.2==y.2)
 (.cQ ((aB.1.1==32)&&((aB.1.2.1==z0)&&((aB.1.2.2==32)&&true)))
 (.cQ (y_2.2==y.2)
 (.cQ ((y_2.1.1==24)&&((y_2.1.2==40)&&true))
 (.cQ (bh.2==5)
 (.cQ (bj.2==z1)
 (.cQ gw.2
 (.ret (gw.1.2.2.1==z0))
 (.ret false))
 (.ret false))
 (.ret false))
 (.ret false))
 (.ret false))
 (.ret false))
 (.ret false))
 (.ret false))
 (.ret false))))))))
abbrev rQ:bB:=⟨.none,(.one Ty.bool),sX,tQ⟩
theorem Ro:ah Tryz.prog 17 (ak rQ):=ah.tr rQ TG (fn:=Tryz.f17) ax PW mixed (by kernel_rfl) (av.nil _ _) (fun x=>au.nil) (fun x=>(by kernel_rfl)) fun x Q=>(by kernel_rfl)
def EM:List (Nat×Ev.Spec):=(17,ak rQ)::afX
theorem wP:ae Tryz.prog EM:=ae.add (fn:=Tryz.f17) (by kernel_rfl) Ro PW
end Go.Proofs.YtfgdjlhilladhaaGreat
