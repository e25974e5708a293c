/- Models of the references of layers 1, 17, 18. -/
import Derived.Test.YtbjfokijjefoeaaGreatHa
noncomputable section
set_option linter.unusedSectionVars false
set_option linter.unusedVariables false
set_option linter.unusedSimpArgs false
namespace Go.Proofs.YtbjfokijjefoeaaGreat
open Go Go.Ev Go.Proofs
def gP (x:(Bool×List Int)) (S:Nat->Prop) (s:Int):AS:=⟨(vb x.1:: .v (.one (.full 1))::D::D:: .v (.one (.ptr 2 0))::vi s::D::D::D::D::D::D::D::D::D::D::D::D::D::D::D::D::D::D::D::D::D::D::D:: []),[.cK S,.row yi x.2 0,.cells [.raw (.bool false),.raw (.slice none 0 0)] 159]⟩
def nI (x:(Bool×List Int)) (S:Nat->Prop) (r:Int) (K:Exit->AS->Prop):Prop:=K .normal ⟨(vb x.1:: .v (.one (.full 1))::D::D:: .v (.one (.ptr 2 0))::vi r::D::D::D::D::D::D::D::D::D::D::D::D::D::D::D::D::D::D::D::D::D::D::D:: []),[.cK S,.row yi x.2 0,.cells [.raw (.bool false),.raw (.slice none 0 0)] 159]⟩
def cF (x:(Bool×List Int)) (s:Int):Int⊕Int:=
 (if (s>0) then
 (if (((x.2.getD (Int.toNat (az (s- 1))) 0)==0)=true) then
 (Sum.inl (az (s- 1))) else
 (Sum.inr (s))) else
 (Sum.inr (s)))
def iG (x:(Bool×List Int)) (s:Int):Prop:=
 ((s>0)->
 (((0<=(az (s- 1)))/\ ((az (s- 1))<(x.2.length:Int)))/\
 (((Int.toNat (az (s- 1)))<x.2.length)/\
 ((Int.toNat (az (s- 1)))<x.2.length))))
def uo (x:(Bool×List Int)) (S:Nat->Prop):bR:=G6 (gP x S) (cF x) (iG x) (nI x S)
theorem ND (x:(Bool×List Int)) (S:Nat->Prop) (s:Int) (K:Exit->AS->Prop) (KN:AS->Prop):dx ⟨tt,pQ,iE,[],[],[]⟩ (cI (bq 0 (bV Tryz.f131))) (gP x S s) (KB 0 K KN)=
 (cB (decide (s>(0:Int)))
 (ob ((decide ((0:Int)<=(az (s- (1:Int)))))&&(decide ((az (s- (1:Int)))<(x.2.length:Int))))
 (ob (decide ((Int.toNat (az (s- (1:Int))))<x.2.length))
 (ob (decide ((Int.toNat (az (s- (1:Int))))<x.2.length))
 (cB ((x.2.getD (Int.toNat (az (s- (1:Int)))) (0:Int))==(0:Int))
 (KB 0 K KN .normal ⟨(vb x.1:: .v (.one (.full 1))::D::D:: .v (.one (.ptr 2 0))::vi (az (s- (1:Int)))::D::D::vi s::vb (decide (s>(0:Int)))::vb true:: .v (.one (.full 1))::vi s::vi (az (s- (1:Int))):: .v (.one (.bD 1 (Int.toNat (az (s- (1:Int)))) 0))::vi (x.2.getD (Int.toNat (az (s- (1:Int)))) (0:Int))::vb ((x.2.getD (Int.toNat (az (s- (1:Int)))) (0:Int))==(0:Int))::vb ((x.2.getD (Int.toNat (az (s- (1:Int)))) (0:Int))==(0:Int))::vi s::vi (az (s- (1:Int)))::D::D::D::D::D::D::D::D::D:: []),[.cK S,.row yi x.2 0,.cells [.raw (.bool false),.raw (.slice none 0 0)] 159]⟩)
 (KB 0 K KN (.exit 0) ⟨(vb x.1:: .v (.one (.full 1))::D::D:: .v (.one (.ptr 2 0))::vi s::D::D::vi s::vb (decide (s>(0:Int)))::vb true:: .v (.one (.full 1))::vi s::vi (az (s- (1:Int))):: .v (.one (.bD 1 (Int.toNat (az (s- (1:Int)))) 0))::vi (x.2.getD (Int.toNat (az (s- (1:Int)))) (0:Int))::vb ((x.2.getD (Int.toNat (az (s- (1:Int)))) (0:Int))==(0:Int))::vb ((x.2.getD (Int.toNat (az (s- (1:Int)))) (0:Int))==(0:Int))::D::D::D::D::D::D::D::D::D::D::D:: []),[.cK S,.row yi x.2 0,.cells [.raw (.bool false),.raw (.slice none 0 0)] 159]⟩)))))
 (KB 0 K KN (.exit 0) ⟨(vb x.1:: .v (.one (.full 1))::D::D:: .v (.one (.ptr 2 0))::vi s::D::D::vi s::vb (decide (s>(0:Int)))::vb false::aX::aX::aX::aX::aX::aX::vb false::D::D::D::D::D::D::D::D::D::D::D:: []),[.cK S,.row yi x.2 0,.cells [.raw (.bool false),.raw (.slice none 0 0)] 159]⟩)):=by kernel_rfl
theorem NC (x:(Bool×List Int)) (S:Nat->Prop): ∀st K,uo x S st K->Vc (dx ⟨tt,pQ,iE,[],[],[]⟩ (.loop (cI (bq 0 (bV Tryz.f131)))) st (mA 0 (lJ K))):=zy fun s K KN hp hq=> .eq (ND x S s K KN) (have hp:=Eq.mp (iG.eq_1 x s) hp;have hq:=Eq.mp (congrArg (oT (gP x S) (nI x S) K KN) (cF.eq_1 x s)) hq;
 (X1 (Q:=(oT (gP x S) (nI x S) K KN)) hq (fun c hq=>have hp:=(hp c);(sF (cX (decide_eq_true hp.1.1) (decide_eq_true hp.1.2)) (have hp:=hp.2;(sF (decide_eq_true hp.1) (have hp:=hp.2;(sF (decide_eq_true hp) (Mx (Q:=(oT (gP x S) (nI x S) K KN)) hq (fun c hq=>(Exists.intro (gP x S (az (s- (1:Int)))) (And.intro (l6 (π:= [.same 0,.same 1,.same 2]) (And.intro rfl (And.intro rfl (And.intro rfl (And.intro rfl trivial)))) (And.intro (aE rfl rfl) (And.intro (aE rfl rfl) (And.intro (aE rfl rfl) trivial))) rfl) hq))) (fun c hq=>(Exists.intro ⟨(vb x.1:: .v (.one (.full 1))::D::D:: .v (.one (.ptr 2 0))::vi s::D::D::D::D::D::D::D::D::D::D::D::D::D::D::D::D::D::D::D::D::D::D::D:: []),[.cK S,.row yi x.2 0,.cells [.raw (.bool false),.raw (.slice none 0 0)] 159]⟩ (And.intro (l6 (π:= [.same 0,.same 1,.same 2]) (And.intro rfl (And.intro rfl (And.intro rfl (And.intro rfl trivial)))) (And.intro (aE rfl rfl) (And.intro (aE rfl rfl) (And.intro (aE rfl rfl) trivial))) rfl) hq)))))))))) (fun c hq=>(Exists.intro ⟨(vb x.1:: .v (.one (.full 1))::D::D:: .v (.one (.ptr 2 0))::vi s::D::D::D::D::D::D::D::D::D::D::D::D::D::D::D::D::D::D::D::D::D::D::D:: []),[.cK S,.row yi x.2 0,.cells [.raw (.bool false),.raw (.slice none 0 0)] 159]⟩ (And.intro (l6 (π:= [.same 0,.same 1,.same 2]) (And.intro rfl (And.intro rfl (And.intro rfl (And.intro rfl trivial)))) (And.intro (aE rfl rfl) (And.intro (aE rfl rfl) (And.intro (aE rfl rfl) trivial))) rfl) hq)))))
def gO (x:(Bool×List Int)):(Bool×List Int):=
 (ai (run (cF x) (x.2.length:Int)) fun r=>
 (if (x.1=true) then
 ((decide (r>0)),(List.take r.toNat x.2)) else
 (false,(List.take r.toNat x.2))))
def cz (x:(Bool×List Int)):Prop:=
 (Term (cF x) (iG x) (x.2.length:Int)/\
 aA (run (cF x) (x.2.length:Int)) fun r=>
 (((x.1=true)->
 ((0<=r)/\ (r<=(x.2.length:Int))))/\
 (¬(x.1=true)->
 ((0<=r)/\ (r<=(x.2.length:Int))))))
theorem W3 (x:(Bool×List Int)) (S:Nat->Prop) (Q:(Bool×List Int)->Prop):ML ⟨tt,pQ,iE,[(0,uo x S)],[],[]⟩ Tryz.f131 (gB (.pair (.one Ty.bool) (.one (Ty.sl yi))) x) (gC (.pair (.one Ty.bool) (.one (Ty.sl yi))) x++ [.cK S]) (yK (.agg (Ty.prod Ty.bool (Ty.sl yi))) S Q)=
 (Exists fun s0:Int=>vn ⟨(vb x.1:: .v (.one (.full 0))::aX::aX:: .v (.one (.ptr 2 0))::vi (x.2.length:Int):: .v (.one (.full 0))::vi (x.2.length:Int)::aX::aX::aX::aX::aX::aX::aX::aX::aX::aX::aX::aX::aX::aX::aX::aX::aX::aX::aX::aX::aX:: []),[.row yi x.2 0,.cK S,.cells [.raw (.bool false),.raw (.slice none 0 0)] 159]⟩ (gP x S s0)/\ Term (cF x) (iG x) s0/\ ∀r:Int,r=run (cF x) s0->
 (cB x.1
 (ob ((decide ((0:Int)<=r))&&(decide (r<=(x.2.length:Int))))
 ((S=S)/\
 (Q ((decide (r>(0:Int))),(List.take r.toNat x.2)))))
 (ob ((decide ((0:Int)<=r))&&(decide (r<=(x.2.length:Int))))
 ((S=S)/\
 (Q (false,(List.take r.toNat x.2))))))):=by kernel_rfl
theorem W0 (x:(Bool×List Int)) (S:Nat->Prop) (Q:(Bool×List Int)->Prop) (hp:cz x) (hq:Q (gO x)):Vc (ML ⟨tt,pQ,iE,[(0,uo x S)],[],[]⟩ Tryz.f131 (gB (.pair (.one Ty.bool) (.one (Ty.sl yi))) x) (gC (.pair (.one Ty.bool) (.one (Ty.sl yi))) x++ [.cK S]) (yK (.agg (Ty.prod Ty.bool (Ty.sl yi))) S Q)):= .eq (W3 x S Q) (have hp:=Eq.mp (cz.eq_1 x) hp;have hq:=Eq.mp (congrArg Q (gO.eq_1 x)) hq;
 (Exists.intro (x.2.length:Int) (And.intro (l6 (π:= [.same 1,.same 0,.same 2]) (And.intro rfl (And.intro rfl (And.intro rfl (And.intro rfl trivial)))) (And.intro (aE rfl rfl) (And.intro (aE rfl rfl) (And.intro (aE rfl rfl) trivial))) rfl) (And.intro hp.1 (DY (Q:=Q) hp.2 hq fun r hp hq=>(Mx (Q:=Q) hq (fun c hq=>have hp:=(hp.1 c);(sF (cX (decide_eq_true hp.1) (decide_eq_true hp.2)) (And.intro rfl hq))) (fun c hq=>have hp:=(hp.2 c);(sF (cX (decide_eq_true hp.1) (decide_eq_true hp.2)) (And.intro rfl hq)))))))))
abbrev PU:cC:=⟨(.pair (.one Ty.bool) (.one (Ty.sl yi))),(.agg (Ty.prod Ty.bool (Ty.sl yi))),cz,gO⟩
theorem W2:ah Tryz.prog 131 (nt PU):=ah.fnR (fn:=Tryz.f131) ay uJ mixed (by kernel_rfl) (by kernel_rfl) (.pair (.one Ty.bool) (.one (Ty.sl yi))) (.agg (Ty.prod Ty.bool (Ty.sl yi))) cz gO fun x hp S=>⟨_,_,(av.nil _ _),(au.acS ay (ae.bS uJ (av.nil _ _)) mixed au.nil (by kernel_rfl) (by kernel_rfl) (NC x S)),W0 x S (fun y=>y=gO x) hp rfl⟩
def L5:List (Nat×Ev.Spec):=(131,nt PU)::pQ
theorem Cg:ae Tryz.prog L5:=ae.add (fn:=Tryz.f131) (by kernel_rfl) W2 uJ
def eJ (x:((Bool×List Int)×Int)):Int:=
 (if (x.2<(x.1.2.length:Int)) then
 (x.1.2.getD x.2.toNat 0) else
 0)
def dw (x:((Bool×List Int)×Int)):Prop:=
 ((x.2<(x.1.2.length:Int))->
 (((0<=x.2)/\ (x.2<(x.1.2.length:Int)))/\
 ((x.2.toNat<x.1.2.length)/\
 (x.2.toNat<x.1.2.length))))
def WT (x:((Bool×List Int)×Int)):Tr Int true:=
 (.i10 (x.2<(nL x.1.2))
 (.gK x.2 x.1.2
 (.ret (gI x.1.2 x.2)))
 (.ret z0))
abbrev fY:cC:=⟨(.pair (.agg (Ty.prod Ty.bool (Ty.sl yi))) (.one yi)),(.one yi),dw,eJ⟩
theorem SJ:ah Tryz.prog 140 (aj fY):=ah.tr fY WT (fn:=Tryz.f140) ay Cg mixed (by kernel_rfl) (av.nil _ _) (fun x=>au.nil) (fun x=>(by kernel_rfl)) fun x Q=>(by kernel_rfl)
def IW:List (Nat×Ev.Spec):=(140,aj fY)::L5
theorem rU:ae Tryz.prog IW:=ae.add (fn:=Tryz.f140) (by kernel_rfl) SJ Cg
def Li (x:((Bool×List Int)×Bool×List Int)):aB:=⟨[],⟨bB 32 0 [(2,.v (.one (.ptr 0 0))),(3,.v (.one (.ptr 2 0))),(5,.v (.one (.i .i64)))],[.cells [.b,.full 1] 159,.row yi 0,.cells [.b,.full 3] 159,.row yi 0],0,none,[],[1,2,3,4],[0],[.i],[.b x.1.1,.l yi x.1.2,.b x.2.1,.l yi x.2.2]⟩,[⟨.ret,.ret,⟨bB 32 0 [(4,.v (.one (.i .i64)))],[],0,none,[],[],[0],[.i],[]⟩⟩,⟨(.exit 0),.normal,⟨bB 32 0 [],[],0,none,[],[],[],[],[]⟩⟩]⟩
def ga (x:((Bool×List Int)×Bool×List Int)) (s:Int):Int⊕(Int⊕Unit):=
 (if (s>=0) then
 (ai (eJ (x.1,s)) fun y=>
 (ai (eJ (x.2,s)) fun aO=>
 (if (y<aO) then
 (Sum.inr (Sum.inl (-1))) else
 (ai (eJ (x.1,s)) fun y_2=>
 (ai (eJ (x.2,s)) fun bf=>
 (if (y_2>bf) then
 (Sum.inr (Sum.inl 1)) else
 (Sum.inl (az (s- 1))))))))) else
 (Sum.inr (Sum.inr (()))))
def rP (x:((Bool×List Int)×Bool×List Int)) (s:Int):Prop:=
 ((s>=0)->
 ((dw (x.1,s))/\
 aA (eJ (x.1,s)) fun y=>
 ((dw (x.2,s))/\
 aA (eJ (x.2,s)) fun aO=>
 (¬(y<aO)->
 ((dw (x.1,s))/\
 aA (eJ (x.1,s)) fun y_2=>
 (dw (x.2,s)))))))
def Ep (x:((Bool×List Int)×Bool×List Int)) (s:Int):Tr (Int⊕(Int⊕Unit)) true:=
 (.i10 (s>=z0)
 (.fn fY (x.1,s) fun y=>
 (.fn fY (x.2,s) fun aO=>
 (.zu (y<aO)
 (.ret (.inr (Sum.inl (-1))))
 (.fn fY (x.1,s) fun y_2=>
 (.fn fY (x.2,s) fun bf=>
 (.o7 (y_2>bf)
 (.ret (.inr (Sum.inl z1)))
 (.ret (.inl (wm s)))))))))
 (.ret (.inr (Sum.inr (())))))
def Dj (x:((Bool×List Int)×Bool×List Int)):Int:=
 (ai (run (ga x) (az ((bp (x.1.2.length:Int) (x.2.2.length:Int))- 1))) fun r=>
 (Sum.elim (fun a=>
 a) (fun b=>
 0) r))
def um (x:((Bool×List Int)×Bool×List Int)):Prop:=
 (Term (ga x) (rP x) (az ((bp (x.1.2.length:Int) (x.2.2.length:Int))- 1)))
def ZQ (x:((Bool×List Int)×Bool×List Int)):Tr Int true:=
 (aB.lp (Li x) (Ep x) (wm (bp (nL x.1.2) (nL x.2.2))) fun r=>
 (.xW r (fun a=>
 (.ret a)) (fun b=>
 (.ret z0))))
abbrev H7:cC:=⟨(.pair (.agg (Ty.prod Ty.bool (Ty.sl yi))) (.agg (Ty.prod Ty.bool (Ty.sl yi)))),(.one yi),um,Dj⟩
theorem WZ:ah Tryz.prog 133 (aj H7):=ah.tr H7 ZQ (fn:=Tryz.f133) ay rU mixed (by kernel_rfl) (av.nil _ _) (fun x=>(au.tr ay (ae.bS rU (av.nil _ _)) mixed 0 (Li x) (Ep x) au.nil (by kernel_rfl) fun g s Q=>(by kernel_rfl))) (fun x=>(by kernel_rfl)) fun x Q=>(by kernel_rfl)
def L4:List (Nat×Ev.Spec):=(133,aj H7)::IW
theorem uO:ae Tryz.prog L4:=ae.add (fn:=Tryz.f133) (by kernel_rfl) WZ rU
def Lg (x:((Bool×List Int)×Bool×List Int)):aB:=⟨[],⟨bB 38 0 [(2,.v (.one (.ptr 0 0))),(3,.v (.one (.ptr 2 0))),(5,.v (.one (.full 4))),(6,.v (.one (.i .i64))),(7,.v (.one (.i .i64)))],[.cells [.b,.full 1] 159,.row yi 0,.cells [.b,.full 3] 159,.row yi 0,.row yi 2],0,none,[],[2,3,4,5],[6,0,1],[(.l yi),.i,.i],[.b x.1.1,.l yi x.1.2,.b x.2.1,.l yi x.2.2]⟩,[⟨(.exit 0),.normal,⟨bB 38 0 [(5,.v (.one (.full 0)))],[.row yi 2],0,none,[],[],[0],[(.l yi)],[]⟩⟩]⟩
def lY (x:((Bool×List Int)×Bool×List Int)) (s:(List Int×I2)):(List Int×I2)⊕(List Int):=
 (if (s.2.2<(az ((bp (x.1.2.length:Int) (x.2.2.length:Int))+1))) then
 (ai (eJ (x.1,s.2.2)) fun y=>
 (ai (eJ (x.2,s.2.2)) fun aO=>
 (Sum.inl ((s.1++ [(Int.tmod (az ((az (y+aO))+s.2.1)) 10)]),(az (Int.tdiv (az ((az (y+aO))+s.2.1)) 10)),(az (s.2.2+1)))))) else
 (Sum.inr (s.1)))
def rN (x:((Bool×List Int)×Bool×List Int)) (s:(List Int×I2)):Prop:=
 ((s.2.2<(az ((bp (x.1.2.length:Int) (x.2.2.length:Int))+1)))->
 ((dw (x.1,s.2.2))/\
 aA (eJ (x.1,s.2.2)) fun y=>
 ((dw (x.2,s.2.2))/\
 aA (eJ (x.2,s.2.2)) fun aO=>
 ((s.1.length+1)<1099511627776))))
def En (x:((Bool×List Int)×Bool×List Int)) (s:(List Int×I2)):Tr ((List Int×I2)⊕(List Int)) true:=
 (.i10 (s.2.2<(w1 (bp (nL x.1.2) (nL x.2.2))))
 (.fn fY (x.1,s.2.2) fun y=>
 (.fn fY (x.2,s.2.2) fun aO=>
 (.od ((s.1.length+1)<1099511627776)
 (.ret (.inl ((s.1++ [(Int.tmod (az ((az (y+aO))+s.2.1)) 10)]),(az (Int.tdiv (az ((az (y+aO))+s.2.1)) 10)),(w1 s.2.2)))))))
 (.ret (.inr (s.1))))
def uj (x:((Bool×List Int)×Bool×List Int)):(List Int):=
 (ai (run (lY x) ([],0,0)) fun r=>
 r)
def uk (x:((Bool×List Int)×Bool×List Int)):Prop:=
 (Term (lY x) (rN x) ([],0,0))
def ZO (x:((Bool×List Int)×Bool×List Int)):Tr (List Int) true:=
 (aB.lp (Lg x) (En x) ([],iR) fun r=>
 (.ret r))
abbrev H6:cC:=⟨(.pair (.agg (Ty.prod Ty.bool (Ty.sl yi))) (.agg (Ty.prod Ty.bool (Ty.sl yi)))),(.one (Ty.sl yi)),uk,uj⟩
theorem WX:ah Tryz.prog 132 (aj H6):=ah.tr H6 ZO (fn:=Tryz.f132) ay uO mixed (by kernel_rfl) (av.nil _ _) (fun x=>(au.tr ay (ae.bS uO (av.nil _ _)) mixed 0 (Lg x) (En x) au.nil (by kernel_rfl) fun g s Q=>(by kernel_rfl))) (fun x=>(by kernel_rfl)) fun x Q=>(by kernel_rfl)
def L2:List (Nat×Ev.Spec):=(132,aj H6)::L4
theorem uN:ae Tryz.prog L2:=ae.add (fn:=Tryz.f132) (by kernel_rfl) WX uO
def HZ (x:((Bool×List Int)×Bool×List Int)):aB:=⟨[],⟨bB 34 0 [(2,.v (.one (.ptr 0 0))),(3,.v (.one (.ptr 2 0))),(5,.v (.one (.full 4))),(6,.v (.one (.i .i64))),(7,.v (.one (.i .i64)))],[.cells [.b,.full 1] 159,.row yi 0,.cells [.b,.full 3] 159,.row yi 0,.row yi 2],0,none,[],[2,3,4,5],[6,0,1],[(.l yi),.i,.i],[.b x.1.1,.l yi x.1.2,.b x.2.1,.l yi x.2.2]⟩,[⟨(.exit 0),.normal,⟨bB 34 0 [(5,.v (.one (.full 0)))],[.row yi 2],0,none,[],[],[0],[(.l yi)],[]⟩⟩]⟩
def ko (x:((Bool×List Int)×Bool×List Int)) (s:(List Int×I2)):(List Int×I2)⊕(List Int):=
 (if (s.2.2<(x.1.2.length:Int)) then
 (ai (eJ (x.1,s.2.2)) fun y=>
 (ai (eJ (x.2,s.2.2)) fun aO=>
 (if ((az ((az (y- aO))- s.2.1))<0) then
 (Sum.inl ((s.1++ [(az ((az ((az (y- aO))- s.2.1))+10))]),1,(az (s.2.2+1)))) else
 (Sum.inl ((s.1++ [(az ((az (y- aO))- s.2.1))]),0,(az (s.2.2+1))))))) else
 (Sum.inr (s.1)))
def qh (x:((Bool×List Int)×Bool×List Int)) (s:(List Int×I2)):Prop:=
 ((s.2.2<(x.1.2.length:Int))->
 ((dw (x.1,s.2.2))/\
 aA (eJ (x.1,s.2.2)) fun y=>
 ((dw (x.2,s.2.2))/\
 aA (eJ (x.2,s.2.2)) fun aO=>
 ((((az ((az (y- aO))- s.2.1))<0)->
 ((s.1.length+1)<1099511627776))/\
 (¬((az ((az (y- aO))- s.2.1))<0)->
 ((s.1.length+1)<1099511627776))))))
def BA (x:((Bool×List Int)×Bool×List Int)) (s:(List Int×I2)):Tr ((List Int×I2)⊕(List Int)) true:=
 (.i10 (s.2.2<(nL x.1.2))
 (.fn fY (x.1,s.2.2) fun y=>
 (.fn fY (x.2,s.2.2) fun aO=>
 (.i11 ((az ((az (y- aO))- s.2.1))<z0)
 (.od ((s.1.length+1)<1099511627776)
 (.ret (.inl ((s.1++ [(az ((az ((az (y- aO))- s.2.1))+10))]),z1,(w1 s.2.2)))))
 (.od ((s.1.length+1)<1099511627776)
 (.ret (.inl ((s.1++ [(az ((az (y- aO))- s.2.1))]),z0,(w1 s.2.2))))))))
 (.ret (.inr (s.1))))
def nH (x:((Bool×List Int)×Bool×List Int)):(List Int):=
 (ai (run (ko x) ([],0,0)) fun r=>
 r)
def kP (x:((Bool×List Int)×Bool×List Int)):Prop:=
 (Term (ko x) (qh x) ([],0,0))
def WV (x:((Bool×List Int)×Bool×List Int)):Tr (List Int) true:=
 (aB.lp (HZ x) (BA x) ([],iR) fun r=>
 (.ret r))
abbrev Dh:cC:=⟨(.pair (.agg (Ty.prod Ty.bool (Ty.sl yi))) (.agg (Ty.prod Ty.bool (Ty.sl yi)))),(.one (Ty.sl yi)),kP,nH⟩
theorem SK:ah Tryz.prog 134 (aj Dh):=ah.tr Dh WV (fn:=Tryz.f134) ay uN mixed (by kernel_rfl) (av.nil _ _) (fun x=>(au.tr ay (ae.bS uN (av.nil _ _)) mixed 0 (HZ x) (BA x) au.nil (by kernel_rfl) fun g s Q=>(by kernel_rfl))) (fun x=>(by kernel_rfl)) fun x Q=>(by kernel_rfl)
def uL:List (Nat×Ev.Spec):=(134,aj Dh)::L2
theorem yV:ae Tryz.prog uL:=ae.add (fn:=Tryz.f134) (by kernel_rfl) SK uN
def pB (x:(Bool×List Int)):(Bool×List Int):=
 (ai (gO ((!x.1),x.2)) fun y=>
 y)
def oo (x:(Bool×List Int)):Prop:=
 (cz ((!x.1),x.2))
theorem SQ (x:(Bool×List Int)) (S:Nat->Prop) (Q:(Bool×List Int)->Prop):ML ⟨tt,uL,iE,[],[],[]⟩ Tryz.f135 (gB (.agg (Ty.prod Ty.bool (Ty.sl yi))) x) (gC (.agg (Ty.prod Ty.bool (Ty.sl yi))) x++ [.cK S]) (yK (.agg (Ty.prod Ty.bool (Ty.sl yi))) S Q)=
 ((cz ((!x.1),x.2))/\ ∀y:(Bool×List Int),y=(gO ((!x.1),x.2))->
 ((S=S)/\
 (Q y))):=by kernel_rfl
theorem SO (x:(Bool×List Int)) (S:Nat->Prop) (Q:(Bool×List Int)->Prop) (hp:oo x) (hq:Q (pB x)):Vc (ML ⟨tt,uL,iE,[],[],[]⟩ Tryz.f135 (gB (.agg (Ty.prod Ty.bool (Ty.sl yi))) x) (gC (.agg (Ty.prod Ty.bool (Ty.sl yi))) x++ [.cK S]) (yK (.agg (Ty.prod Ty.bool (Ty.sl yi))) S Q)):= .eq (SQ x S Q) (have hp:=Eq.mp (oo.eq_1 x) hp;have hq:=Eq.mp (congrArg Q (pB.eq_1 x)) hq;
 (And.intro hp (G5 (Q:=Q) hq fun y hq=>(And.intro rfl hq))))
abbrev Di:cC:=⟨(.agg (Ty.prod Ty.bool (Ty.sl yi))),(.agg (Ty.prod Ty.bool (Ty.sl yi))),oo,pB⟩
theorem SP:ah Tryz.prog 135 (nt Di):=ah.fnR (fn:=Tryz.f135) ay yV mixed (by kernel_rfl) (by kernel_rfl) (.agg (Ty.prod Ty.bool (Ty.sl yi))) (.agg (Ty.prod Ty.bool (Ty.sl yi))) oo pB fun x hp S=>⟨_,_,(av.nil _ _),au.nil,SO x S (fun y=>y=pB x) hp rfl⟩
def uM:List (Nat×Ev.Spec):=(135,nt Di)::uL
theorem yX:ae Tryz.prog uM:=ae.add (fn:=Tryz.f135) (by kernel_rfl) SP yV
def qj (x:((Bool×List Int)×Bool×List Int)):(Bool×List Int):=
 (if ((x.1.1==x.2.1)=true) then
 (ai (uj x) fun y=>
 (ai (gO (x.1.1,y)) fun aO=>
 aO)) else
 (ai (Dj x) fun y=>
 (if (y>=0) then
 (ai (nH x) fun aO=>
 (ai (gO (x.1.1,aO)) fun y_2=>
 y_2)) else
 (ai (nH (x.2,x.1)) fun aO=>
 (ai (gO (x.2.1,aO)) fun y_2=>
 y_2)))))
def kQ (x:((Bool×List Int)×Bool×List Int)):Prop:=
 ((((x.1.1==x.2.1)=true)->
 ((uk x)/\
 aA (uj x) fun y=>
 (cz (x.1.1,y))))/\
 (¬((x.1.1==x.2.1)=true)->
 ((um x)/\
 aA (Dj x) fun y=>
 (((y>=0)->
 ((kP x)/\
 aA (nH x) fun aO=>
 (cz (x.1.1,aO))))/\
 (¬(y>=0)->
 ((kP (x.2,x.1))/\
 aA (nH (x.2,x.1)) fun aO=>
 (cz (x.2.1,aO))))))))
theorem ZT (x:((Bool×List Int)×Bool×List Int)) (S:Nat->Prop) (Q:(Bool×List Int)->Prop):ML ⟨tt,uM,iE,[],[],[]⟩ Tryz.f123 (gB (.pair (.agg (Ty.prod Ty.bool (Ty.sl yi))) (.agg (Ty.prod Ty.bool (Ty.sl yi)))) x) (gC (.pair (.agg (Ty.prod Ty.bool (Ty.sl yi))) (.agg (Ty.prod Ty.bool (Ty.sl yi)))) x++ [.cK S]) (yK (.agg (Ty.prod Ty.bool (Ty.sl yi))) S Q)=
 (cB (x.1.1==x.2.1)
 ((uk x)/\ ∀y:(List Int),y=(uj x)->
 ((cz (x.1.1,y))/\ ∀aO:(Bool×List Int),aO=(gO (x.1.1,y))->
 ((S=S)/\
 (Q aO))))
 ((um x)/\ ∀y:Int,y=(Dj x)->
 (cB (decide (y>=(0:Int)))
 ((kP x)/\ ∀aO:(List Int),aO=(nH x)->
 ((cz (x.1.1,aO))/\ ∀y_2:(Bool×List Int),y_2=(gO (x.1.1,aO))->
 ((S=S)/\
 (Q y_2))))
 ((kP (x.2,x.1))/\ ∀aO:(List Int),aO=(nH (x.2,x.1))->
 ((cz (x.2.1,aO))/\ ∀y_2:(Bool×List Int),y_2=(gO (x.2.1,aO))->
 ((S=S)/\
 (Q y_2))))))):=by kernel_rfl
theorem ZR (x:((Bool×List Int)×Bool×List Int)) (S:Nat->Prop) (Q:(Bool×List Int)->Prop) (hp:kQ x) (hq:Q (qj x)):Vc (ML ⟨tt,uM,iE,[],[],[]⟩ Tryz.f123 (gB (.pair (.agg (Ty.prod Ty.bool (Ty.sl yi))) (.agg (Ty.prod Ty.bool (Ty.sl yi)))) x) (gC (.pair (.agg (Ty.prod Ty.bool (Ty.sl yi))) (.agg (Ty.prod Ty.bool (Ty.sl yi)))) x++ [.cK S]) (yK (.agg (Ty.prod Ty.bool (Ty.sl yi))) S Q)):= .eq (ZT x S Q) (have hp:=Eq.mp (kQ.eq_1 x) hp;have hq:=Eq.mp (congrArg Q (qj.eq_1 x)) hq;
 (Mx (Q:=Q) hq (fun c hq=>have hp:=(hp.1 c);(And.intro hp.1 (DY (Q:=Q) hp.2 hq fun y hp hq=>(And.intro hp (G5 (Q:=Q) hq fun aO hq=>(And.intro rfl hq)))))) (fun c hq=>have hp:=(hp.2 c);(And.intro hp.1 (DY (Q:=Q) hp.2 hq fun y hp hq=>(X1 (Q:=Q) hq (fun c hq=>have hp:=(hp.1 c);(And.intro hp.1 (DY (Q:=Q) hp.2 hq fun aO hp hq=>(And.intro hp (G5 (Q:=Q) hq fun y_2 hq=>(And.intro rfl hq)))))) (fun c hq=>have hp:=(hp.2 c);(And.intro hp.1 (DY (Q:=Q) hp.2 hq fun aO hp hq=>(And.intro hp (G5 (Q:=Q) hq fun y_2 hq=>(And.intro rfl hq))))))))))))
abbrev FK:cC:=⟨(.pair (.agg (Ty.prod Ty.bool (Ty.sl yi))) (.agg (Ty.prod Ty.bool (Ty.sl yi)))),(.agg (Ty.prod Ty.bool (Ty.sl yi))),kQ,qj⟩
theorem ZS:ah Tryz.prog 123 (nt FK):=ah.fnR (fn:=Tryz.f123) ay yX mixed (by kernel_rfl) (by kernel_rfl) (.pair (.agg (Ty.prod Ty.bool (Ty.sl yi))) (.agg (Ty.prod Ty.bool (Ty.sl yi)))) (.agg (Ty.prod Ty.bool (Ty.sl yi))) kQ qj fun x hp S=>⟨_,_,(av.nil _ _),au.nil,ZR x S (fun y=>y=qj x) hp rfl⟩
def sS:List (Nat×Ev.Spec):=(123,nt FK)::uM
theorem wS:ae Tryz.prog sS:=ae.add (fn:=Tryz.f123) (by kernel_rfl) ZS yX
def dW (x:Int) (S:Nat->Prop) (s:(Int×List Int)):AS:=⟨(vi s.1::D:: .v (.one (.ptr 1 0)):: .v (.one (.full 2))::vb (decide (x<0))::D::D::D::D::D::D::D::D::D::D::D::D::D::D::D::D::D::D::D::D:: []),[.cK S,.cells [.raw (.bool false),.raw (.slice none 0 0)] 159,.row yi s.2 2]⟩
def lX (x:Int) (S:Nat->Prop) (r:(List Int)) (K:Exit->AS->Prop):Prop:=K .normal ⟨(D::D:: .v (.one (.ptr 1 0)):: .v (.one (.full 2))::vb (decide (x<0))::D::D::D::D::D::D::D::D::D::D::D::D::D::D::D::D::D::D::D::D:: []),[.cK S,.cells [.raw (.bool false),.raw (.slice none 0 0)] 159,.row yi r 2]⟩
def cw (x:Int) (s:(Int×List Int)):(Int×List Int)⊕(List Int):=
 (if ((s.1 !=0)=true) then
 (if ((Int.tmod s.1 10)<0) then
 (Sum.inl ((az (Int.tdiv s.1 10)),(s.2++ [(az (0- (Int.tmod s.1 10)))]))) else
 (Sum.inl ((az (Int.tdiv s.1 10)),(s.2++ [(Int.tmod s.1 10)])))) else
 (Sum.inr (s.2)))
def fZ (x:Int) (s:(Int×List Int)):Prop:=
 (((s.1 !=0)=true)->
 ((((Int.tmod s.1 10)<0)->
 ((s.2.length+1)<1099511627776))/\
 (¬((Int.tmod s.1 10)<0)->
 ((s.2.length+1)<1099511627776))))
def rM (x:Int) (S:Nat->Prop):bR:=G6 (dW x S) (cw x) (fZ x) (lX x S)
theorem JO (x:Int) (S:Nat->Prop) (s:(Int×List Int)) (K:Exit->AS->Prop) (KN:AS->Prop):dx ⟨tt,sS,iE,[],[],[]⟩ (cI (bq 0 (bV Tryz.f124))) (dW x S s) (KB 0 K KN)=
 (cB (s.1 !=(0:Int))
 (cB (decide ((Int.tmod s.1 (10:Int))<(0:Int)))
 (ob (decide ((s.2.length+1)<1099511627776))
 (KB 0 K KN .normal ⟨(vi (az (Int.tdiv s.1 (10:Int)))::D:: .v (.one (.ptr 1 0)):: .v (.one (.full 4))::vb (decide (x<(0:Int)))::vi (az ((0:Int)- (Int.tmod s.1 (10:Int))))::D::D::vi s.1::vb (s.1 !=(0:Int))::vi s.1::vi (Int.tmod s.1 (10:Int))::vi (Int.tmod s.1 (10:Int))::vb (decide ((Int.tmod s.1 (10:Int))<(0:Int)))::vi (Int.tmod s.1 (10:Int))::vi (az ((0:Int)- (Int.tmod s.1 (10:Int)))):: .v (.one (.full 2))::vi (az ((0:Int)- (Int.tmod s.1 (10:Int)))):: .v (.one (.sl 3 0 1 1)):: .v (.one (.full 4))::vi s.1::vi (az (Int.tdiv s.1 (10:Int)))::D::D::D:: []),[.cK S,.cells [.raw (.bool false),.raw (.slice none 0 0)] 159,.gone,.cells [ci (az ((0:Int)- (Int.tmod s.1 (10:Int))))] 3,.row yi (s.2++ [(az ((0:Int)- (Int.tmod s.1 (10:Int))))]) 2]⟩))
 (ob (decide ((s.2.length+1)<1099511627776))
 (KB 0 K KN .normal ⟨(vi (az (Int.tdiv s.1 (10:Int)))::D:: .v (.one (.ptr 1 0)):: .v (.one (.full 4))::vb (decide (x<(0:Int)))::vi (Int.tmod s.1 (10:Int))::D::D::vi s.1::vb (s.1 !=(0:Int))::vi s.1::vi (Int.tmod s.1 (10:Int))::vi (Int.tmod s.1 (10:Int))::vb (decide ((Int.tmod s.1 (10:Int))<(0:Int)))::D::D:: .v (.one (.full 2))::vi (Int.tmod s.1 (10:Int)):: .v (.one (.sl 3 0 1 1)):: .v (.one (.full 4))::vi s.1::vi (az (Int.tdiv s.1 (10:Int)))::D::D::D:: []),[.cK S,.cells [.raw (.bool false),.raw (.slice none 0 0)] 159,.gone,.cells [ci (Int.tmod s.1 (10:Int))] 3,.row yi (s.2++ [(Int.tmod s.1 (10:Int))]) 2]⟩)))
 (KB 0 K KN (.exit 0) ⟨(vi s.1::D:: .v (.one (.ptr 1 0)):: .v (.one (.full 2))::vb (decide (x<(0:Int)))::D::D::D::vi s.1::vb (s.1 !=(0:Int))::D::D::D::D::D::D::D::D::D::D::D::D::D::D::D:: []),[.cK S,.cells [.raw (.bool false),.raw (.slice none 0 0)] 159,.row yi s.2 2]⟩)):=by kernel_rfl
theorem JN (x:Int) (S:Nat->Prop): ∀st K,rM x S st K->Vc (dx ⟨tt,sS,iE,[],[],[]⟩ (.loop (cI (bq 0 (bV Tryz.f124)))) st (mA 0 (lJ K))):=zy fun s K KN hp hq=> .eq (JO x S s K KN) (have hp:=Eq.mp (fZ.eq_1 x s) hp;have hq:=Eq.mp (congrArg (oT (dW x S) (lX x S) K KN) (cw.eq_1 x s)) hq;
 (Mx (Q:=(oT (dW x S) (lX x S) K KN)) hq (fun c hq=>have hp:=(hp c);(X1 (Q:=(oT (dW x S) (lX x S) K KN)) hq (fun c hq=>have hp:=(hp.1 c);(sF (decide_eq_true hp) (Exists.intro (dW x S ((az (Int.tdiv s.1 (10:Int))),(s.2++ [(az ((0:Int)- (Int.tmod s.1 (10:Int))))]))) (And.intro (l6 (π:= [.same 0,.same 1,.same 4]) (And.intro rfl (And.intro rfl (And.intro rfl (And.intro rfl trivial)))) (And.intro (aE rfl rfl) (And.intro (aE rfl rfl) (And.intro (aE rfl rfl) trivial))) rfl) hq)))) (fun c hq=>have hp:=(hp.2 c);(sF (decide_eq_true hp) (Exists.intro (dW x S ((az (Int.tdiv s.1 (10:Int))),(s.2++ [(Int.tmod s.1 (10:Int))]))) (And.intro (l6 (π:= [.same 0,.same 1,.same 4]) (And.intro rfl (And.intro rfl (And.intro rfl (And.intro rfl trivial)))) (And.intro (aE rfl rfl) (And.intro (aE rfl rfl) (And.intro (aE rfl rfl) trivial))) rfl) hq)))))) (fun c hq=>(Exists.intro ⟨(D::D:: .v (.one (.ptr 1 0)):: .v (.one (.full 2))::vb (decide (x<(0:Int)))::D::D::D::D::D::D::D::D::D::D::D::D::D::D::D::D::D::D::D::D:: []),[.cK S,.cells [.raw (.bool false),.raw (.slice none 0 0)] 159,.row yi s.2 2]⟩ (And.intro (l6 (π:= [.same 0,.same 1,.same 2]) (And.intro rfl (And.intro rfl (And.intro rfl trivial))) (And.intro (aE rfl rfl) (And.intro (aE rfl rfl) (And.intro (aE rfl rfl) trivial))) rfl) hq)))))
def fc (x:Int):(Bool×List Int):=
 (ai (run (cw x) (x,[])) fun r=>
 (ai (gO ((decide (x<0)),r)) fun y=>
 y))
def fe (x:Int):Prop:=
 (Term (cw x) (fZ x) (x,[])/\
 aA (run (cw x) (x,[])) fun r=>
 (cz ((decide (x<0)),r)))
theorem SN (x:Int) (S:Nat->Prop) (Q:(Bool×List Int)->Prop):ML ⟨tt,sS,iE,[(0,rM x S)],[],[]⟩ Tryz.f124 (gB (.one yi) x) (gC (.one yi) x++ [.cK S]) (yK (.agg (Ty.prod Ty.bool (Ty.sl yi))) S Q)=
 (Exists fun s0:(Int×List Int)=>vn ⟨(vi x::aX:: .v (.one (.ptr 1 0)):: .v (.one (.raw (.slice none 0 0)))::vb (decide (x<(0:Int)))::aX::vi x::vb (decide (x<(0:Int)))::aX::aX::aX::aX::aX::aX::aX::aX::aX::aX::aX::aX::aX::aX::aX::aX::aX:: []),[.cK S,.cells [.raw (.bool false),.raw (.slice none 0 0)] 159]⟩ (dW x S s0)/\ Term (cw x) (fZ x) s0/\ ∀r:(List Int),r=run (cw x) s0->
 ((cz ((decide (x<(0:Int))),r))/\ ∀y:(Bool×List Int),y=(gO ((decide (x<(0:Int))),r))->
 ((S=S)/\
 (Q y)))):=by kernel_rfl
theorem SL (x:Int) (S:Nat->Prop) (Q:(Bool×List Int)->Prop) (hp:fe x) (hq:Q (fc x)):Vc (ML ⟨tt,sS,iE,[(0,rM x S)],[],[]⟩ Tryz.f124 (gB (.one yi) x) (gC (.one yi) x++ [.cK S]) (yK (.agg (Ty.prod Ty.bool (Ty.sl yi))) S Q)):= .eq (SN x S Q) (have hp:=Eq.mp (fe.eq_1 x) hp;have hq:=Eq.mp (congrArg Q (fc.eq_1 x)) hq;
 (Exists.intro (x,[]) (And.intro (l6 (π:= [.same 0,.same 1,.nil]) (And.intro rfl (And.intro rfl (And.intro rfl (And.intro rfl trivial)))) (And.intro (aE rfl rfl) (And.intro (aE rfl rfl) (And.intro ack trivial))) rfl) (And.intro hp.1 (DY (Q:=Q) hp.2 hq fun r hp hq=>(And.intro hp (G5 (Q:=Q) hq fun y hq=>(And.intro rfl hq))))))))
abbrev sP:cC:=⟨(.one yi),(.agg (Ty.prod Ty.bool (Ty.sl yi))),fe,fc⟩
theorem SM:ah Tryz.prog 124 (nt sP):=ah.fnR (fn:=Tryz.f124) ay wS mixed (by kernel_rfl) (by kernel_rfl) (.one yi) (.agg (Ty.prod Ty.bool (Ty.sl yi))) fe fc fun x hp S=>⟨_,_,(av.nil _ _),(au.acS ay (ae.bS wS (av.nil _ _)) mixed au.nil (by kernel_rfl) (by kernel_rfl) (JN x S)),SL x S (fun y=>y=fc x) hp rfl⟩
def IX:List (Nat×Ev.Spec):=(124,nt sP)::sS
theorem yW:ae Tryz.prog IX:=ae.add (fn:=Tryz.f124) (by kernel_rfl) SM wS
def NB (x:((Bool×List Int)×Bool×List Int)):Bool:=
 (ai (pB x.2) fun y=>
 (ai (qj (x.1,y)) fun aO=>
 aO.1))
def zO (x:((Bool×List Int)×Bool×List Int)):Prop:=
 ((oo x.2)/\
 aA (pB x.2) fun y=>
 (kQ (x.1,y)))
def ZM (x:((Bool×List Int)×Bool×List Int)):Tr Bool true:=
 (.fn Di x.2 fun y=>
 (.fn FK (x.1,y) fun aO=>
 (.ret aO.1)))
abbrev Bz:cC:=⟨(.pair (.agg (Ty.prod Ty.bool (Ty.sl yi))) (.agg (Ty.prod Ty.bool (Ty.sl yi)))),(.one Ty.bool),zO,NB⟩
theorem WU:ah Tryz.prog 125 (aj Bz):=ah.tr Bz ZM (fn:=Tryz.f125) ay yW mixed (by kernel_rfl) (av.nil _ _) (fun x=>au.nil) (fun x=>(by kernel_rfl)) fun x Q=>(by kernel_rfl)
def L1:List (Nat×Ev.Spec):=(125,aj Bz)::IX
theorem Ce:ae Tryz.prog L1:=ae.add (fn:=Tryz.f125) (by kernel_rfl) WU yW
def bt (x:Int):Bool:=
 (if (x>=1) then
 (decide (x<=256)) else
 false)
def JK (_:Int):Prop:=True
def PI (x:Int):Tr Bool false:=
 (.o7 (x>=z1)
 (.ret (decide (x<=256)))
 (.ret false))
abbrev cY:cC:=⟨(.one yi),(.one Ty.bool),JK,bt⟩
theorem Nw:ah Tryz.prog 54 (aj cY):=ah.tr cY PI (fn:=Tryz.f54) ay Ce mixed (by kernel_rfl) (av.nil _ _) (fun x=>au.nil) (fun x=>(by kernel_rfl)) fun x Q=>(by kernel_rfl)
def Cc:List (Nat×Ev.Spec):=(54,aj cY)::L1
theorem oL:ae Tryz.prog Cc:=ae.add (fn:=Tryz.f54) (by kernel_rfl) Nw Ce
def La (x:(List Int)):aB:=⟨[],⟨bB 25 0 [(0,.v (.one (.full 0))),(3,.v (.one (.i .i64)))],[.row yi 0],0,none,[],[1],[0],[.i],[.l yi x]⟩,[⟨.ret,.ret,⟨bB 25 0 [(2,.v (.one (.b)))],[],0,none,[],[0],[],[],[.b false]⟩⟩,⟨(.exit 0),.normal,⟨bB 25 0 [(0,.v (.one (.full 0)))],[.row yi 0],0,none,[],[0],[],[],[.l yi x]⟩⟩]⟩
def ji (x:(List Int)) (s:Int):Int⊕(Unit⊕Unit):=
 (if (s<(x.length:Int)) then
 (if ((x.getD s.toNat 0)<0) then
 (Sum.inr (Sum.inl ())) else
 (if ((x.getD s.toNat 0)>256) then
 (Sum.inr (Sum.inl ())) else
 (Sum.inl (az (s+1))))) else
 (Sum.inr (Sum.inr (()))))
def nD (x:(List Int)) (s:Int):Prop:=
 ((s<(x.length:Int))->
 (((0<=s)/\ (s<(x.length:Int)))/\
 ((s.toNat<x.length)/\
 ((s.toNat<x.length)/\
 (¬((x.getD s.toNat 0)<0)->
 (((0<=s)/\ (s<(x.length:Int)))/\
 ((s.toNat<x.length)/\
 (s.toNat<x.length))))))))
def Eb (x:(List Int)) (s:Int):Tr (Int⊕(Unit⊕Unit)) true:=
 (.i10 (s<(nL x))
 (.gK s x
 (.zu ((gI x s)<z0)
 (.ret (.inr (Sum.inl ())))
 (.gK s x
 (.o7 ((gI x s)>256)
 (.ret (.inr (Sum.inl ())))
 (.ret (.inl (w1 s)))))))
 (.ret (.inr (Sum.inr (())))))
def zN (x:(List Int)):Bool:=
 (ai (run (ji x) 0) fun r=>
 (Sum.elim (fun a=>
 false) (fun b=>
 (decide ((x.length:Int)<=256))) r))
def tZ (x:(List Int)):Prop:=
 (Term (ji x) (nD x) 0)
def ZH (x:(List Int)):Tr Bool true:=
 (aB.lp (La x) (Eb x) z0 fun r=>
 (.xW r (fun a=>
 (.ret false)) (fun b=>
 (.ret (decide ((nL x)<=256))))))
abbrev wA:cC:=⟨(.one (Ty.sl yi)),(.one Ty.bool),tZ,zN⟩
theorem WL:ah Tryz.prog 81 (aj wA):=ah.tr wA ZH (fn:=Tryz.f81) ay oL mixed (by kernel_rfl) (av.nil _ _) (fun x=>(au.tr ay (ae.bS oL (av.nil _ _)) mixed 0 (La x) (Eb x) au.nil (by kernel_rfl) fun g s Q=>(by kernel_rfl))) (fun x=>(by kernel_rfl)) fun x Q=>(by kernel_rfl)
def LY:List (Nat×Ev.Spec):=(81,aj wA)::Cc
theorem uH:ae Tryz.prog LY:=ae.add (fn:=Tryz.f81) (by kernel_rfl) WL oL
def Bj (x:(List Int×I2)):aB:=⟨[],⟨bB 24 0 [(0,.v (.one (.full 0))),(1,.v (.one (.i .i64))),(2,.v (.one (.i .i64))),(7,.v (.one (.i .i64))),(8,.v (.one (.i .i64)))],[.row yi 0],0,none,[],[0,1,4],[2,3],[.i,.i],[.i x.2.1,.i x.2.2,.l yi x.1]⟩,[⟨(.exit 0),.normal,⟨bB 24 0 [(7,.v (.one (.i .i64)))],[],0,none,[],[],[0],[.i],[]⟩⟩]⟩
def fa (x:(List Int×I2)) (s:I2):I2⊕Int:=
 (if (s.2<(az (x.2.1+x.2.2))) then
 (Sum.inl ((bp s.1 (x.1.getD s.2.toNat 0)),(az (s.2+1)))) else
 (Sum.inr (s.1)))
def jA (x:(List Int×I2)) (s:I2):Prop:=
 ((s.2<(az (x.2.1+x.2.2)))->
 (((0<=s.2)/\ (s.2<(x.1.length:Int)))/\
 ((s.2.toNat<x.1.length)/\
 (s.2.toNat<x.1.length))))
def wz (x:(List Int×I2)) (s:I2):Tr (I2⊕Int) true:=
 (.i10 (s.2<(az (x.2.1+x.2.2)))
 (.gK s.2 x.1
 (.ret (.inl ((bp s.1 (gI x.1 s.2)),(w1 s.2)))))
 (.ret (.inr (s.1))))
def Df (x:(List Int×I2)):Int:=
 (ai (run (fa x) (0,x.2.1)) fun r=>
 r)
def rK (x:(List Int×I2)):Prop:=
 (Term (fa x) (jA x) (0,x.2.1))
def Pw (x:(List Int×I2)):Tr Int true:=
 (aB.lp (Bj x) (wz x) (z0,x.2.1) fun r=>
 (.ret r))
abbrev qQ:cC:=⟨(.pair (.one (Ty.sl yi)) (.pair (.one yi) (.one yi))),(.one yi),rK,Df⟩
theorem Nt:ah Tryz.prog 82 (aj qQ):=ah.tr qQ Pw (fn:=Tryz.f82) ay uH mixed (by kernel_rfl) (av.nil _ _) (fun x=>(au.tr ay (ae.bS uH (av.nil _ _)) mixed 0 (Bj x) (wz x) au.nil (by kernel_rfl) fun g s Q=>(by kernel_rfl))) (fun x=>(by kernel_rfl)) fun x Q=>(by kernel_rfl)
def Ca:List (Nat×Ev.Spec):=(82,aj qQ)::LY
theorem oK:ae Tryz.prog Ca:=ae.add (fn:=Tryz.f82) (by kernel_rfl) Nt uH
def Ea (x:(List Int×I3)):aB:=⟨[],⟨bB 66 0 [(0,.v (.one (.full 0))),(1,.v (.one (.i .i64))),(2,.v (.one (.i .i64))),(3,.v (.one (.i .i64))),(11,.v (.one (.i .i64))),(12,.v (.one (.i .i64))),(13,.v (.one (.i .i64)))],[.row yi 0],0,none,[],[0,1,2,6],[3,4,5],[.i,.i,.i],[.i x.2.1,.i x.2.2.1,.i x.2.2.2,.l yi x.1]⟩,[⟨(.exit 0),.normal,⟨bB 66 0 [(11,.v (.one (.i .i64))),(12,.v (.one (.i .i64)))],[],0,none,[],[],[0,1],[.i,.i],[]⟩⟩]⟩
def ef (x:(List Int×I3)) (s:I3):I3⊕I2:=
 (if ((az (s.2.2+x.2.1))<=(x.1.length:Int)) then
 (ai (Df (x.1,s.2.2,x.2.1)) fun y=>
 (if ((az (y+x.2.2.1))<=x.2.2.2) then
 (if (s.2.1<0) then
 (Sum.inl (s.2.2,y,(az (s.2.2+1)))) else
 (if (y<s.2.1) then
 (Sum.inl (s.2.2,y,(az (s.2.2+1)))) else
 (Sum.inl (s.1,s.2.1,(az (s.2.2+1)))))) else
 (Sum.inl (s.1,s.2.1,(az (s.2.2+1)))))) else
 (Sum.inr ((s.1,s.2.1))))
def oH (x:(List Int×I3)) (s:I3):Prop:=
 (((az (s.2.2+x.2.1))<=(x.1.length:Int))->
 (rK (x.1,s.2.2,x.2.1)))
def yE (x:(List Int×I3)) (s:I3):Tr (I3⊕I2) true:=
 (.i10 ((az (s.2.2+x.2.1))<=(nL x.1))
 (.fn qQ (x.1,s.2.2,x.2.1) fun y=>
 (.o7 ((az (y+x.2.2.1))<=x.2.2.2)
 (.o7 (s.2.1<z0)
 (.ret (.inl (s.2.2,y,(w1 s.2.2))))
 (.o7 (y<s.2.1)
 (.ret (.inl (s.2.2,y,(w1 s.2.2))))
 (.ret (.inl (s.1,s.2.1,(w1 s.2.2))))))
 (.ret (.inl (s.1,s.2.1,(w1 s.2.2))))))
 (.ret (.inr ((s.1,s.2.1)))))
def sN (x:(List Int×I3)):(Int×Int×Bool):=
 (ai (zN x.1) fun y=>
 (if ((!y)=true) then
 (0,0,false) else
 (ai (bt x.2.1) fun aO=>
 (if ((!aO)=true) then
 (0,0,false) else
 (ai (bt x.2.2.1) fun y_2=>
 (if ((!y_2)=true) then
 (0,0,false) else
 (ai (bt x.2.2.2) fun bf=>
 (if ((!bf)=true) then
 (0,0,false) else
 (ai (run (ef x) (0,(-1),0)) fun r=>
 (r.1,(bp r.2 0),(decide (r.2>=0))))))))))))
def pq (x:(List Int×I3)):Prop:=
 ((tZ x.1)/\
 aA (zN x.1) fun y=>
 (¬((!y)=true)->
 (aA (bt x.2.1) fun aO=>
 (¬((!aO)=true)->
 (aA (bt x.2.2.1) fun y_2=>
 (¬((!y_2)=true)->
 (aA (bt x.2.2.2) fun bf=>
 (¬((!bf)=true)->
 (Term (ef x) (oH x) (0,(-1),0))))))))))
def Sy (x:(List Int×I3)):Tr (Int×Int×Bool) true:=
 (.fn wA x.1 fun y=>
 (.iK (!y)
 (.ret (z0,z0,false))
 (.fn0 cY x.2.1 trivial fun aO=>
 (.iK (!aO)
 (.ret (z0,z0,false))
 (.fn0 cY x.2.2.1 trivial fun y_2=>
 (.iK (!y_2)
 (.ret (z0,z0,false))
 (.fn0 cY x.2.2.2 trivial fun bf=>
 (.iK (!bf)
 (.ret (z0,z0,false))
 (aB.lp (Ea x) (yE x) (z0,(-1),z0) fun r=>
 (.ret (r.1,(bp r.2 z0),(decide (r.2>=z0)))))))))))))
abbrev tY:cC:=⟨(.pair (.one (Ty.sl yi)) (.pair (.one yi) (.pair (.one yi) (.one yi)))),(.pair (.one yi) (.pair (.one yi) (.one Ty.bool))),pq,sN⟩
theorem PE:ah Tryz.prog 55 (aj tY):=ah.tr tY Sy (fn:=Tryz.f55) ay oK mixed (by kernel_rfl) (av.nil _ _) (fun x=>(au.tr ay (ae.bS oK (av.nil _ _)) mixed 0 (Ea x) (yE x) au.nil (by kernel_rfl) fun g s Q=>(by kernel_rfl))) (fun x=>(by kernel_rfl)) fun x Q=>(by kernel_rfl)
def EL:List (Nat×Ev.Spec):=(55,aj tY)::Ca
theorem qq:ae Tryz.prog EL:=ae.add (fn:=Tryz.f55) (by kernel_rfl) PE oK
def HL (x:(List Int×Int×I3)):aB:=⟨[],⟨bB 86 0 [(0,.v (.one (.full 0))),(3,.v (.one (.ptr 1 0))),(6,.v (.one (.full 2))),(7,.v (.one (.i .i64)))],[.row yi 0,.cells [.i .i64,.i .i64,.i .i64,.i .i64] 63,.row yi 2],0,none,[],[1,2,3,4,5],[6,0],[(.l yi),.i],[.l yi x.1,.i x.2.1,.i x.2.2.1,.i x.2.2.2.1,.i x.2.2.2.2]⟩,[⟨(.exit 0),.normal,⟨bB 86 0 [(6,.v (.one (.full 0)))],[.row yi 2],0,none,[],[],[0],[(.l yi)],[]⟩⟩]⟩
def ia (x:(List Int×Int×I3)) (s:(List Int×Int)):(List Int×Int)⊕(List Int):=
 (if (s.2<(x.1.length:Int)) then
 (if (s.2>=x.2.1) then
 (if (s.2<(az (x.2.1+x.2.2.2.1))) then
 (Sum.inl ((s.1++ [(az (x.2.2.1+x.2.2.2.2))]),(az (s.2+1)))) else
 (Sum.inl ((s.1++ [(x.1.getD s.2.toNat 0)]),(az (s.2+1))))) else
 (Sum.inl ((s.1++ [(x.1.getD s.2.toNat 0)]),(az (s.2+1))))) else
 (Sum.inr (s.1)))
def lQ (x:(List Int×Int×I3)) (s:(List Int×Int)):Prop:=
 ((s.2<(x.1.length:Int))->
 (((s.2>=x.2.1)->
 (((s.2<(az (x.2.1+x.2.2.2.1)))->
 ((s.1.length+1)<1099511627776))/\
 (¬(s.2<(az (x.2.1+x.2.2.2.1)))->
 (((0<=s.2)/\ (s.2<(x.1.length:Int)))/\
 ((s.2.toNat<x.1.length)/\
 ((s.2.toNat<x.1.length)/\
 ((s.1.length+1)<1099511627776)))))))/\
 (¬(s.2>=x.2.1)->
 (((0<=s.2)/\ (s.2<(x.1.length:Int)))/\
 ((s.2.toNat<x.1.length)/\
 ((s.2.toNat<x.1.length)/\
 ((s.1.length+1)<1099511627776)))))))
def Bn (x:(List Int×Int×I3)) (s:(List Int×Int)):Tr ((List Int×Int)⊕(List Int)) true:=
 (.i10 (s.2<(nL x.1))
 (.i11 (s.2>=x.2.1)
 (.i11 (s.2<(az (x.2.1+x.2.2.2.1)))
 (.od ((s.1.length+1)<1099511627776)
 (.ret (.inl ((s.1++ [(az (x.2.2.1+x.2.2.2.2))]),(w1 s.2)))))
 (.gK s.2 x.1
 (.od ((s.1.length+1)<1099511627776)
 (.ret (.inl ((s.1++ [(gI x.1 s.2)]),(w1 s.2)))))))
 (.gK s.2 x.1
 (.od ((s.1.length+1)<1099511627776)
 (.ret (.inl ((s.1++ [(gI x.1 s.2)]),(w1 s.2)))))))
 (.ret (.inr (s.1))))
def xM (x:(List Int×Int×I3)):(List Int×Int):=
 (ai (zN x.1) fun y=>
 (if ((!y)=true) then
 ([],1) else
 (ai (bt x.2.2.2.1) fun aO=>
 (if ((!aO)=true) then
 ([],1) else
 (ai (bt x.2.2.2.2) fun y_2=>
 (if ((!y_2)=true) then
 ([],1) else
 (if (x.2.1<0) then
 ([],1) else
 (if (x.2.1>(az ((x.1.length:Int)- x.2.2.2.1))) then
 ([],1) else
 (if (x.2.2.1<0) then
 ([],1) else
 (if (x.2.2.1>(az (256- x.2.2.2.2))) then
 ([],1) else
 (ai (run (ia x) ([],0)) fun r=>
 (r,0))))))))))))
def qT (x:(List Int×Int×I3)):Prop:=
 ((tZ x.1)/\
 aA (zN x.1) fun y=>
 (¬((!y)=true)->
 (aA (bt x.2.2.2.1) fun aO=>
 (¬((!aO)=true)->
 (aA (bt x.2.2.2.2) fun y_2=>
 (¬((!y_2)=true)->
 (¬(x.2.1<0)->
 (¬(x.2.1>(az ((x.1.length:Int)- x.2.2.2.1)))->
 (¬(x.2.2.1<0)->
 (¬(x.2.2.1>(az (256- x.2.2.2.2)))->
 (Term (ia x) (lQ x) ([],0))))))))))))
def WJ (x:(List Int×Int×I3)):Tr (List Int×Int) true:=
 (.fn wA x.1 fun y=>
 (.iK (!y)
 (.ret ([],z1))
 (.fn0 cY x.2.2.2.1 trivial fun aO=>
 (.iK (!aO)
 (.ret ([],z1))
 (.fn0 cY x.2.2.2.2 trivial fun y_2=>
 (.iK (!y_2)
 (.ret ([],z1))
 (.zu (x.2.1<z0)
 (.ret ([],z1))
 (.zu (x.2.1>(az ((nL x.1)- x.2.2.2.1)))
 (.ret ([],z1))
 (.zu (x.2.2.1<z0)
 (.ret ([],z1))
 (.zu (x.2.2.1>(az (256- x.2.2.2.2)))
 (.ret ([],z1))
 (aB.lp (HL x) (Bn x) ([],z0) fun r=>
 (.ret (r,z0)))))))))))))
abbrev xN:cC:=⟨(.pair (.one (Ty.sl yi)) (.agg (Ty.prod yi cq))),(.pair (.one (Ty.sl yi)) (.one yi)),qT,xM⟩
theorem SA:ah Tryz.prog 56 (aj xN):=ah.tr xN WJ (fn:=Tryz.f56) ay qq mixed (by kernel_rfl) (av.nil _ _) (fun x=>(au.tr ay (ae.bS qq (av.nil _ _)) mixed 0 (HL x) (Bn x) au.nil (by kernel_rfl) fun g s Q=>(by kernel_rfl))) (fun x=>(by kernel_rfl)) fun x Q=>(by kernel_rfl)
def IQ:List (Nat×Ev.Spec):=(56,aj xN)::EL
theorem nO:ae Tryz.prog IQ:=ae.add (fn:=Tryz.f56) (by kernel_rfl) SA qq
def HJ (x:(Int×Int×List I2)):aB:=⟨[],⟨bB 100 0 [(0,.v (.one (.i .i64))),(1,.v (.one (.i .i64))),(2,.v (.one (.full 0))),(8,.v (.one (.i .i64)))],[.row aS 0],0,none,[],[0,1,3],[2],[.i],[.i x.1,.i x.2.1,.l aS x.2.2]⟩,[⟨.ret,.ret,⟨bB 100 0 [(6,.v (.one (.raw))),(7,.v (.one (.i .i64)))],[],0,none,[],[0,1],[],[],[.v (.slice none 0 0),.i 1]⟩⟩,⟨(.exit 0),.normal,⟨bB 100 0 [(0,.v (.one (.i .i64))),(1,.v (.one (.i .i64))),(2,.v (.one (.full 0)))],[.row aS 0],0,none,[],[0,1,2],[],[],[.i x.1,.i x.2.1,.l aS x.2.2]⟩⟩]⟩
def eU (x:(Int×Int×List I2)) (s:Int):Int⊕(Unit⊕Unit):=
 (if (s<(x.2.2.length:Int)) then
 (ai (bt (x.2.2.getD s.toNat (0,0)).1) fun y=>
 (if ((!y)=true) then
 (Sum.inr (Sum.inl ())) else
 (ai (bt (x.2.2.getD s.toNat (0,0)).2) fun aO=>
 (if ((!aO)=true) then
 (Sum.inr (Sum.inl ())) else
 (Sum.inl (az (s+1))))))) else
 (Sum.inr (Sum.inr (()))))
def lP (x:(Int×Int×List I2)) (s:Int):Prop:=
 ((s<(x.2.2.length:Int))->
 (((0<=s)/\ (s<(x.2.2.length:Int)))/\
 ((s.toNat<x.2.2.length)/\
 ((s.toNat<x.2.2.length)/\
 ((s.toNat<x.2.2.length)/\
 (aA (bt (x.2.2.getD s.toNat (0,0)).1) fun y=>
 (¬((!y)=true)->
 (((0<=s)/\ (s<(x.2.2.length:Int)))/\
 ((s.toNat<x.2.2.length)/\
 ((s.toNat<x.2.2.length)/\
 (s.toNat<x.2.2.length)))))))))))
def Bl (x:(Int×Int×List I2)) (s:Int):Tr (Int⊕(Unit⊕Unit)) true:=
 (.i10 (s<(nL x.2.2))
 (.zF s x.2.2
 (.fn0 cY (gT x.2.2 s iR).1 trivial fun y=>
 (.iK (!y)
 (.ret (.inr (Sum.inl ())))
 (.zF s x.2.2
 (.fn0 cY (gT x.2.2 s iR).2 trivial fun aO=>
 (.nT (!aO)
 (.ret (.inr (Sum.inl ())))
 (.ret (.inl (w1 s)))))))))
 (.ret (.inr (Sum.inr (())))))
def HK (x:(Int×Int×List I2)):aB:=⟨[],⟨bB 100 0 [(1,.v (.one (.i .i64))),(2,.v (.one (.full 0))),(9,.v (.one (.full 1))),(10,.v (.one (.full 2))),(11,.v (.one (.i .i64)))],[.row aS 0,.row yi 2,.row (Ty.prod yi cq) 2],0,none,[],[0,2],[3,4,1],[(.l yi),(.l (Ty.prod yi cq)),.i],[.i x.2.1,.l aS x.2.2]⟩,[⟨.ret,.ret,⟨bB 100 0 [(6,.v (.one (.raw))),(7,.v (.one (.i .i64)))],[],0,none,[],[0,1],[],[],[.v (.slice none 0 0),.i 9]⟩⟩,⟨(.exit 2),.normal,⟨bB 100 0 [(10,.v (.one (.full 0)))],[.row (Ty.prod yi cq) 2],0,none,[],[],[0],[(.l (Ty.prod yi cq))],[]⟩⟩]⟩
def eV (x:(Int×Int×List I2)) (s:(List Int×List (Int×I3)×Int)):(List Int×List (Int×I3)×Int)⊕(Unit⊕(List (Int×I3))):=
 (if (s.2.2<(x.2.2.length:Int)) then
 (ai (sN (s.1,(x.2.2.getD s.2.2.toNat (0,0)).1,(x.2.2.getD s.2.2.toNat (0,0)).2,x.2.1)) fun y=>
 (if ((!y.2.2)=true) then
 (Sum.inr (Sum.inl ())) else
 (ai (xM (s.1,y.1,y.2.1,(x.2.2.getD s.2.2.toNat (0,0)))) fun aO=>
 (Sum.inl (aO.1,(s.2.1++ [(y.1,y.2.1,(x.2.2.getD s.2.2.toNat (0,0)))]),(az (s.2.2+1))))))) else
 (Sum.inr (Sum.inr (s.2.1))))
def jh (x:(Int×Int×List I2)) (s:(List Int×List (Int×I3)×Int)):Prop:=
 ((s.2.2<(x.2.2.length:Int))->
 (((0<=s.2.2)/\ (s.2.2<(x.2.2.length:Int)))/\
 ((s.2.2.toNat<x.2.2.length)/\
 ((s.2.2.toNat<x.2.2.length)/\
 ((s.2.2.toNat<x.2.2.length)/\
 (((0<=s.2.2)/\ (s.2.2<(x.2.2.length:Int)))/\
 ((s.2.2.toNat<x.2.2.length)/\
 ((s.2.2.toNat<x.2.2.length)/\
 ((s.2.2.toNat<x.2.2.length)/\
 ((pq (s.1,(x.2.2.getD s.2.2.toNat (0,0)).1,(x.2.2.getD s.2.2.toNat (0,0)).2,x.2.1))/\
 aA (sN (s.1,(x.2.2.getD s.2.2.toNat (0,0)).1,(x.2.2.getD s.2.2.toNat (0,0)).2,x.2.1)) fun y=>
 (¬((!y.2.2)=true)->
 (((0<=s.2.2)/\ (s.2.2<(x.2.2.length:Int)))/\
 ((s.2.2.toNat<x.2.2.length)/\
 ((s.2.2.toNat<x.2.2.length)/\
 ((s.2.2.toNat<x.2.2.length)/\
 (((0<=s.2.2)/\ (s.2.2<(x.2.2.length:Int)))/\
 ((s.2.2.toNat<x.2.2.length)/\
 ((s.2.2.toNat<x.2.2.length)/\
 ((s.2.2.toNat<x.2.2.length)/\
 ((qT (s.1,y.1,y.2.1,(x.2.2.getD s.2.2.toNat (0,0))))/\
 aA (xM (s.1,y.1,y.2.1,(x.2.2.getD s.2.2.toNat (0,0)))) fun aO=>
 ((s.2.1.length+1)<1099511627776)))))))))))))))))))))
def Bm (x:(Int×Int×List I2)) (s:(List Int×List (Int×I3)×Int)):Tr ((List Int×List (Int×I3)×Int)⊕(Unit⊕(List (Int×I3)))) true:=
 (.i10 (s.2.2<(nL x.2.2))
 (.zF s.2.2 x.2.2
 (.zF s.2.2 x.2.2
 (.fn tY (s.1,(gT x.2.2 s.2.2 iR).1,(gT x.2.2 s.2.2 iR).2,x.2.1) fun y=>
 (.iK (!y.2.2)
 (.ret (.inr (Sum.inl ())))
 (.zF s.2.2 x.2.2
 (.zF s.2.2 x.2.2
 (.fn xN (s.1,y.1,y.2.1,(gT x.2.2 s.2.2 iR)) fun aO=>
 (.od ((s.2.1.length+1)<1099511627776)
 (.ret (.inl (aO.1,(s.2.1++ [(y.1,y.2.1,(gT x.2.2 s.2.2 iR))]),(w1 s.2.2))))))))))))
 (.ret (.inr (Sum.inr (s.2.1)))))
def nC (x:(Int×Int×List I2)):(List (Int×I3)×Int):=
 (ai (bt x.1) fun y=>
 (if ((!y)=true) then
 ([],1) else
 (ai (bt x.2.1) fun aO=>
 (if ((!aO)=true) then
 ([],1) else
 (ai (run (eU x) 0) fun r=>
 (Sum.elim (fun a=>
 ([],1)) (fun b=>
 (ai (run (eV x) ((List.replicate x.1.toNat (0:Int)),[],(0:Int))) fun r_1=>
 (Sum.elim (fun a=>
 ([],9)) (fun b_1=>
 (b_1,0)) r_1))) r))))))
def qS (x:(Int×Int×List I2)):Prop:=
 (aA (bt x.1) fun y=>
 (¬((!y)=true)->
 (aA (bt x.2.1) fun aO=>
 (¬((!aO)=true)->
 (Term (eU x) (lP x) 0/\
 aA (run (eU x) 0) fun r=>
 (cS r (fun a=>
 True) (fun b=>
 ((((0<=x.1)/\ (x.1<=x.1))/\ (x.1.toNat<1099511627776))/\
 (Term (eV x) (jh x) ((List.replicate x.1.toNat (0:Int)),[],(0:Int)))))))))))
def WI (x:(Int×Int×List I2)):Tr (List (Int×I3)×Int) true:=
 (.fn0 cY x.1 trivial fun y=>
 (.iK (!y)
 (.ret ([],z1))
 (.fn0 cY x.2.1 trivial fun aO=>
 (.iK (!aO)
 (.ret ([],z1))
 (aB.lp (HJ x) (Bl x) z0 fun r=>
 (.s01 r (fun a=>
 (.ret ([],z1))) (fun b=>
 (.og (((decide (z0<=x.1))&&(decide (x.1<=x.1)))&&(decide ((tN x.1)<1099511627776))) (((z0<=x.1)/\ (x.1<=x.1))/\ ((tN x.1)<1099511627776)) (fun h=>(cX (cX (decide_eq_true h.1.1) (decide_eq_true h.1.2)) (decide_eq_true h.2)))
 (aB.lp (HK x) (Bm x) ((List.replicate (tN x.1) z0),[],z0) fun r_1=>
 (.xW r_1 (fun a=>
 (.ret ([],9))) (fun b_1=>
 (.ret (b_1,z0)))))))))))))
abbrev xL:cC:=⟨(.pair (.one yi) (.pair (.one yi) (.one (Ty.sl aS)))),(.pair (.one (Ty.sl (Ty.prod yi cq))) (.one yi)),qS,nC⟩
theorem Sx:ah Tryz.prog 30 (aj xL):=ah.tr xL WI (fn:=Tryz.f30) ay nO mixed (by kernel_rfl) (av.nil _ _) (fun x=>(au.tr ay (ae.bS nO (av.nil _ _)) mixed 0 (HJ x) (Bl x) (au.tr ay (ae.bS nO (av.nil _ _)) mixed 2 (HK x) (Bm x) au.nil (by kernel_rfl) fun g s Q=>(by kernel_rfl)) (by kernel_rfl) fun g s Q=>(by kernel_rfl))) (fun x=>(by kernel_rfl)) fun x Q=>(by kernel_rfl)
def IP:List (Nat×Ev.Spec):=(30,aj xL)::IQ
theorem yR:ae Tryz.prog IP:=ae.add (fn:=Tryz.f30) (by kernel_rfl) Sx nO
def mQ (x:(Int×Int×Int×I3)):Bool:=
 (if (x.2.2.2.2.1>=1) then
 (if (x.2.2.2.2.2>=1) then
 (if (x.2.2.1>=0) then
 (if (x.2.2.2.1>=0) then
 (if (x.2.2.2.2.1<=x.1) then
 (if (x.2.2.2.2.2<=x.2.1) then
 (if (x.2.2.1<=(az (x.1- x.2.2.2.2.1))) then
 (decide (x.2.2.2.1<=(az (x.2.1- x.2.2.2.2.2)))) else
 false) else
 false) else
 false) else
 false) else
 false) else
 false) else
 false)
def JJ (_:(Int×Int×Int×I3)):Prop:=True
def Px (x:(Int×Int×Int×I3)):Tr Bool false:=
 (.o7 (x.2.2.2.2.1>=z1)
 (.o7 (x.2.2.2.2.2>=z1)
 (.o7 (x.2.2.1>=z0)
 (.o7 (x.2.2.2.1>=z0)
 (.o7 (x.2.2.2.2.1<=x.1)
 (.o7 (x.2.2.2.2.2<=x.2.1)
 (.o7 (x.2.2.1<=(az (x.1- x.2.2.2.2.1)))
 (.ret (decide (x.2.2.2.1<=(az (x.2.1- x.2.2.2.2.2)))))
 (.ret false))
 (.ret false))
 (.ret false))
 (.ret false))
 (.ret false))
 (.ret false))
 (.ret false))
abbrev qR:cC:=⟨(.pair (.one yi) (.pair (.one yi) (.agg (Ty.prod yi cq)))),(.one Ty.bool),JJ,mQ⟩
theorem Nu:ah Tryz.prog 67 (aj qR):=ah.tr qR Px (fn:=Tryz.f67) ay yR mixed (by kernel_rfl) (av.nil _ _) (fun x=>au.nil) (fun x=>(by kernel_rfl)) fun x Q=>(by kernel_rfl)
def Cb:List (Nat×Ev.Spec):=(67,aj qR)::IP
theorem u7:ae Tryz.prog Cb:=ae.add (fn:=Tryz.f67) (by kernel_rfl) Nu yR
def xK (x:I3):Bool:=
 (ai (fc x.1) fun y=>
 (ai (fc x.2.1) fun aO=>
 (ai (qj (y,aO)) fun y_2=>
 (ai (fc x.2.2) fun bf=>
 (ai (NB (bf,y_2)) fun bz=>
 (!bz))))))
def oa (x:I3):Prop:=
 ((fe x.1)/\
 aA (fc x.1) fun y=>
 ((fe x.2.1)/\
 aA (fc x.2.1) fun aO=>
 ((kQ (y,aO))/\
 aA (qj (y,aO)) fun y_2=>
 ((fe x.2.2)/\
 aA (fc x.2.2) fun bf=>
 (zO (bf,y_2))))))
def WG (x:I3):Tr Bool true:=
 (.fn sP x.1 fun y=>
 (.fn sP x.2.1 fun aO=>
 (.fn FK (y,aO) fun y_2=>
 (.fn sP x.2.2 fun bf=>
 (.fn Bz (bf,y_2) fun bz=>
 (.ret (!bz)))))))
abbrev sM:cC:=⟨(.pair (.one yi) (.pair (.one yi) (.one yi))),(.one Ty.bool),oa,xK⟩
theorem Sw:ah Tryz.prog 114 (aj sM):=ah.tr sM WG (fn:=Tryz.f114) ay u7 mixed (by kernel_rfl) (av.nil _ _) (fun x=>au.nil) (fun x=>(by kernel_rfl)) fun x Q=>(by kernel_rfl)
def IN:List (Nat×Ev.Spec):=(114,aj sM)::Cb
theorem yQ:ae Tryz.prog IN:=ae.add (fn:=Tryz.f114) (by kernel_rfl) Sw u7
def pO (x:(Int×I3)):Bool:=
 (if (x.2.1<=0) then
 true else
 (if (x.2.2.2<=0) then
 true else
 (ai (xK (x.1,x.2.1,x.2.2.1)) fun y=>
 (if (y=true) then
 true else
 (ai (xK (x.2.2.1,x.2.2.2,x.1)) fun aO=>
 aO)))))
def nB (x:(Int×I3)):Prop:=
 (¬(x.2.1<=0)->
 (¬(x.2.2.2<=0)->
 ((oa (x.1,x.2.1,x.2.2.1))/\
 aA (xK (x.1,x.2.1,x.2.2.1)) fun y=>
 (¬(y=true)->
 (oa (x.2.2.1,x.2.2.2,x.1))))))
def Pv (x:(Int×I3)):Tr Bool true:=
 (.zu (x.2.1<=z0)
 (.ret true)
 (.zu (x.2.2.2<=z0)
 (.ret true)
 (.fn sM (x.1,x.2.1,x.2.2.1) fun y=>
 (.iK y
 (.ret true)
 (.fn sM (x.2.2.1,x.2.2.2,x.1) fun aO=>
 (.ret aO))))))
abbrev n9:cC:=⟨(.pair (.one yi) (.pair (.one yi) (.pair (.one yi) (.one yi)))),(.one Ty.bool),nB,pO⟩
theorem Ns:ah Tryz.prog 99 (aj n9):=ah.tr n9 Pv (fn:=Tryz.f99) ay yQ mixed (by kernel_rfl) (av.nil _ _) (fun x=>au.nil) (fun x=>(by kernel_rfl)) fun x Q=>(by kernel_rfl)
def B9:List (Nat×Ev.Spec):=(99,aj n9)::IN
theorem u6:ae Tryz.prog B9:=ae.add (fn:=Tryz.f99) (by kernel_rfl) Ns yQ
def sL (x:((Int×I3)×Int×I3)):Bool:=
 (ai (pO (x.1.1,x.1.2.2.1,x.2.1,x.2.2.2.1)) fun y=>
 (if (y=true) then
 true else
 (ai (pO (x.1.2.1,x.1.2.2.2,x.2.2.1,x.2.2.2.2)) fun aO=>
 aO)))
def tX (x:((Int×I3)×Int×I3)):Prop:=
 ((nB (x.1.1,x.1.2.2.1,x.2.1,x.2.2.2.1))/\
 aA (pO (x.1.1,x.1.2.2.1,x.2.1,x.2.2.2.1)) fun y=>
 (¬(y=true)->
 (nB (x.1.2.1,x.1.2.2.2,x.2.2.1,x.2.2.2.2))))
def Sv (x:((Int×I3)×Int×I3)):Tr Bool true:=
 (.fn n9 (x.1.1,x.1.2.2.1,x.2.1,x.2.2.2.1) fun y=>
 (.iK y
 (.ret true)
 (.fn n9 (x.1.2.1,x.1.2.2.2,x.2.2.1,x.2.2.2.2) fun aO=>
 (.ret aO))))
abbrev tW:cC:=⟨(.pair (.agg (Ty.prod yi cq)) (.agg (Ty.prod yi cq))),(.one Ty.bool),tX,sL⟩
theorem Pu:ah Tryz.prog 68 (aj tW):=ah.tr tW Sv (fn:=Tryz.f68) ay u6 mixed (by kernel_rfl) (av.nil _ _) (fun x=>au.nil) (fun x=>(by kernel_rfl)) fun x Q=>(by kernel_rfl)
def EJ:List (Nat×Ev.Spec):=(68,aj tW)::B9
theorem mm:ae Tryz.prog EJ:=ae.add (fn:=Tryz.f68) (by kernel_rfl) Pu u6
def PB (x:(Int×Int×List (Int×I3))):aB:=⟨[],⟨bB 38 0 [(0,.v (.one (.i .i64))),(1,.v (.one (.i .i64))),(2,.v (.one (.full 0))),(7,.v (.one (.i .i64))),(8,.v (.one (.i .i64)))],[.row (Ty.prod yi cq) 0],0,none,[],[0,1,4],[2,3],[.i,.i],[.i x.1,.i x.2.1,.l (Ty.prod yi cq) x.2.2]⟩,[⟨.ret,.ret,⟨bB 38 0 [(6,.v (.one (.b)))],[],0,none,[],[0],[],[],[.b false]⟩⟩,⟨(.exit 2),.normal,⟨bB 38 0 [(0,.v (.one (.i .i64))),(1,.v (.one (.i .i64))),(2,.v (.one (.full 0))),(7,.v (.one (.i .i64)))],[.row (Ty.prod yi cq) 0],0,none,[],[0,1,3],[2],[.i],[.i x.1,.i x.2.1,.l (Ty.prod yi cq) x.2.2]⟩⟩]⟩
def jR (x:(Int×Int×List (Int×I3))) (s:I2):I2⊕(Unit⊕Int):=
 (if (s.2<s.1) then
 (ai (sL ((x.2.2.getD s.1.toNat (0,0,0,0)),(x.2.2.getD s.2.toNat (0,0,0,0)))) fun y=>
 (if ((!y)=true) then
 (Sum.inr (Sum.inl ())) else
 (Sum.inl (s.1,(az (s.2+1)))))) else
 (Sum.inr (Sum.inr (s.1))))
def pg (x:(Int×Int×List (Int×I3))) (s:I2):Prop:=
 ((s.2<s.1)->
 (((0<=s.1)/\ (s.1<(x.2.2.length:Int)))/\
 ((s.1.toNat<x.2.2.length)/\
 ((s.1.toNat<x.2.2.length)/\
 (((0<=s.2)/\ (s.2<(x.2.2.length:Int)))/\
 ((s.2.toNat<x.2.2.length)/\
 ((s.2.toNat<x.2.2.length)/\
 (tX ((x.2.2.getD s.1.toNat (0,0,0,0)),(x.2.2.getD s.2.toNat (0,0,0,0)))))))))))
def HG (x:(Int×Int×List (Int×I3))) (s:I2):Tr (I2⊕(Unit⊕Int)) true:=
 (.i10 (s.2<s.1)
 (.gK s.1 x.2.2
 (.gK s.2 x.2.2
 (.fn tW ((gT x.2.2 s.1 (z0,rX)),(gT x.2.2 s.2 (z0,rX))) fun y=>
 (.nT (!y)
 (.ret (.inr (Sum.inl ())))
 (.ret (.inl (s.1,(w1 s.2))))))))
 (.ret (.inr (Sum.inr (s.1)))))
def Pz (x:(Int×Int×List (Int×I3))):aB:=⟨[],⟨bB 38 0 [(0,.v (.one (.i .i64))),(1,.v (.one (.i .i64))),(2,.v (.one (.full 0))),(7,.v (.one (.i .i64)))],[.row (Ty.prod yi cq) 0],0,none,[],[0,1,3],[2],[.i],[.i x.1,.i x.2.1,.l (Ty.prod yi cq) x.2.2]⟩,[⟨.ret,.ret,⟨bB 38 0 [(6,.v (.one (.b)))],[],0,none,[],[0],[],[],[.b false]⟩⟩,⟨(.exit 0),.normal,⟨bB 38 0 [],[],0,none,[],[],[],[],[]⟩⟩]⟩
def fA (x:(Int×Int×List (Int×I3))) (s:Int):Int⊕(Unit⊕Unit):=
 (if (s<(x.2.2.length:Int)) then
 (ai (mQ (x.1,x.2.1,(x.2.2.getD s.toNat (0,0,0,0)))) fun y=>
 (if ((!y)=true) then
 (Sum.inr (Sum.inl ())) else
 (ai (run (jR x) (s,0)) fun r=>
 (Sum.elim (fun a=>
 (Sum.inr (Sum.inl ()))) (fun b=>
 (Sum.inl (az (b+1)))) r)))) else
 (Sum.inr (Sum.inr (()))))
def jB (x:(Int×Int×List (Int×I3))) (s:Int):Prop:=
 ((s<(x.2.2.length:Int))->
 (((0<=s)/\ (s<(x.2.2.length:Int)))/\
 ((s.toNat<x.2.2.length)/\
 ((s.toNat<x.2.2.length)/\
 (aA (mQ (x.1,x.2.1,(x.2.2.getD s.toNat (0,0,0,0)))) fun y=>
 (¬((!y)=true)->
 (Term (jR x) (pg x) (s,0))))))))
def HF (x:(Int×Int×List (Int×I3))) (s:Int):Tr (Int⊕(Unit⊕Unit)) true:=
 (.i10 (s<(nL x.2.2))
 (.gK s x.2.2
 (.fn0 qR (x.1,x.2.1,(gT x.2.2 s (z0,rX))) trivial fun y=>
 (.iK (!y)
 (.ret (.inr (Sum.inl ())))
 (aB.lp (PB x) (HG x) (s,z0) fun r=>
 (.xW r (fun a=>
 (.ret (.inr (Sum.inl ())))) (fun b=>
 (.ret (.inl (w1 b)))))))))
 (.ret (.inr (Sum.inr (())))))
def Py (x:(Int×Int×List (Int×I3))):Bool:=
 (ai (run (fA x) 0) fun r=>
 (Sum.elim (fun a=>
 false) (fun b=>
 true) r))
def Dg (x:(Int×Int×List (Int×I3))):Prop:=
 (Term (fA x) (jB x) 0)
def ab7 (x:(Int×Int×List (Int×I3))):Tr Bool true:=
 (aB.lp (Pz x) (HF x) z0 fun r=>
 (.xW r (fun a=>
 (.ret false)) (fun b=>
 (.ret true))))
abbrev FI:cC:=⟨(.pair (.one yi) (.pair (.one yi) (.one (Ty.sl (Ty.prod yi cq))))),(.one Ty.bool),Dg,Py⟩
theorem ZF:ah Tryz.prog 43 (aj FI):=ah.tr FI ab7 (fn:=Tryz.f43) ay mm mixed (by kernel_rfl) (av.nil _ _) (fun x=>(au.tr ay (ae.bS mm (av.nil _ _)) mixed 0 (Pz x) (HF x) (au.tr ay (ae.bS mm (av.nil _ _)) mixed 2 (PB x) (HG x) au.nil (by kernel_rfl) fun g s Q=>(by kernel_rfl)) (by kernel_rfl) fun g s Q=>(by kernel_rfl))) (fun x=>(by kernel_rfl)) fun x Q=>(by kernel_rfl)
def Qr:List (Nat×Ev.Spec):=(43,aj FI)::EJ
theorem EK:ae Tryz.prog Qr:=ae.add (fn:=Tryz.f43) (by kernel_rfl) ZF mm
def Nv (x:(List (Int×I3))):(List (Int×I3)):=
 ([]++x)
def HH (x:(List (Int×I3))):Prop:=
 ((0+x.length)<1099511627776)
def ZG (x:(List (Int×I3))):Tr (List (Int×I3)) true:=
 (.od ((0+x.length)<1099511627776)
 (.ret ([]++x)))
abbrev Bk:cC:=⟨(.one (Ty.sl (Ty.prod yi cq))),(.one (Ty.sl (Ty.prod yi cq))),HH,Nv⟩
theorem WH:ah Tryz.prog 21 (aj Bk):=ah.tr Bk ZG (fn:=Tryz.f21) ay EK mixed (by kernel_rfl) (av.nil _ _) (fun x=>au.nil) (fun x=>(by kernel_rfl)) fun x Q=>(by kernel_rfl)
def LX:List (Nat×Ev.Spec):=(21,aj Bk)::Qr
theorem uG:ae Tryz.prog LX:=ae.add (fn:=Tryz.f21) (by kernel_rfl) WH EK
def HM (x:(List (Int×I3)×List (Int×I3))):aB:=⟨[],⟨bB 26 0 [(0,.v (.one (.full 0))),(1,.v (.one (.full 1))),(5,.v (.one (.i .i64)))],[.row (Ty.prod yi cq) 0,.row (Ty.prod yi cq) 0],0,none,[],[1,2],[0],[.i],[.l (Ty.prod yi cq) x.1,.l (Ty.prod yi cq) x.2]⟩,[⟨.ret,.ret,⟨bB 26 0 [(4,.v (.one (.b)))],[],0,none,[],[0],[],[],[.b false]⟩⟩,⟨(.exit 0),.normal,⟨bB 26 0 [],[],0,none,[],[],[],[],[]⟩⟩]⟩
def ic (x:(List (Int×I3)×List (Int×I3))) (s:Int):Int⊕(Unit⊕Unit):=
 (if (s<(x.1.length:Int)) then
 (if ((!(((x.1.getD s.toNat (0,0,0,0)).1==(x.2.getD s.toNat (0,0,0,0)).1)&&(((x.1.getD s.toNat (0,0,0,0)).2.1==(x.2.getD s.toNat (0,0,0,0)).2.1)&&(((x.1.getD s.toNat (0,0,0,0)).2.2.1==(x.2.getD s.toNat (0,0,0,0)).2.2.1)&&(((x.1.getD s.toNat (0,0,0,0)).2.2.2==(x.2.getD s.toNat (0,0,0,0)).2.2.2)&&true)))))=true) then
 (Sum.inr (Sum.inl ())) else
 (Sum.inl (az (s+1)))) else
 (Sum.inr (Sum.inr (()))))
def lR (x:(List (Int×I3)×List (Int×I3))) (s:Int):Prop:=
 ((s<(x.1.length:Int))->
 (((0<=s)/\ (s<(x.1.length:Int)))/\
 ((s.toNat<x.1.length)/\
 ((s.toNat<x.1.length)/\
 (((0<=s)/\ (s<(x.2.length:Int)))/\
 ((s.toNat<x.2.length)/\
 (s.toNat<x.2.length)))))))
def Bp (x:(List (Int×I3)×List (Int×I3))) (s:Int):Tr (Int⊕(Unit⊕Unit)) true:=
 (.i10 (s<(nL x.1))
 (.gK s x.1
 (.gK s x.2
 (.nT (!(((gT x.1 s (z0,rX)).1==(gT x.2 s (z0,rX)).1)&&(((gT x.1 s (z0,rX)).2.1==(gT x.2 s (z0,rX)).2.1)&&(((gT x.1 s (z0,rX)).2.2.1==(gT x.2 s (z0,rX)).2.2.1)&&(((gT x.1 s (z0,rX)).2.2.2==(gT x.2 s (z0,rX)).2.2.2)&&true)))))
 (.ret (.inr (Sum.inl ())))
 (.ret (.inl (w1 s))))))
 (.ret (.inr (Sum.inr (())))))
def Bo (x:(List (Int×I3)×List (Int×I3))):Bool:=
 (if (((x.1.length:Int) !=(x.2.length:Int))=true) then
 false else
 (ai (run (ic x) 0) fun r=>
 (Sum.elim (fun a=>
 false) (fun b=>
 true) r)))
def qU (x:(List (Int×I3)×List (Int×I3))):Prop:=
 (¬(((x.1.length:Int) !=(x.2.length:Int))=true)->
 (Term (ic x) (lR x) 0))
def WK (x:(List (Int×I3)×List (Int×I3))):Tr Bool true:=
 (.iK ((nL x.1) !=(nL x.2))
 (.ret false)
 (aB.lp (HM x) (Bp x) z0 fun r=>
 (.xW r (fun a=>
 (.ret false)) (fun b=>
 (.ret true)))))
abbrev xO:cC:=⟨(.pair (.one (Ty.sl (Ty.prod yi cq))) (.one (Ty.sl (Ty.prod yi cq)))),(.one Ty.bool),qU,Bo⟩
theorem SB:ah Tryz.prog 36 (aj xO):=ah.tr xO WK (fn:=Tryz.f36) ay uG mixed (by kernel_rfl) (av.nil _ _) (fun x=>(au.tr ay (ae.bS uG (av.nil _ _)) mixed 0 (HM x) (Bp x) au.nil (by kernel_rfl) fun g s Q=>(by kernel_rfl))) (fun x=>(by kernel_rfl)) fun x Q=>(by kernel_rfl)
def IS:List (Nat×Ev.Spec):=(36,aj xO)::LX
theorem yS:ae Tryz.prog IS:=ae.add (fn:=Tryz.f36) (by kernel_rfl) SB uG
end Go.Proofs.YtbjfokijjefoeaaGreat
