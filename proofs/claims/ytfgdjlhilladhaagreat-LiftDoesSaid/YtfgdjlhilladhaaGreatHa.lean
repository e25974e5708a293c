/- Models of the references of layers 1, 2, 3, 4, 9. -/
import Derived.Test.YtfgdjlhilladhaaGreatGc
noncomputable section
set_option linter.unusedSectionVars false
set_option linter.unusedVariables false
set_option linter.unusedSimpArgs false
namespace Go.Proofs.YtfgdjlhilladhaaGreat
open Go Go.Ev Go.Proofs
abbrev aY:Type:=((Bool×List Int)×Bool×List Int)
def yy (x:Int):Bool:=
 (if (x>=(-1048576)) then
 (decide (x<=1048576)) else
 false)
def XP (_:Int):Prop:=True
def afg (x:Int):Tr Bool false:=
 (.fm (x>=(-1048576))
 (.ret (decide (x<=1048576)))
 (.ret false))
abbrev oX:bB:=⟨(.one yi),(.one Ty.bool),XP,yy⟩
theorem ab1:ah Tryz.prog 190 (ak oX):=ah.tr oX afg (fn:=Tryz.f190) ax HY mixed (by kernel_rfl) (av.nil _ _) (fun x=>au.nil) (fun x=>(by kernel_rfl)) fun x Q=>(by kernel_rfl)
def Qj:List (Nat×Ev.Spec):=(190,ak oX)::Vb
theorem Fb:ae Tryz.prog Qj:=ae.add (fn:=Tryz.f190) (by kernel_rfl) ab1 HY
def HJ (x:I2):Bool:=
 (aq (yy x.1) fun y=>
 (if (y=true) then
 (aq (yy x.2) fun aB=>
 aB) else
 false))
def abY (_:I2):Prop:=True
def ahQ (x:I2):Tr Bool false:=
 (.fn0 oX x.1 trivial fun y=>
 (.cQ y
 (.fn0 oX x.2 trivial fun aB=>
 (.ret aB))
 (.ret false)))
abbrev sy:bB:=⟨(.agg aQ),(.one Ty.bool),abY,HJ⟩
theorem afe:ah Tryz.prog 178 (ak sy):=ah.tr sy ahQ (fn:=Tryz.f178) ax Fb mixed (by kernel_rfl) (av.nil _ _) (fun x=>au.nil) (fun x=>(by kernel_rfl)) fun x Q=>(by kernel_rfl)
def Vw:List (Nat×Ev.Spec):=(178,ak sy)::Qj
theorem Iq:ae Tryz.prog Vw:=ae.add (fn:=Tryz.f178) (by kernel_rfl) afe Fb
def Zn (x:I3):Bool:=
 (aq (yy x.1) fun y=>
 (if (y=true) then
 (aq (yy x.2.1) fun aB=>
 (if (aB=true) then
 (aq (yy x.2.2) fun y_2=>
 y_2) else
 false)) else
 false))
def ab0 (_:I3):Prop:=True
def ahR (x:I3):Tr Bool false:=
 (.fn0 oX x.1 trivial fun y=>
 (.cQ y
 (.fn0 oX x.2.1 trivial fun aB=>
 (.cQ aB
 (.fn0 oX x.2.2 trivial fun y_2=>
 (.ret y_2))
 (.ret false)))
 (.ret false)))
abbrev Jy:bB:=⟨(.agg aU),(.one Ty.bool),ab0,Zn⟩
theorem aff:ah Tryz.prog 182 (ak Jy):=ah.tr Jy ahR (fn:=Tryz.f182) ax Iq mixed (by kernel_rfl) (av.nil _ _) (fun x=>au.nil) (fun x=>(by kernel_rfl)) fun x Q=>(by kernel_rfl)
def Vx:List (Nat×Ev.Spec):=(182,ak Jy)::Vw
theorem yR:ae Tryz.prog Vx:=ae.add (fn:=Tryz.f182) (by kernel_rfl) aff Iq
def Pc (x:(List I2)):aF:=⟨[],⟨bq 16 0 [(0,.v (.one (.full 0))),(3,.v (.one (.i .i64)))],[.row aQ 0],0,none,[],[1],[0],[.i],[.l aQ x]⟩,[⟨.ret,.ret,⟨bq 16 0 [(2,.v (.one (.b)))],[],0,none,[],[0],[],[],[.b false]⟩⟩,⟨(.exit 0),.normal,⟨bq 16 0 [],[],0,none,[],[],[],[],[]⟩⟩]⟩
def mD (x:(List I2)) (s:Int):Int⊕(Unit⊕Unit):=
 (if (s<(x.length:Int)) then
 (aq (HJ (x.getD s.toNat (0,0))) fun y=>
 (if ((!y)=true) then
 (Sum.inr (Sum.inl ())) else
 (Sum.inl (aj (s+1))))) else
 (Sum.inr (Sum.inr (()))))
def A5 (x:(List I2)) (s:Int):Prop:=
 ((s<(x.length:Int))->
 (((0<=s)/\ (s<(x.length:Int)))/\
 ((s.toNat<x.length)/\
 (s.toNat<x.length))))
def HG (x:(List I2)) (s:Int):Tr (Int⊕(Unit⊕Unit)) true:=
 (.i10 (s<(nL x))
 (.gu s x
 (.fn0 sy (gT x s jg) trivial fun y=>
 (.cQ (!y)
 (.ret (.inr (Sum.inl ())))
 (.ret (.inl (w1 s))))))
 (.ret (.inr (Sum.inr (())))))
def Sf (x:(List I2)):Bool:=
 (aq (run (mD x) 0) fun r=>
 (Sum.elim (fun a=>
 false) (fun b=>
 true) r))
def Ce (x:(List I2)):Prop:=
 (Term (mD x) (A5 x) 0)
def afc (x:(List I2)):Tr Bool true:=
 (aF.lp (Pc x) (HG x) z0 fun r=>
 (.ri r (fun a=>
 (.ret false)) (fun b=>
 (.ret true))))
abbrev Eg:bB:=⟨(.one (Ty.sl aQ)),(.one Ty.bool),Ce,Sf⟩
theorem abW:ah Tryz.prog 158 (ak Eg):=ah.tr Eg afc (fn:=Tryz.f158) ax yR mixed (by kernel_rfl) (av.nil _ _) (fun x=>(au.tr ax (ae.bD yR (av.nil _ _)) mixed 0 (Pc x) (HG x) au.nil (by kernel_rfl) fun g s Q=>(by kernel_rfl))) (fun x=>(by kernel_rfl)) fun x Q=>(by kernel_rfl)
def Qh:List (Nat×Ev.Spec):=(158,ak Eg)::Vx
theorem wg:ae Tryz.prog Qh:=ae.add (fn:=Tryz.f158) (by kernel_rfl) abW yR
def Pd (x:(List I3)):aF:=⟨[],⟨bq 16 0 [(0,.v (.one (.full 0))),(3,.v (.one (.i .i64)))],[.row aU 0],0,none,[],[1],[0],[.i],[.l aU x]⟩,[⟨.ret,.ret,⟨bq 16 0 [(2,.v (.one (.b)))],[],0,none,[],[0],[],[],[.b false]⟩⟩,⟨(.exit 0),.normal,⟨bq 16 0 [],[],0,none,[],[],[],[],[]⟩⟩]⟩
def mE (x:(List I3)) (s:Int):Int⊕(Unit⊕Unit):=
 (if (s<(x.length:Int)) then
 (aq (Zn (x.getD s.toNat (0,0,0))) fun y=>
 (if ((!y)=true) then
 (Sum.inr (Sum.inl ())) else
 (Sum.inl (aj (s+1))))) else
 (Sum.inr (Sum.inr (()))))
def A6 (x:(List I3)) (s:Int):Prop:=
 ((s<(x.length:Int))->
 (((0<=s)/\ (s<(x.length:Int)))/\
 ((s.toNat<x.length)/\
 (s.toNat<x.length))))
def HH (x:(List I3)) (s:Int):Tr (Int⊕(Unit⊕Unit)) true:=
 (.i10 (s<(nL x))
 (.gu s x
 (.fn0 Jy (gT x s ef) trivial fun y=>
 (.cQ (!y)
 (.ret (.inr (Sum.inl ())))
 (.ret (.inl (w1 s))))))
 (.ret (.inr (Sum.inr (())))))
def Gr (x:(List I3)):Bool:=
 (aq (run (mE x) 0) fun r=>
 (Sum.elim (fun a=>
 false) (fun b=>
 true) r))
def vJ (x:(List I3)):Prop:=
 (Term (mE x) (A6 x) 0)
def afd (x:(List I3)):Tr Bool true:=
 (aF.lp (Pd x) (HH x) z0 fun r=>
 (.ri r (fun a=>
 (.ret false)) (fun b=>
 (.ret true))))
abbrev yx:bB:=⟨(.one (Ty.sl aU)),(.one Ty.bool),vJ,Gr⟩
theorem abX:ah Tryz.prog 157 (ak yx):=ah.tr yx afd (fn:=Tryz.f157) ax wg mixed (by kernel_rfl) (av.nil _ _) (fun x=>(au.tr ax (ae.bD wg (av.nil _ _)) mixed 0 (Pd x) (HH x) au.nil (by kernel_rfl) fun g s Q=>(by kernel_rfl))) (fun x=>(by kernel_rfl)) fun x Q=>(by kernel_rfl)
def Qi:List (Nat×Ev.Spec):=(157,ak yx)::Qh
theorem Fa:ae Tryz.prog Qi:=ae.add (fn:=Tryz.f157) (by kernel_rfl) abX wg
def Lx (x:(I2×I2)):I2:=
 (aq (HJ x.1) fun y=>
 (if ((!y)=true) then
 (0,0) else
 (aq (HJ x.2) fun aB=>
 (if ((!aB)=true) then
 (0,0) else
 ((aj (x.1.1- x.2.1)),(aj (x.1.2- x.2.2)))))))
def XQ (_:(I2×I2)):Prop:=True
def afh (x:(I2×I2)):Tr I2 false:=
 (.fn0 sy x.1 trivial fun y=>
 (.cQ (!y)
 (.ret jg)
 (.fn0 sy x.2 trivial fun aB=>
 (.cQ (!aB)
 (.ret jg)
 (.ret ((aj (x.1.1- x.2.1)),(aj (x.1.2- x.2.2))))))))
abbrev yz:bB:=⟨(.pair (.agg aQ) (.agg aQ)),(.agg aQ),XQ,Lx⟩
theorem ab2:ah Tryz.prog 152 (ak yz):=ah.tr yz afh (fn:=Tryz.f152) ax Fa mixed (by kernel_rfl) (av.nil _ _) (fun x=>au.nil) (fun x=>(by kernel_rfl)) fun x Q=>(by kernel_rfl)
def Qk:List (Nat×Ev.Spec):=(152,ak yz)::Qi
theorem Fc:ae Tryz.prog Qk:=ae.add (fn:=Tryz.f152) (by kernel_rfl) ab2 Fa
def Eh (x:(I2×I2)):I2:=
 (aq (HJ x.1) fun y=>
 (if ((!y)=true) then
 (0,5) else
 (aq (HJ x.2) fun aB=>
 (if ((!aB)=true) then
 (0,5) else
 ((aj ((aj (x.1.1*x.2.2))- (aj (x.1.2*x.2.1)))),0)))))
def Sh (_:(I2×I2)):Prop:=True
def XO (x:(I2×I2)):Tr I2 false:=
 (.fn0 sy x.1 trivial fun y=>
 (.cQ (!y)
 (.ret (z0,5))
 (.fn0 sy x.2 trivial fun aB=>
 (.cQ (!aB)
 (.ret (z0,5))
 (.ret ((aj ((aj (x.1.1*x.2.2))- (aj (x.1.2*x.2.1)))),z0))))))
abbrev vK:bB:=⟨(.pair (.agg aQ) (.agg aQ)),(.pair (.one yi) (.one yi)),Sh,Eh⟩
theorem UM:ah Tryz.prog 151 (ak vK):=ah.tr vK XO (fn:=Tryz.f151) ax Fc mixed (by kernel_rfl) (av.nil _ _) (fun x=>au.nil) (fun x=>(by kernel_rfl)) fun x Q=>(by kernel_rfl)
def Ip:List (Nat×Ev.Spec):=(151,ak vK)::Qk
theorem yQ:ae Tryz.prog Ip:=ae.add (fn:=Tryz.f151) (by kernel_rfl) UM Fc
def Se (x:I2):I3:=
 (if ((x.2==0)=true) then
 (0,0,3) else
 (if ((x.1==(-9223372036854775808))=true) then
 (if ((x.2==(-1))=true) then
 (0,0,4) else
 (if (((Int.tmod x.1 x.2) !=0)=true) then
 (if ((!((decide ((Int.tmod x.1 x.2)<0))==(decide (x.2<0))))=true) then
 ((aj ((aj (Int.tdiv x.1 x.2))- 1)),(aj ((Int.tmod x.1 x.2)+x.2)),0) else
 ((aj (Int.tdiv x.1 x.2)),(Int.tmod x.1 x.2),0)) else
 ((aj (Int.tdiv x.1 x.2)),(Int.tmod x.1 x.2),0))) else
 (if (((Int.tmod x.1 x.2) !=0)=true) then
 (if ((!((decide ((Int.tmod x.1 x.2)<0))==(decide (x.2<0))))=true) then
 ((aj ((aj (Int.tdiv x.1 x.2))- 1)),(aj ((Int.tmod x.1 x.2)+x.2)),0) else
 ((aj (Int.tdiv x.1 x.2)),(Int.tmod x.1 x.2),0)) else
 ((aj (Int.tdiv x.1 x.2)),(Int.tmod x.1 x.2),0))))
def yw (x:I2):Prop:=
 (¬((x.2==0)=true)->
 ((((x.1==(-9223372036854775808))=true)->
 (¬((x.2==(-1))=true)->
 ((x.2≠0)/\
 (x.2≠0))))/\
 (¬((x.1==(-9223372036854775808))=true)->
 ((x.2≠0)/\
 (x.2≠0)))))
abbrev Zi (x:I2):=((aj (Int.tdiv x.1 x.2)),(Int.tmod x.1 x.2),z0)
def abU (x:I2):Tr I3 true:=
 (.dy (x.2==z0)
 (.ret (z0,z0,3))
 (.b11 (x.1==(-9223372036854775808))
 (.dy (x.2==(-1))
 (.ret (z0,z0,4))
 (.od (x.2≠z0)
 (.od (x.2≠z0)
 (.cQ ((Int.tmod x.1 x.2) !=z0)
 (.cQ (!((decide ((Int.tmod x.1 x.2)<z0))==(decide (x.2<z0))))
 (.ret ((wm (aj (Int.tdiv x.1 x.2))),(aj ((Int.tmod x.1 x.2)+x.2)),z0))
 (.ret (Zi x)))
 (.ret (Zi x))))))
 (.od (x.2≠z0)
 (.od (x.2≠z0)
 (.cQ ((Int.tmod x.1 x.2) !=z0)
 (.cQ (!((decide ((Int.tmod x.1 x.2)<z0))==(decide (x.2<z0))))
 (.ret ((wm (aj (Int.tdiv x.1 x.2))),(aj ((Int.tmod x.1 x.2)+x.2)),z0))
 (.ret (Zi x)))
 (.ret (Zi x)))))))
abbrev Al:bB:=⟨(.pair (.one yi) (.one yi)),(.pair (.one yi) (.pair (.one yi) (.one yi))),yw,Se⟩
theorem XM:ah Tryz.prog 115 (ak Al):=ah.tr Al abU (fn:=Tryz.f115) ax yQ mixed (by kernel_rfl) (av.nil _ _) (fun x=>au.nil) (fun x=>(by kernel_rfl)) fun x Q=>(by kernel_rfl)
def nC:List (Nat×Ev.Spec):=(115,ak Al)::Ip
theorem tB:ae Tryz.prog nC:=ae.add (fn:=Tryz.f115) (by kernel_rfl) XM yQ
def iC (x:(Bool×List Int)) (S:Nat->Prop) (s:Int):AS:=⟨(vb x.1:: .v (.one (.full 1))::D::D:: .v (.one (.ptr 2 0))::vi s::D::D::D::D::D::D::D::D::D::D::D::D::D::D::D::D::D::D::D::D::D::D::D:: []),[.bX S,.row yi x.2 0,.cells [.raw (.bool false),.raw (.slice none 0 0)] 164]⟩
def nZ (x:(Bool×List Int)) (S:Nat->Prop) (r:Int) (K:Exit->AS->Prop):Prop:=K .normal ⟨(vb x.1:: .v (.one (.full 1))::D::D:: .v (.one (.ptr 2 0))::vi r::D::D::D::D::D::D::D::D::D::D::D::D::D::D::D::D::D::D::D::D::D::D::D:: []),[.bX S,.row yi x.2 0,.cells [.raw (.bool false),.raw (.slice none 0 0)] 164]⟩
def cP (x:(Bool×List Int)) (s:Int):Int⊕Int:=
 (if (s>0) then
 (if (((x.2.getD (Int.toNat (aj (s- 1))) 0)==0)=true) then
 (Sum.inl (aj (s- 1))) else
 (Sum.inr (s))) else
 (Sum.inr (s)))
def ja (x:(Bool×List Int)) (s:Int):Prop:=
 ((s>0)->
 (((0<=(aj (s- 1)))/\ ((aj (s- 1))<(x.2.length:Int)))/\
 (((Int.toNat (aj (s- 1)))<x.2.length)/\
 ((Int.toNat (aj (s- 1)))<x.2.length))))
def vG (x:(Bool×List Int)) (S:Nat->Prop):bC:=pB (iC x S) (cP x) (ja x) (nZ x S)
theorem R9 (x:(Bool×List Int)) (S:Nat->Prop) (s:Int) (K:Exit->AS->Prop) (KN:AS->Prop):cy ⟨tt,nC,cZ,[],[],[]⟩ (cI (bR 0 (bn Tryz.f153))) (iC x S s) (KB 0 K KN)=
 (cB (decide (s>(0:Int)))
 (ob ((decide ((0:Int)<=(aj (s- (1:Int)))))&&(decide ((aj (s- (1:Int)))<(x.2.length:Int))))
 (ob (decide ((Int.toNat (aj (s- (1:Int))))<x.2.length))
 (ob (decide ((Int.toNat (aj (s- (1:Int))))<x.2.length))
 (cB ((x.2.getD (Int.toNat (aj (s- (1:Int)))) (0:Int))==(0:Int))
 (KB 0 K KN .normal ⟨(vb x.1:: .v (.one (.full 1))::D::D:: .v (.one (.ptr 2 0))::vi (aj (s- (1:Int)))::D::D::vi s::vb (decide (s>(0:Int)))::vb true:: .v (.one (.full 1))::vi s::vi (aj (s- (1:Int))):: .v (.one (.br 1 (Int.toNat (aj (s- (1:Int)))) 0))::vi (x.2.getD (Int.toNat (aj (s- (1:Int)))) (0:Int))::vb ((x.2.getD (Int.toNat (aj (s- (1:Int)))) (0:Int))==(0:Int))::vb ((x.2.getD (Int.toNat (aj (s- (1:Int)))) (0:Int))==(0:Int))::vi s::vi (aj (s- (1:Int)))::D::D::D::D::D::D::D::D::D:: []),[.bX S,.row yi x.2 0,.cells [.raw (.bool false),.raw (.slice none 0 0)] 164]⟩)
 (KB 0 K KN (.exit 0) ⟨(vb x.1:: .v (.one (.full 1))::D::D:: .v (.one (.ptr 2 0))::vi s::D::D::vi s::vb (decide (s>(0:Int)))::vb true:: .v (.one (.full 1))::vi s::vi (aj (s- (1:Int))):: .v (.one (.br 1 (Int.toNat (aj (s- (1:Int)))) 0))::vi (x.2.getD (Int.toNat (aj (s- (1:Int)))) (0:Int))::vb ((x.2.getD (Int.toNat (aj (s- (1:Int)))) (0:Int))==(0:Int))::vb ((x.2.getD (Int.toNat (aj (s- (1:Int)))) (0:Int))==(0:Int))::D::D::D::D::D::D::D::D::D::D::D:: []),[.bX S,.row yi x.2 0,.cells [.raw (.bool false),.raw (.slice none 0 0)] 164]⟩)))))
 (KB 0 K KN (.exit 0) ⟨(vb x.1:: .v (.one (.full 1))::D::D:: .v (.one (.ptr 2 0))::vi s::D::D::vi s::vb (decide (s>(0:Int)))::vb false::aH::aH::aH::aH::aH::aH::vb false::D::D::D::D::D::D::D::D::D::D::D:: []),[.bX S,.row yi x.2 0,.cells [.raw (.bool false),.raw (.slice none 0 0)] 164]⟩)):=by kernel_rfl
theorem R8 (x:(Bool×List Int)) (S:Nat->Prop): ∀st K,vG x S st K->Vc (cy ⟨tt,nC,cZ,[],[],[]⟩ (.loop (cI (bR 0 (bn Tryz.f153)))) st (jm 0 (iB K))):=fX fun s K KN hp hq=> .eq (R9 x S s K KN) (have hp:=Eq.mp (ja.eq_1 x s) hp;have hq:=Eq.mp (congrArg (cz (iC x S) (nZ x S) K KN) (cP.eq_1 x s)) hq;
 (CG (Q:=(cz (iC x S) (nZ x S) K KN)) hq (fun c hq=>have hp:=(hp c);(b7 (dK (decide_eq_true hp.1.1) (decide_eq_true hp.1.2)) (have hp:=hp.2;(b7 (decide_eq_true hp.1) (have hp:=hp.2;(b7 (decide_eq_true hp) (FO (Q:=(cz (iC x S) (nZ x S) K KN)) hq (fun c hq=>(Exists.intro (iC x S (aj (s- (1:Int)))) (And.intro (bP (π:= [.same 0,.same 1,.same 2]) (And.intro rfl (And.intro rfl (And.intro rfl (And.intro rfl trivial)))) (And.intro (ai rfl rfl) (And.intro (ai rfl rfl) (And.intro (ai rfl rfl) trivial))) rfl) hq))) (fun c hq=>(Exists.intro ⟨(vb x.1:: .v (.one (.full 1))::D::D:: .v (.one (.ptr 2 0))::vi s::D::D::D::D::D::D::D::D::D::D::D::D::D::D::D::D::D::D::D::D::D::D::D:: []),[.bX S,.row yi x.2 0,.cells [.raw (.bool false),.raw (.slice none 0 0)] 164]⟩ (And.intro (bP (π:= [.same 0,.same 1,.same 2]) (And.intro rfl (And.intro rfl (And.intro rfl (And.intro rfl trivial)))) (And.intro (ai rfl rfl) (And.intro (ai rfl rfl) (And.intro (ai rfl rfl) trivial))) rfl) hq)))))))))) (fun c hq=>(Exists.intro ⟨(vb x.1:: .v (.one (.full 1))::D::D:: .v (.one (.ptr 2 0))::vi s::D::D::D::D::D::D::D::D::D::D::D::D::D::D::D::D::D::D::D::D::D::D::D:: []),[.bX S,.row yi x.2 0,.cells [.raw (.bool false),.raw (.slice none 0 0)] 164]⟩ (And.intro (bP (π:= [.same 0,.same 1,.same 2]) (And.intro rfl (And.intro rfl (And.intro rfl (And.intro rfl trivial)))) (And.intro (ai rfl rfl) (And.intro (ai rfl rfl) (And.intro (ai rfl rfl) trivial))) rfl) hq)))))
def gh (x:(Bool×List Int)):(Bool×List Int):=
 (aq (run (cP x) (x.2.length:Int)) fun r=>
 (if (x.1=true) then
 ((decide (r>0)),(List.take r.toNat x.2)) else
 (false,(List.take r.toNat x.2))))
def b8 (x:(Bool×List Int)):Prop:=
 (Term (cP x) (ja x) (x.2.length:Int)/\
 az (run (cP x) (x.2.length:Int)) fun r=>
 (((x.1=true)->
 ((0<=r)/\ (r<=(x.2.length:Int))))/\
 (¬(x.1=true)->
 ((0<=r)/\ (r<=(x.2.length:Int))))))
theorem abQ (x:(Bool×List Int)) (S:Nat->Prop) (Q:(Bool×List Int)->Prop):Na ⟨tt,nC,cZ,[(0,vG x S)],[],[]⟩ Tryz.f153 (ij (.pair (.one Ty.bool) (.one (Ty.sl yi))) x) (iq (.pair (.one Ty.bool) (.one (Ty.sl yi))) x++ [.bX S]) (wO (.agg (Ty.prod Ty.bool (Ty.sl yi))) S Q)=
 (Exists fun s0:Int=>pN ⟨(vb x.1:: .v (.one (.full 0))::aH::aH:: .v (.one (.ptr 2 0))::vi (x.2.length:Int):: .v (.one (.full 0))::vi (x.2.length:Int)::aH::aH::aH::aH::aH::aH::aH::aH::aH::aH::aH::aH::aH::aH::aH::aH::aH::aH::aH::aH::aH:: []),[.row yi x.2 0,.bX S,.cells [.raw (.bool false),.raw (.slice none 0 0)] 164]⟩ (iC x S s0)/\ Term (cP x) (ja x) s0/\ ∀r:Int,r=run (cP x) s0->
 (cB x.1
 (ob ((decide ((0:Int)<=r))&&(decide (r<=(x.2.length:Int))))
 ((S=S)/\
 (Q ((decide (r>(0:Int))),(List.take r.toNat x.2)))))
 (ob ((decide ((0:Int)<=r))&&(decide (r<=(x.2.length:Int))))
 ((S=S)/\
 (Q (false,(List.take r.toNat x.2))))))):=by kernel_rfl
theorem abO (x:(Bool×List Int)) (S:Nat->Prop) (Q:(Bool×List Int)->Prop) (hp:b8 x) (hq:Q (gh x)):Vc (Na ⟨tt,nC,cZ,[(0,vG x S)],[],[]⟩ Tryz.f153 (ij (.pair (.one Ty.bool) (.one (Ty.sl yi))) x) (iq (.pair (.one Ty.bool) (.one (Ty.sl yi))) x++ [.bX S]) (wO (.agg (Ty.prod Ty.bool (Ty.sl yi))) S Q)):= .eq (abQ x S Q) (have hp:=Eq.mp (b8.eq_1 x) hp;have hq:=Eq.mp (congrArg Q (gh.eq_1 x)) hq;
 (Exists.intro (x.2.length:Int) (And.intro (bP (π:= [.same 1,.same 0,.same 2]) (And.intro rfl (And.intro rfl (And.intro rfl (And.intro rfl trivial)))) (And.intro (ai rfl rfl) (And.intro (ai rfl rfl) (And.intro (ai rfl rfl) trivial))) rfl) (And.intro hp.1 (oK (Q:=Q) hp.2 hq fun r hp hq=>(FO (Q:=Q) hq (fun c hq=>have hp:=(hp.1 c);(b7 (dK (decide_eq_true hp.1) (decide_eq_true hp.2)) (And.intro rfl hq))) (fun c hq=>have hp:=(hp.2 c);(b7 (dK (decide_eq_true hp.1) (decide_eq_true hp.2)) (And.intro rfl hq)))))))))
abbrev UF:bB:=⟨(.pair (.one Ty.bool) (.one (Ty.sl yi))),(.agg (Ty.prod Ty.bool (Ty.sl yi))),b8,gh⟩
theorem abP:ah Tryz.prog 153 (kG UF):=ah.fnR (fn:=Tryz.f153) ax tB mixed (by kernel_rfl) (by kernel_rfl) (.pair (.one Ty.bool) (.one (Ty.sl yi))) (.agg (Ty.prod Ty.bool (Ty.sl yi))) b8 gh fun x hp S=>⟨_,_,(av.nil _ _),(au.JT ax (ae.bD tB (av.nil _ _)) mixed au.nil (by kernel_rfl) (by kernel_rfl) (R8 x S)),abO x S (fun y=>y=gh x) hp rfl⟩
def Qg:List (Nat×Ev.Spec):=(153,kG UF)::nC
theorem E8:ae Tryz.prog Qg:=ae.add (fn:=Tryz.f153) (by kernel_rfl) abP tB
def fj (x:((Bool×List Int)×Int)):Int:=
 (if (x.2<(x.1.2.length:Int)) then
 (x.1.2.getD x.2.toNat 0) else
 0)
def dM (x:((Bool×List Int)×Int)):Prop:=
 ((x.2<(x.1.2.length:Int))->
 (((0<=x.2)/\ (x.2<(x.1.2.length:Int)))/\
 ((x.2.toNat<x.1.2.length)/\
 (x.2.toNat<x.1.2.length))))
def abH (x:((Bool×List Int)×Int)):Tr Int true:=
 (.i10 (x.2<(nL x.1.2))
 (.gu x.2 x.1.2
 (.ret (gI x.1.2 x.2)))
 (.ret z0))
abbrev gV:bB:=⟨(.pair (.agg (Ty.prod Ty.bool (Ty.sl yi))) (.one yi)),(.one yi),dM,fj⟩
theorem Xw:ah Tryz.prog 191 (ak gV):=ah.tr gV abH (fn:=Tryz.f191) ax E8 mixed (by kernel_rfl) (av.nil _ _) (fun x=>au.nil) (fun x=>(by kernel_rfl)) fun x Q=>(by kernel_rfl)
def Mq:List (Nat×Ev.Spec):=(191,ak gV)::Qg
theorem tA:ae Tryz.prog Mq:=ae.add (fn:=Tryz.f191) (by kernel_rfl) Xw E8
def Pb (x:aY):aF:=⟨[],⟨bq 32 0 [(2,.v (.one (.ptr 0 0))),(3,.v (.one (.ptr 2 0))),(5,.v (.one (.i .i64)))],[.cells [.b,.full 1] 164,.row yi 0,.cells [.b,.full 3] 164,.row yi 0],0,none,[],[1,2,3,4],[0],[.i],[.b x.1.1,.l yi x.1.2,.b x.2.1,.l yi x.2.2]⟩,[⟨.ret,.ret,⟨bq 32 0 [(4,.v (.one (.i .i64)))],[],0,none,[],[],[0],[.i],[]⟩⟩,⟨(.exit 0),.normal,⟨bq 32 0 [],[],0,none,[],[],[],[],[]⟩⟩]⟩
def gX (x:aY) (s:Int):Int⊕(Int⊕Unit):=
 (if (s>=0) then
 (aq (fj (x.1,s)) fun y=>
 (aq (fj (x.2,s)) fun aB=>
 (if (y<aB) then
 (Sum.inr (Sum.inl (-1))) else
 (aq (fj (x.1,s)) fun y_2=>
 (aq (fj (x.2,s)) fun bh=>
 (if (y_2>bh) then
 (Sum.inr (Sum.inl 1)) else
 (Sum.inl (aj (s- 1))))))))) else
 (Sum.inr (Sum.inr (()))))
def tf (x:aY) (s:Int):Prop:=
 ((s>=0)->
 ((dM (x.1,s))/\
 az (fj (x.1,s)) fun y=>
 ((dM (x.2,s))/\
 az (fj (x.2,s)) fun aB=>
 (¬(y<aB)->
 ((dM (x.1,s))/\
 az (fj (x.1,s)) fun y_2=>
 (dM (x.2,s)))))))
def HF (x:aY) (s:Int):Tr (Int⊕(Int⊕Unit)) true:=
 (.i10 (s>=z0)
 (.fn gV (x.1,s) fun y=>
 (.fn gV (x.2,s) fun aB=>
 (.nK (y<aB)
 (.ret (.inr (Sum.inl (-1))))
 (.fn gV (x.1,s) fun y_2=>
 (.fn gV (x.2,s) fun bh=>
 (.fm (y_2>bh)
 (.ret (.inr (Sum.inl z1)))
 (.ret (.inl (wm s)))))))))
 (.ret (.inr (Sum.inr (())))))
def Gn (x:aY):Int:=
 (aq (run (gX x) (aj ((aI (x.1.2.length:Int) (x.2.2.length:Int))- 1))) fun r=>
 (Sum.elim (fun a=>
 a) (fun b=>
 0) r))
def vF (x:aY):Prop:=
 (Term (gX x) (tf x) (aj ((aI (x.1.2.length:Int) (x.2.2.length:Int))- 1)))
def ae5 (x:aY):Tr Int true:=
 (aF.lp (Pb x) (HF x) (wm (aI (nL x.1.2) (nL x.2.2))) fun r=>
 (.ri r (fun a=>
 (.ret a)) (fun b=>
 (.ret z0))))
abbrev Lq:bB:=⟨(.pair (.agg (Ty.prod Ty.bool (Ty.sl yi))) (.agg (Ty.prod Ty.bool (Ty.sl yi)))),(.one yi),vF,Gn⟩
theorem abN:ah Tryz.prog 180 (ak Lq):=ah.tr Lq ae5 (fn:=Tryz.f180) ax tA mixed (by kernel_rfl) (av.nil _ _) (fun x=>(au.tr ax (ae.bD tA (av.nil _ _)) mixed 0 (Pb x) (HF x) au.nil (by kernel_rfl) fun g s Q=>(by kernel_rfl))) (fun x=>(by kernel_rfl)) fun x Q=>(by kernel_rfl)
def Qf:List (Nat×Ev.Spec):=(180,ak Lq)::Mq
theorem v9:ae Tryz.prog Qf:=ae.add (fn:=Tryz.f180) (by kernel_rfl) abN tA
def O9 (x:aY):aF:=⟨[],⟨bq 38 0 [(2,.v (.one (.ptr 0 0))),(3,.v (.one (.ptr 2 0))),(5,.v (.one (.full 4))),(6,.v (.one (.i .i64))),(7,.v (.one (.i .i64)))],[.cells [.b,.full 1] 164,.row yi 0,.cells [.b,.full 3] 164,.row yi 0,.row yi 2],0,none,[],[2,3,4,5],[6,0,1],[(.l yi),.i,.i],[.b x.1.1,.l yi x.1.2,.b x.2.1,.l yi x.2.2]⟩,[⟨(.exit 0),.normal,⟨bq 38 0 [(5,.v (.one (.full 0)))],[.row yi 2],0,none,[],[],[0],[(.l yi)],[]⟩⟩]⟩
def mq (x:aY) (s:(List Int×I2)):(List Int×I2)⊕(List Int):=
 (if (s.2.2<(aj ((aI (x.1.2.length:Int) (x.2.2.length:Int))+1))) then
 (aq (fj (x.1,s.2.2)) fun y=>
 (aq (fj (x.2,s.2.2)) fun aB=>
 (Sum.inl ((s.1++ [(Int.tmod (aj ((aj (y+aB))+s.2.1)) 10)]),(aj (Int.tdiv (aj ((aj (y+aB))+s.2.1)) 10)),(aj (s.2.2+1)))))) else
 (Sum.inr (s.1)))
def s9 (x:aY) (s:(List Int×I2)):Prop:=
 ((s.2.2<(aj ((aI (x.1.2.length:Int) (x.2.2.length:Int))+1)))->
 ((dM (x.1,s.2.2))/\
 az (fj (x.1,s.2.2)) fun y=>
 ((dM (x.2,s.2.2))/\
 az (fj (x.2,s.2.2)) fun aB=>
 ((s.1.length+1)<1099511627776))))
def HD (x:aY) (s:(List Int×I2)):Tr ((List Int×I2)⊕(List Int)) true:=
 (.i10 (s.2.2<(w1 (aI (nL x.1.2) (nL x.2.2))))
 (.fn gV (x.1,s.2.2) fun y=>
 (.fn gV (x.2,s.2.2) fun aB=>
 (.od ((s.1.length+1)<1099511627776)
 (.ret (.inl ((s.1++ [(Int.tmod (aj ((aj (y+aB))+s.2.1)) 10)]),(aj (Int.tdiv (aj ((aj (y+aB))+s.2.1)) 10)),(w1 s.2.2)))))))
 (.ret (.inr (s.1))))
def vC (x:aY):(List Int):=
 (aq (run (mq x) ([],0,0)) fun r=>
 r)
def vD (x:aY):Prop:=
 (Term (mq x) (s9 x) ([],0,0))
def ae3 (x:aY):Tr (List Int) true:=
 (aF.lp (O9 x) (HD x) ([],jg) fun r=>
 (.ret r))
abbrev Ln:bB:=⟨(.pair (.agg (Ty.prod Ty.bool (Ty.sl yi))) (.agg (Ty.prod Ty.bool (Ty.sl yi)))),(.one (Ty.sl yi)),vD,vC⟩
theorem abL:ah Tryz.prog 179 (ak Ln):=ah.tr Ln ae3 (fn:=Tryz.f179) ax v9 mixed (by kernel_rfl) (av.nil _ _) (fun x=>(au.tr ax (ae.bD v9 (av.nil _ _)) mixed 0 (O9 x) (HD x) au.nil (by kernel_rfl) fun g s Q=>(by kernel_rfl))) (fun x=>(by kernel_rfl)) fun x Q=>(by kernel_rfl)
def Qd:List (Nat×Ev.Spec):=(179,ak Ln)::Qf
theorem v8:ae Tryz.prog Qd:=ae.add (fn:=Tryz.f179) (by kernel_rfl) abL v9
def Lm (x:aY):aF:=⟨[],⟨bq 34 0 [(2,.v (.one (.ptr 0 0))),(3,.v (.one (.ptr 2 0))),(5,.v (.one (.full 4))),(6,.v (.one (.i .i64))),(7,.v (.one (.i .i64)))],[.cells [.b,.full 1] 164,.row yi 0,.cells [.b,.full 3] 164,.row yi 0,.row yi 2],0,none,[],[2,3,4,5],[6,0,1],[(.l yi),.i,.i],[.b x.1.1,.l yi x.1.2,.b x.2.1,.l yi x.2.2]⟩,[⟨(.exit 0),.normal,⟨bq 34 0 [(5,.v (.one (.full 0)))],[.row yi 2],0,none,[],[],[0],[(.l yi)],[]⟩⟩]⟩
def kP (x:aY) (s:(List Int×I2)):(List Int×I2)⊕(List Int):=
 (if (s.2.2<(x.1.2.length:Int)) then
 (aq (fj (x.1,s.2.2)) fun y=>
 (aq (fj (x.2,s.2.2)) fun aB=>
 (if ((aj ((aj (y- aB))- s.2.1))<0) then
 (Sum.inl ((s.1++ [(aj ((aj ((aj (y- aB))- s.2.1))+10))]),1,(aj (s.2.2+1)))) else
 (Sum.inl ((s.1++ [(aj ((aj (y- aB))- s.2.1))]),0,(aj (s.2.2+1))))))) else
 (Sum.inr (s.1)))
def qN (x:aY) (s:(List Int×I2)):Prop:=
 ((s.2.2<(x.1.2.length:Int))->
 ((dM (x.1,s.2.2))/\
 az (fj (x.1,s.2.2)) fun y=>
 ((dM (x.2,s.2.2))/\
 az (fj (x.2,s.2.2)) fun aB=>
 ((((aj ((aj (y- aB))- s.2.1))<0)->
 ((s.1.length+1)<1099511627776))/\
 (¬((aj ((aj (y- aB))- s.2.1))<0)->
 ((s.1.length+1)<1099511627776))))))
def D9 (x:aY) (s:(List Int×I2)):Tr ((List Int×I2)⊕(List Int)) true:=
 (.i10 (s.2.2<(nL x.1.2))
 (.fn gV (x.1,s.2.2) fun y=>
 (.fn gV (x.2,s.2.2) fun aB=>
 (.i11 ((aj ((aj (y- aB))- s.2.1))<z0)
 (.od ((s.1.length+1)<1099511627776)
 (.ret (.inl ((s.1++ [(aj ((aj ((aj (y- aB))- s.2.1))+10))]),z1,(w1 s.2.2)))))
 (.od ((s.1.length+1)<1099511627776)
 (.ret (.inl ((s.1++ [(aj ((aj (y- aB))- s.2.1))]),z0,(w1 s.2.2))))))))
 (.ret (.inr (s.1))))
def nY (x:aY):(List Int):=
 (aq (run (kP x) ([],0,0)) fun r=>
 r)
def lI (x:aY):Prop:=
 (Term (kP x) (qN x) ([],0,0))
def abJ (x:aY):Tr (List Int) true:=
 (aF.lp (Lm x) (D9 x) ([],jg) fun r=>
 (.ret r))
abbrev Gl:bB:=⟨(.pair (.agg (Ty.prod Ty.bool (Ty.sl yi))) (.agg (Ty.prod Ty.bool (Ty.sl yi)))),(.one (Ty.sl yi)),lI,nY⟩
theorem Xx:ah Tryz.prog 181 (ak Gl):=ah.tr Gl abJ (fn:=Tryz.f181) ax v8 mixed (by kernel_rfl) (av.nil _ _) (fun x=>(au.tr ax (ae.bD v8 (av.nil _ _)) mixed 0 (Lm x) (D9 x) au.nil (by kernel_rfl) fun g s Q=>(by kernel_rfl))) (fun x=>(by kernel_rfl)) fun x Q=>(by kernel_rfl)
def v5:List (Nat×Ev.Spec):=(181,ak Gl)::Qd
theorem Bp:ae Tryz.prog v5:=ae.add (fn:=Tryz.f181) (by kernel_rfl) Xx v8
def p9 (x:(Bool×List Int)):(Bool×List Int):=
 (aq (gh ((!x.1),x.2)) fun y=>
 y)
def oU (x:(Bool×List Int)):Prop:=
 (b8 ((!x.1),x.2))
theorem XE (x:(Bool×List Int)) (S:Nat->Prop) (Q:(Bool×List Int)->Prop):Na ⟨tt,v5,cZ,[],[],[]⟩ Tryz.f155 (ij (.agg (Ty.prod Ty.bool (Ty.sl yi))) x) (iq (.agg (Ty.prod Ty.bool (Ty.sl yi))) x++ [.bX S]) (wO (.agg (Ty.prod Ty.bool (Ty.sl yi))) S Q)=
 ((b8 ((!x.1),x.2))/\ ∀y:(Bool×List Int),y=(gh ((!x.1),x.2))->
 ((S=S)/\
 (Q y))):=by kernel_rfl
theorem XB (x:(Bool×List Int)) (S:Nat->Prop) (Q:(Bool×List Int)->Prop) (hp:oU x) (hq:Q (p9 x)):Vc (Na ⟨tt,v5,cZ,[],[],[]⟩ Tryz.f155 (ij (.agg (Ty.prod Ty.bool (Ty.sl yi))) x) (iq (.agg (Ty.prod Ty.bool (Ty.sl yi))) x++ [.bX S]) (wO (.agg (Ty.prod Ty.bool (Ty.sl yi))) S Q)):= .eq (XE x S Q) (have hp:=Eq.mp (oU.eq_1 x) hp;have hq:=Eq.mp (congrArg Q (p9.eq_1 x)) hq;
 (And.intro hp (pL (Q:=Q) hq fun y hq=>(And.intro rfl hq))))
abbrev Gm:bB:=⟨(.agg (Ty.prod Ty.bool (Ty.sl yi))),(.agg (Ty.prod Ty.bool (Ty.sl yi))),oU,p9⟩
theorem XC:ah Tryz.prog 155 (kG Gm):=ah.fnR (fn:=Tryz.f155) ax Bp mixed (by kernel_rfl) (by kernel_rfl) (.agg (Ty.prod Ty.bool (Ty.sl yi))) (.agg (Ty.prod Ty.bool (Ty.sl yi))) oU p9 fun x hp S=>⟨_,_,(av.nil _ _),au.nil,XB x S (fun y=>y=p9 x) hp rfl⟩
def v7:List (Nat×Ev.Spec):=(155,kG Gm)::v5
theorem Bq:ae Tryz.prog v7:=ae.add (fn:=Tryz.f155) (by kernel_rfl) XC Bp
def qO (x:aY):(Bool×List Int):=
 (if ((x.1.1==x.2.1)=true) then
 (aq (vC x) fun y=>
 (aq (gh (x.1.1,y)) fun aB=>
 aB)) else
 (aq (Gn x) fun y=>
 (if (y>=0) then
 (aq (nY x) fun aB=>
 (aq (gh (x.1.1,aB)) fun y_2=>
 y_2)) else
 (aq (nY (x.2,x.1)) fun aB=>
 (aq (gh (x.2.1,aB)) fun y_2=>
 y_2)))))
def lJ (x:aY):Prop:=
 ((((x.1.1==x.2.1)=true)->
 ((vD x)/\
 az (vC x) fun y=>
 (b8 (x.1.1,y))))/\
 (¬((x.1.1==x.2.1)=true)->
 ((vF x)/\
 az (Gn x) fun y=>
 (((y>=0)->
 ((lI x)/\
 az (nY x) fun aB=>
 (b8 (x.1.1,aB))))/\
 (¬(y>=0)->
 ((lI (x.2,x.1))/\
 az (nY (x.2,x.1)) fun aB=>
 (b8 (x.2.1,aB))))))))
theorem ae8 (x:aY) (S:Nat->Prop) (Q:(Bool×List Int)->Prop):Na ⟨tt,v7,cZ,[],[],[]⟩ Tryz.f154 (ij (.pair (.agg (Ty.prod Ty.bool (Ty.sl yi))) (.agg (Ty.prod Ty.bool (Ty.sl yi)))) x) (iq (.pair (.agg (Ty.prod Ty.bool (Ty.sl yi))) (.agg (Ty.prod Ty.bool (Ty.sl yi)))) x++ [.bX S]) (wO (.agg (Ty.prod Ty.bool (Ty.sl yi))) S Q)=
 (cB (x.1.1==x.2.1)
 ((vD x)/\ ∀y:(List Int),y=(vC x)->
 ((b8 (x.1.1,y))/\ ∀aB:(Bool×List Int),aB=(gh (x.1.1,y))->
 ((S=S)/\
 (Q aB))))
 ((vF x)/\ ∀y:Int,y=(Gn x)->
 (cB (decide (y>=(0:Int)))
 ((lI x)/\ ∀aB:(List Int),aB=(nY x)->
 ((b8 (x.1.1,aB))/\ ∀y_2:(Bool×List Int),y_2=(gh (x.1.1,aB))->
 ((S=S)/\
 (Q y_2))))
 ((lI (x.2,x.1))/\ ∀aB:(List Int),aB=(nY (x.2,x.1))->
 ((b8 (x.2.1,aB))/\ ∀y_2:(Bool×List Int),y_2=(gh (x.2.1,aB))->
 ((S=S)/\
 (Q y_2))))))):=by kernel_rfl
theorem ae6 (x:aY) (S:Nat->Prop) (Q:(Bool×List Int)->Prop) (hp:lJ x) (hq:Q (qO x)):Vc (Na ⟨tt,v7,cZ,[],[],[]⟩ Tryz.f154 (ij (.pair (.agg (Ty.prod Ty.bool (Ty.sl yi))) (.agg (Ty.prod Ty.bool (Ty.sl yi)))) x) (iq (.pair (.agg (Ty.prod Ty.bool (Ty.sl yi))) (.agg (Ty.prod Ty.bool (Ty.sl yi)))) x++ [.bX S]) (wO (.agg (Ty.prod Ty.bool (Ty.sl yi))) S Q)):= .eq (ae8 x S Q) (have hp:=Eq.mp (lJ.eq_1 x) hp;have hq:=Eq.mp (congrArg Q (qO.eq_1 x)) hq;
 (FO (Q:=Q) hq (fun c hq=>have hp:=(hp.1 c);(And.intro hp.1 (oK (Q:=Q) hp.2 hq fun y hp hq=>(And.intro hp (pL (Q:=Q) hq fun aB hq=>(And.intro rfl hq)))))) (fun c hq=>have hp:=(hp.2 c);(And.intro hp.1 (oK (Q:=Q) hp.2 hq fun y hp hq=>(CG (Q:=Q) hq (fun c hq=>have hp:=(hp.1 c);(And.intro hp.1 (oK (Q:=Q) hp.2 hq fun aB hp hq=>(And.intro hp (pL (Q:=Q) hq fun y_2 hq=>(And.intro rfl hq)))))) (fun c hq=>have hp:=(hp.2 c);(And.intro hp.1 (oK (Q:=Q) hp.2 hq fun aB hp hq=>(And.intro hp (pL (Q:=Q) hq fun y_2 hq=>(And.intro rfl hq))))))))))))
abbrev Jw:bB:=⟨(.pair (.agg (Ty.prod Ty.bool (Ty.sl yi))) (.agg (Ty.prod Ty.bool (Ty.sl yi)))),(.agg (Ty.prod Ty.bool (Ty.sl yi))),lJ,qO⟩
theorem ae7:ah Tryz.prog 154 (kG Jw):=ah.fnR (fn:=Tryz.f154) ax Bq mixed (by kernel_rfl) (by kernel_rfl) (.pair (.agg (Ty.prod Ty.bool (Ty.sl yi))) (.agg (Ty.prod Ty.bool (Ty.sl yi)))) (.agg (Ty.prod Ty.bool (Ty.sl yi))) lJ qO fun x hp S=>⟨_,_,(av.nil _ _),au.nil,ae6 x S (fun y=>y=qO x) hp rfl⟩
def uB:List (Nat×Ev.Spec):=(154,kG Jw)::v7
theorem yO:ae Tryz.prog uB:=ae.add (fn:=Tryz.f154) (by kernel_rfl) ae7 Bq
def eL (x:Int) (S:Nat->Prop) (s:(Int×List Int)):AS:=⟨(vi s.1::D:: .v (.one (.ptr 1 0)):: .v (.one (.full 2))::vb (decide (x<0))::D::D::D::D::D::D::D::D::D::D::D::D::D::D::D::D::D::D::D::D:: []),[.bX S,.cells [.raw (.bool false),.raw (.slice none 0 0)] 164,.row yi s.2 2]⟩
def mo (x:Int) (S:Nat->Prop) (r:(List Int)) (K:Exit->AS->Prop):Prop:=K .normal ⟨(D::D:: .v (.one (.ptr 1 0)):: .v (.one (.full 2))::vb (decide (x<0))::D::D::D::D::D::D::D::D::D::D::D::D::D::D::D::D::D::D::D::D:: []),[.bX S,.cells [.raw (.bool false),.raw (.slice none 0 0)] 164,.row yi r 2]⟩
def cu (x:Int) (s:(Int×List Int)):(Int×List Int)⊕(List Int):=
 (if ((s.1 !=0)=true) then
 (if ((Int.tmod s.1 10)<0) then
 (Sum.inl ((aj (Int.tdiv s.1 10)),(s.2++ [(aj (0- (Int.tmod s.1 10)))]))) else
 (Sum.inl ((aj (Int.tdiv s.1 10)),(s.2++ [(Int.tmod s.1 10)])))) else
 (Sum.inr (s.2)))
def gW (x:Int) (s:(Int×List Int)):Prop:=
 (((s.1 !=0)=true)->
 ((((Int.tmod s.1 10)<0)->
 ((s.2.length+1)<1099511627776))/\
 (¬((Int.tmod s.1 10)<0)->
 ((s.2.length+1)<1099511627776))))
def s8 (x:Int) (S:Nat->Prop):bC:=pB (eL x S) (cu x) (gW x) (mo x S)
theorem NB (x:Int) (S:Nat->Prop) (s:(Int×List Int)) (K:Exit->AS->Prop) (KN:AS->Prop):cy ⟨tt,uB,cZ,[],[],[]⟩ (cI (bR 0 (bn Tryz.f112))) (eL x S s) (KB 0 K KN)=
 (cB (s.1 !=(0:Int))
 (cB (decide ((Int.tmod s.1 (10:Int))<(0:Int)))
 (ob (decide ((s.2.length+1)<1099511627776))
 (KB 0 K KN .normal ⟨(vi (aj (Int.tdiv s.1 (10:Int)))::D:: .v (.one (.ptr 1 0)):: .v (.one (.full 4))::vb (decide (x<(0:Int)))::vi (aj ((0:Int)- (Int.tmod s.1 (10:Int))))::D::D::vi s.1::vb (s.1 !=(0:Int))::vi s.1::vi (Int.tmod s.1 (10:Int))::vi (Int.tmod s.1 (10:Int))::vb (decide ((Int.tmod s.1 (10:Int))<(0:Int)))::vi (Int.tmod s.1 (10:Int))::vi (aj ((0:Int)- (Int.tmod s.1 (10:Int)))):: .v (.one (.full 2))::vi (aj ((0:Int)- (Int.tmod s.1 (10:Int)))):: .v (.one (.sl 3 0 1 1)):: .v (.one (.full 4))::vi s.1::vi (aj (Int.tdiv s.1 (10:Int)))::D::D::D:: []),[.bX S,.cells [.raw (.bool false),.raw (.slice none 0 0)] 164,.gone,.cells [ci (aj ((0:Int)- (Int.tmod s.1 (10:Int))))] 3,.row yi (s.2++ [(aj ((0:Int)- (Int.tmod s.1 (10:Int))))]) 2]⟩))
 (ob (decide ((s.2.length+1)<1099511627776))
 (KB 0 K KN .normal ⟨(vi (aj (Int.tdiv s.1 (10:Int)))::D:: .v (.one (.ptr 1 0)):: .v (.one (.full 4))::vb (decide (x<(0:Int)))::vi (Int.tmod s.1 (10:Int))::D::D::vi s.1::vb (s.1 !=(0:Int))::vi s.1::vi (Int.tmod s.1 (10:Int))::vi (Int.tmod s.1 (10:Int))::vb (decide ((Int.tmod s.1 (10:Int))<(0:Int)))::D::D:: .v (.one (.full 2))::vi (Int.tmod s.1 (10:Int)):: .v (.one (.sl 3 0 1 1)):: .v (.one (.full 4))::vi s.1::vi (aj (Int.tdiv s.1 (10:Int)))::D::D::D:: []),[.bX S,.cells [.raw (.bool false),.raw (.slice none 0 0)] 164,.gone,.cells [ci (Int.tmod s.1 (10:Int))] 3,.row yi (s.2++ [(Int.tmod s.1 (10:Int))]) 2]⟩)))
 (KB 0 K KN (.exit 0) ⟨(vi s.1::D:: .v (.one (.ptr 1 0)):: .v (.one (.full 2))::vb (decide (x<(0:Int)))::D::D::D::vi s.1::vb (s.1 !=(0:Int))::D::D::D::D::D::D::D::D::D::D::D::D::D::D::D:: []),[.bX S,.cells [.raw (.bool false),.raw (.slice none 0 0)] 164,.row yi s.2 2]⟩)):=by kernel_rfl
theorem NA (x:Int) (S:Nat->Prop): ∀st K,s8 x S st K->Vc (cy ⟨tt,uB,cZ,[],[],[]⟩ (.loop (cI (bR 0 (bn Tryz.f112)))) st (jm 0 (iB K))):=fX fun s K KN hp hq=> .eq (NB x S s K KN) (have hp:=Eq.mp (gW.eq_1 x s) hp;have hq:=Eq.mp (congrArg (cz (eL x S) (mo x S) K KN) (cu.eq_1 x s)) hq;
 (FO (Q:=(cz (eL x S) (mo x S) K KN)) hq (fun c hq=>have hp:=(hp c);(CG (Q:=(cz (eL x S) (mo x S) K KN)) hq (fun c hq=>have hp:=(hp.1 c);(b7 (decide_eq_true hp) (Exists.intro (eL x S ((aj (Int.tdiv s.1 (10:Int))),(s.2++ [(aj ((0:Int)- (Int.tmod s.1 (10:Int))))]))) (And.intro (bP (π:= [.same 0,.same 1,.same 4]) (And.intro rfl (And.intro rfl (And.intro rfl (And.intro rfl trivial)))) (And.intro (ai rfl rfl) (And.intro (ai rfl rfl) (And.intro (ai rfl rfl) trivial))) rfl) hq)))) (fun c hq=>have hp:=(hp.2 c);(b7 (decide_eq_true hp) (Exists.intro (eL x S ((aj (Int.tdiv s.1 (10:Int))),(s.2++ [(Int.tmod s.1 (10:Int))]))) (And.intro (bP (π:= [.same 0,.same 1,.same 4]) (And.intro rfl (And.intro rfl (And.intro rfl (And.intro rfl trivial)))) (And.intro (ai rfl rfl) (And.intro (ai rfl rfl) (And.intro (ai rfl rfl) trivial))) rfl) hq)))))) (fun c hq=>(Exists.intro ⟨(D::D:: .v (.one (.ptr 1 0)):: .v (.one (.full 2))::vb (decide (x<(0:Int)))::D::D::D::D::D::D::D::D::D::D::D::D::D::D::D::D::D::D::D::D:: []),[.bX S,.cells [.raw (.bool false),.raw (.slice none 0 0)] 164,.row yi s.2 2]⟩ (And.intro (bP (π:= [.same 0,.same 1,.same 2]) (And.intro rfl (And.intro rfl (And.intro rfl trivial))) (And.intro (ai rfl rfl) (And.intro (ai rfl rfl) (And.intro (ai rfl rfl) trivial))) rfl) hq)))))
def cL (x:Int):(Bool×List Int):=
 (aq (run (cu x) (x,[])) fun r=>
 (aq (gh ((decide (x<0)),r)) fun y=>
 y))
def cM (x:Int):Prop:=
 (Term (cu x) (gW x) (x,[])/\
 az (run (cu x) (x,[])) fun r=>
 (b8 ((decide (x<0)),r)))
theorem XA (x:Int) (S:Nat->Prop) (Q:(Bool×List Int)->Prop):Na ⟨tt,uB,cZ,[(0,s8 x S)],[],[]⟩ Tryz.f112 (ij (.one yi) x) (iq (.one yi) x++ [.bX S]) (wO (.agg (Ty.prod Ty.bool (Ty.sl yi))) S Q)=
 (Exists fun s0:(Int×List Int)=>pN ⟨(vi x::aH:: .v (.one (.ptr 1 0)):: .v (.one (.raw (.slice none 0 0)))::vb (decide (x<(0:Int)))::aH::vi x::vb (decide (x<(0:Int)))::aH::aH::aH::aH::aH::aH::aH::aH::aH::aH::aH::aH::aH::aH::aH::aH::aH:: []),[.bX S,.cells [.raw (.bool false),.raw (.slice none 0 0)] 164]⟩ (eL x S s0)/\ Term (cu x) (gW x) s0/\ ∀r:(List Int),r=run (cu x) s0->
 ((b8 ((decide (x<(0:Int))),r))/\ ∀y:(Bool×List Int),y=(gh ((decide (x<(0:Int))),r))->
 ((S=S)/\
 (Q y)))):=by kernel_rfl
theorem Xy (x:Int) (S:Nat->Prop) (Q:(Bool×List Int)->Prop) (hp:cM x) (hq:Q (cL x)):Vc (Na ⟨tt,uB,cZ,[(0,s8 x S)],[],[]⟩ Tryz.f112 (ij (.one yi) x) (iq (.one yi) x++ [.bX S]) (wO (.agg (Ty.prod Ty.bool (Ty.sl yi))) S Q)):= .eq (XA x S Q) (have hp:=Eq.mp (cM.eq_1 x) hp;have hq:=Eq.mp (congrArg Q (cL.eq_1 x)) hq;
 (Exists.intro (x,[]) (And.intro (bP (π:= [.same 0,.same 1,.nil]) (And.intro rfl (And.intro rfl (And.intro rfl (And.intro rfl trivial)))) (And.intro (ai rfl rfl) (And.intro (ai rfl rfl) (And.intro ah0 trivial))) rfl) (And.intro hp.1 (oK (Q:=Q) hp.2 hq fun r hp hq=>(And.intro hp (pL (Q:=Q) hq fun y hq=>(And.intro rfl hq))))))))
abbrev jY:bB:=⟨(.one yi),(.agg (Ty.prod Ty.bool (Ty.sl yi))),cM,cL⟩
theorem Xz:ah Tryz.prog 112 (kG jY):=ah.fnR (fn:=Tryz.f112) ax yO mixed (by kernel_rfl) (by kernel_rfl) (.one yi) (.agg (Ty.prod Ty.bool (Ty.sl yi))) cM cL fun x hp S=>⟨_,_,(av.nil _ _),(au.JT ax (ae.bD yO (av.nil _ _)) mixed au.nil (by kernel_rfl) (by kernel_rfl) (NA x S)),Xy x S (fun y=>y=cL x) hp rfl⟩
def gq:List (Nat×Ev.Spec):=(112,kG jY)::uB
theorem kE:ae Tryz.prog gq:=ae.add (fn:=Tryz.f112) (by kernel_rfl) Xz yO
def dH (x:aY) (S:Nat->Prop) (s:(List Int×I2)):AS:=⟨(D::D:: .v (.one (.ptr 1 0)):: .v (.one (.ptr 3 0)):: .v (.one (.ptr 5 0)):: .v (.one (.full 6))::vi s.2.1::vi s.2.2::D::D::D::D::D::D::D::D::D::D::D::D::D::D::D::D::D::D::D::D::D::D::D::D::D::D::D::D::D::D::D::D::D::D::D::D::D::D::D::D::D::D::D::D::D::D::D::D::D::D::D::D::D::D::D::D::D::D::D::D::D::D::D::D::D::D::D::D::D::D::D::D::D::D::D::D::D::D::D::D::D::D::D::D::D::D::D::D::D::D::D::D::D::D::D::D::D::D::D::D::D::D::D::D::D::D::D::D::D::D::D::D::D::D::D::D::D:: []),[.bX S,.cells [.raw (.bool x.1.1),.full 2] 164,.row yi x.1.2 0,.cells [.raw (.bool x.2.1),.full 4] 164,.row yi x.2.2 0,.cells [.raw (.bool false),.raw (.slice none 0 0)] 164,.row yi s.1 2]⟩
def gY (x:aY) (S:Nat->Prop) (r:(List Int×Int)) (K:Exit->AS->Prop):Prop:=K .normal ⟨(D::D:: .v (.one (.ptr 1 0)):: .v (.one (.ptr 3 0)):: .v (.one (.ptr 5 0)):: .v (.one (.full 6))::vi r.2::D::D::D::D::D::D::D::D::D::D::D::D::D::D::D::D::D::D::D::D::D::D::D::D::D::D::D::D::D::D::D::D::D::D::D::D::D::D::D::D::D::D::D::D::D::D::D::D::D::D::D::D::D::D::D::D::D::D::D::D::D::D::D::D::D::D::D::D::D::D::D::D::D::D::D::D::D::D::D::D::D::D::D::D::D::D::D::D::D::D::D::D::D::D::D::D::D::D::D::D::D::D::D::D::D::D::D::D::D::D::D::D::D::D::D::D::D::D:: []),[.bX S,.cells [.raw (.bool x.1.1),.full 2] 164,.row yi x.1.2 0,.cells [.raw (.bool x.2.1),.full 4] 164,.row yi x.2.2 0,.cells [.raw (.bool false),.raw (.slice none 0 0)] 164,.row yi r.1 2]⟩
def cw (x:aY) (s:(List Int×I2)):(List Int×I2)⊕(List Int×Int):=
 (if (s.2.2<(x.2.2.length:Int)) then
 (aq (List.set s.1 (Int.toNat (aj (s.2.1+s.2.2))) (aj ((s.1.getD (Int.toNat (aj (s.2.1+s.2.2))) 0)+(aj ((x.1.2.getD s.2.1.toNat 0)*(x.2.2.getD s.2.2.toNat 0)))))) fun y=>
 (aq (List.set y (Int.toNat (aj ((aj (s.2.1+s.2.2))+1))) (aj ((y.getD (Int.toNat (aj ((aj (s.2.1+s.2.2))+1))) 0)+(aj (Int.tdiv (y.getD (Int.toNat (aj (s.2.1+s.2.2))) 0) 10))))) fun aB=>
 (aq (List.set aB (Int.toNat (aj (s.2.1+s.2.2))) (Int.tmod (aB.getD (Int.toNat (aj (s.2.1+s.2.2))) 0) 10)) fun y_2=>
 (Sum.inl (y_2,s.2.1,(aj (s.2.2+1))))))) else
 (Sum.inr ((s.1,s.2.1))))
def fa (x:aY) (s:(List Int×I2)):Prop:=
 ((s.2.2<(x.2.2.length:Int))->
 (((0<=(aj (s.2.1+s.2.2)))/\ ((aj (s.2.1+s.2.2))<(s.1.length:Int)))/\
 (((Int.toNat (aj (s.2.1+s.2.2)))<s.1.length)/\
 (((Int.toNat (aj (s.2.1+s.2.2)))<s.1.length)/\
 (((0<=s.2.1)/\ (s.2.1<(x.1.2.length:Int)))/\
 ((s.2.1.toNat<x.1.2.length)/\
 ((s.2.1.toNat<x.1.2.length)/\
 (((0<=s.2.2)/\ (s.2.2<(x.2.2.length:Int)))/\
 ((s.2.2.toNat<x.2.2.length)/\
 ((s.2.2.toNat<x.2.2.length)/\
 (((0<=(aj (s.2.1+s.2.2)))/\ ((aj (s.2.1+s.2.2))<(s.1.length:Int)))/\
 (((Int.toNat (aj (s.2.1+s.2.2)))<s.1.length)/\
 (((Int.toNat (aj (s.2.1+s.2.2)))<s.1.length)/\
 (az (List.set s.1 (Int.toNat (aj (s.2.1+s.2.2))) (aj ((s.1.getD (Int.toNat (aj (s.2.1+s.2.2))) 0)+(aj ((x.1.2.getD s.2.1.toNat 0)*(x.2.2.getD s.2.2.toNat 0)))))) fun y=>
 (((0<=(aj ((aj (s.2.1+s.2.2))+1)))/\ ((aj ((aj (s.2.1+s.2.2))+1))<(y.length:Int)))/\
 (((Int.toNat (aj ((aj (s.2.1+s.2.2))+1)))<y.length)/\
 (((Int.toNat (aj ((aj (s.2.1+s.2.2))+1)))<y.length)/\
 (((0<=(aj (s.2.1+s.2.2)))/\ ((aj (s.2.1+s.2.2))<(y.length:Int)))/\
 (((Int.toNat (aj (s.2.1+s.2.2)))<y.length)/\
 (((Int.toNat (aj (s.2.1+s.2.2)))<y.length)/\
 (((0<=(aj ((aj (s.2.1+s.2.2))+1)))/\ ((aj ((aj (s.2.1+s.2.2))+1))<(y.length:Int)))/\
 (((Int.toNat (aj ((aj (s.2.1+s.2.2))+1)))<y.length)/\
 (((Int.toNat (aj ((aj (s.2.1+s.2.2))+1)))<y.length)/\
 (az (List.set y (Int.toNat (aj ((aj (s.2.1+s.2.2))+1))) (aj ((y.getD (Int.toNat (aj ((aj (s.2.1+s.2.2))+1))) 0)+(aj (Int.tdiv (y.getD (Int.toNat (aj (s.2.1+s.2.2))) 0) 10))))) fun aB=>
 (((0<=(aj (s.2.1+s.2.2)))/\ ((aj (s.2.1+s.2.2))<(aB.length:Int)))/\
 (((Int.toNat (aj (s.2.1+s.2.2)))<aB.length)/\
 (((Int.toNat (aj (s.2.1+s.2.2)))<aB.length)/\
 (((0<=(aj (s.2.1+s.2.2)))/\ ((aj (s.2.1+s.2.2))<(aB.length:Int)))/\
 (((Int.toNat (aj (s.2.1+s.2.2)))<aB.length)/\
 ((Int.toNat (aj (s.2.1+s.2.2)))<aB.length))))))))))))))))))))))))))))))
def ku (x:aY) (S:Nat->Prop):bC:=pB (dH x S) (cw x) (fa x) (gY x S)
def gb (x:aY) (S:Nat->Prop) (s:(List Int×Int)):AS:=⟨(D::D:: .v (.one (.ptr 1 0)):: .v (.one (.ptr 3 0)):: .v (.one (.ptr 5 0)):: .v (.one (.full 6))::vi s.2::D::D::D::D::D::D::D::D::D::D::D::D::D::D::D::D::D::D::D::D::D::D::D::D::D::D::D::D::D::D::D::D::D::D::D::D::D::D::D::D::D::D::D::D::D::D::D::D::D::D::D::D::D::D::D::D::D::D::D::D::D::D::D::D::D::D::D::D::D::D::D::D::D::D::D::D::D::D::D::D::D::D::D::D::D::D::D::D::D::D::D::D::D::D::D::D::D::D::D::D::D::D::D::D::D::D::D::D::D::D::D::D::D::D::D::D::D::D:: []),[.bX S,.cells [.raw (.bool x.1.1),.full 2] 164,.row yi x.1.2 0,.cells [.raw (.bool x.2.1),.full 4] 164,.row yi x.2.2 0,.cells [.raw (.bool false),.raw (.slice none 0 0)] 164,.row yi s.1 2]⟩
def my (x:aY) (S:Nat->Prop) (r:(List Int)) (K:Exit->AS->Prop):Prop:=K .normal ⟨(D::D:: .v (.one (.ptr 1 0)):: .v (.one (.ptr 3 0)):: .v (.one (.ptr 5 0)):: .v (.one (.full 6))::D::D::D::D::D::D::D::D::D::D::D::D::D::D::D::D::D::D::D::D::D::D::D::D::D::D::D::D::D::D::D::D::D::D::D::D::D::D::D::D::D::D::D::D::D::D::D::D::D::D::D::D::D::D::D::D::D::D::D::D::D::D::D::D::D::D::D::D::D::D::D::D::D::D::D::D::D::D::D::D::D::D::D::D::D::D::D::D::D::D::D::D::D::D::D::D::D::D::D::D::D::D::D::D::D::D::D::D::D::D::D::D::D::D::D::D::D::D::D:: []),[.bX S,.cells [.raw (.bool x.1.1),.full 2] 164,.row yi x.1.2 0,.cells [.raw (.bool x.2.1),.full 4] 164,.row yi x.2.2 0,.cells [.raw (.bool false),.raw (.slice none 0 0)] 164,.row yi r 2]⟩
def bT (x:aY) (s:(List Int×Int)):(List Int×Int)⊕(List Int):=
 (if (s.2<(x.1.2.length:Int)) then
 (aq (run (cw x) (s.1,s.2,0)) fun r=>
 (Sum.inl (r.1,(aj (r.2+1))))) else
 (Sum.inr (s.1)))
def e9 (x:aY) (s:(List Int×Int)):Prop:=
 ((s.2<(x.1.2.length:Int))->
 (Term (cw x) (fa x) (s.1,s.2,0)))
def tg (x:aY) (S:Nat->Prop):bC:=pB (gb x S) (bT x) (e9 x) (my x S)
def eM (x:aY) (S:Nat->Prop) (s:(List Int×Int)):AS:=⟨(D::D:: .v (.one (.ptr 1 0)):: .v (.one (.ptr 3 0)):: .v (.one (.ptr 5 0)):: .v (.one (.full 6))::D::D::vi s.2::D::D::D::D::D::D::D::D::D::D::D::D::D::D::D::D::D::D::D::D::D::D::D::D::D::D::D::D::D::D::D::D::D::D::D::D::D::D::D::D::D::D::D::D::D::D::D::D::D::D::D::D::D::D::D::D::D::D::D::D::D::D::D::D::D::D::D::D::D::D::D::D::D::D::D::D::D::D::D::D::D::D::D::D::D::D::D::D::D::D::D::D::D::D::D::D::D::D::D::D::D::D::D::D::D::D::D::D::D::D::D::D::D::D::D::D:: []),[.bX S,.cells [.raw (.bool x.1.1),.full 2] 164,.row yi x.1.2 0,.cells [.raw (.bool x.2.1),.full 4] 164,.row yi x.2.2 0,.cells [.raw (.bool false),.raw (.slice none 0 0)] 164,.row yi s.1 2]⟩
def jH (x:aY) (S:Nat->Prop) (r:(List Int)) (K:Exit->AS->Prop):Prop:=K .normal ⟨(D::D:: .v (.one (.ptr 1 0)):: .v (.one (.ptr 3 0)):: .v (.one (.ptr 5 0)):: .v (.one (.full 6))::D::D::D::D::D::D::D::D::D::D::D::D::D::D::D::D::D::D::D::D::D::D::D::D::D::D::D::D::D::D::D::D::D::D::D::D::D::D::D::D::D::D::D::D::D::D::D::D::D::D::D::D::D::D::D::D::D::D::D::D::D::D::D::D::D::D::D::D::D::D::D::D::D::D::D::D::D::D::D::D::D::D::D::D::D::D::D::D::D::D::D::D::D::D::D::D::D::D::D::D::D::D::D::D::D::D::D::D::D::D::D::D::D::D::D::D::D::D::D:: []),[.bX S,.cells [.raw (.bool x.1.1),.full 2] 164,.row yi x.1.2 0,.cells [.raw (.bool x.2.1),.full 4] 164,.row yi x.2.2 0,.cells [.raw (.bool false),.raw (.slice none 0 0)] 164,.row yi r 2]⟩
def bU (x:aY) (s:(List Int×Int)):(List Int×Int)⊕(List Int):=
 (if ((aj (s.2+1))<(s.1.length:Int)) then
 (aq (List.set s.1 (Int.toNat (aj (s.2+1))) (aj ((s.1.getD (Int.toNat (aj (s.2+1))) 0)+(aj (Int.tdiv (s.1.getD s.2.toNat 0) 10))))) fun y=>
 (aq (List.set y s.2.toNat (Int.tmod (y.getD s.2.toNat 0) 10)) fun aB=>
 (Sum.inl (aB,(aj (s.2+1)))))) else
 (Sum.inr (s.1)))
def fb (x:aY) (s:(List Int×Int)):Prop:=
 (((aj (s.2+1))<(s.1.length:Int))->
 (((0<=(aj (s.2+1)))/\ ((aj (s.2+1))<(s.1.length:Int)))/\
 (((Int.toNat (aj (s.2+1)))<s.1.length)/\
 (((Int.toNat (aj (s.2+1)))<s.1.length)/\
 (((0<=s.2)/\ (s.2<(s.1.length:Int)))/\
 ((s.2.toNat<s.1.length)/\
 ((s.2.toNat<s.1.length)/\
 (((0<=(aj (s.2+1)))/\ ((aj (s.2+1))<(s.1.length:Int)))/\
 (((Int.toNat (aj (s.2+1)))<s.1.length)/\
 (((Int.toNat (aj (s.2+1)))<s.1.length)/\
 (az (List.set s.1 (Int.toNat (aj (s.2+1))) (aj ((s.1.getD (Int.toNat (aj (s.2+1))) 0)+(aj (Int.tdiv (s.1.getD s.2.toNat 0) 10))))) fun y=>
 (((0<=s.2)/\ (s.2<(y.length:Int)))/\
 ((s.2.toNat<y.length)/\
 ((s.2.toNat<y.length)/\
 (((0<=s.2)/\ (s.2<(y.length:Int)))/\
 ((s.2.toNat<y.length)/\
 (s.2.toNat<y.length)))))))))))))))))
def gg (x:aY) (S:Nat->Prop):bC:=pB (eM x S) (bU x) (fb x) (jH x S)
theorem NG (x:aY) (S:Nat->Prop) (s:(List Int×I2)) (K:Exit->AS->Prop) (KN:AS->Prop):cy ⟨tt,gq,cZ,[(4,gg x S)],[],[]⟩ (cI (bR 2 (bn Tryz.f111))) (dH x S s) (KB 2 K KN)=
 (cB (decide (s.2.2<(x.2.2.length:Int)))
 (ob ((decide ((0:Int)<=(aj (s.2.1+s.2.2))))&&(decide ((aj (s.2.1+s.2.2))<(s.1.length:Int))))
 (ob (decide ((Int.toNat (aj (s.2.1+s.2.2)))<s.1.length))
 (ob (decide ((Int.toNat (aj (s.2.1+s.2.2)))<s.1.length))
 (ob ((decide ((0:Int)<=s.2.1))&&(decide (s.2.1<(x.1.2.length:Int))))
 (ob (decide (s.2.1.toNat<x.1.2.length))
 (ob (decide (s.2.1.toNat<x.1.2.length))
 (ob ((decide ((0:Int)<=s.2.2))&&(decide (s.2.2<(x.2.2.length:Int))))
 (ob (decide (s.2.2.toNat<x.2.2.length))
 (ob (decide (s.2.2.toNat<x.2.2.length))
 (ob ((decide ((0:Int)<=(aj (s.2.1+s.2.2))))&&(decide ((aj (s.2.1+s.2.2))<(s.1.length:Int))))
 (ob (decide ((Int.toNat (aj (s.2.1+s.2.2)))<s.1.length))
 (ob (decide ((Int.toNat (aj (s.2.1+s.2.2)))<s.1.length))
 (True/\ ∀y:(List Int),y=(List.set s.1 (Int.toNat (aj (s.2.1+s.2.2))) (aj ((s.1.getD (Int.toNat (aj (s.2.1+s.2.2))) (0:Int))+(aj ((x.1.2.getD s.2.1.toNat (0:Int))*(x.2.2.getD s.2.2.toNat (0:Int)))))))->
 (ob ((decide ((0:Int)<=(aj ((aj (s.2.1+s.2.2))+(1:Int)))))&&(decide ((aj ((aj (s.2.1+s.2.2))+(1:Int)))<(y.length:Int))))
 (ob (decide ((Int.toNat (aj ((aj (s.2.1+s.2.2))+(1:Int))))<y.length))
 (ob (decide ((Int.toNat (aj ((aj (s.2.1+s.2.2))+(1:Int))))<y.length))
 (ob ((decide ((0:Int)<=(aj (s.2.1+s.2.2))))&&(decide ((aj (s.2.1+s.2.2))<(y.length:Int))))
 (ob (decide ((Int.toNat (aj (s.2.1+s.2.2)))<y.length))
 (ob (decide ((Int.toNat (aj (s.2.1+s.2.2)))<y.length))
 (ob ((decide ((0:Int)<=(aj ((aj (s.2.1+s.2.2))+(1:Int)))))&&(decide ((aj ((aj (s.2.1+s.2.2))+(1:Int)))<(y.length:Int))))
 (ob (decide ((Int.toNat (aj ((aj (s.2.1+s.2.2))+(1:Int))))<y.length))
 (ob (decide ((Int.toNat (aj ((aj (s.2.1+s.2.2))+(1:Int))))<y.length))
 (True/\ ∀aB:(List Int),aB=(List.set y (Int.toNat (aj ((aj (s.2.1+s.2.2))+(1:Int)))) (aj ((y.getD (Int.toNat (aj ((aj (s.2.1+s.2.2))+(1:Int)))) (0:Int))+(aj (Int.tdiv (y.getD (Int.toNat (aj (s.2.1+s.2.2))) (0:Int)) (10:Int))))))->
 (ob ((decide ((0:Int)<=(aj (s.2.1+s.2.2))))&&(decide ((aj (s.2.1+s.2.2))<(aB.length:Int))))
 (ob (decide ((Int.toNat (aj (s.2.1+s.2.2)))<aB.length))
 (ob (decide ((Int.toNat (aj (s.2.1+s.2.2)))<aB.length))
 (ob ((decide ((0:Int)<=(aj (s.2.1+s.2.2))))&&(decide ((aj (s.2.1+s.2.2))<(aB.length:Int))))
 (ob (decide ((Int.toNat (aj (s.2.1+s.2.2)))<aB.length))
 (ob (decide ((Int.toNat (aj (s.2.1+s.2.2)))<aB.length))
 (True/\ ∀y_2:(List Int),y_2=(List.set aB (Int.toNat (aj (s.2.1+s.2.2))) (Int.tmod (aB.getD (Int.toNat (aj (s.2.1+s.2.2))) (0:Int)) (10:Int)))->
 (KB 2 K KN .normal ⟨(D::D:: .v (.one (.ptr 1 0)):: .v (.one (.ptr 3 0)):: .v (.one (.ptr 5 0)):: .v (.one (.full 6))::vi s.2.1::vi (aj (s.2.2+(1:Int)))::D::D::D::D::D::D::D::D::D::D::D::D::D::D::D::D::D::vi s.2.2:: .v (.one (.ptr 3 1)):: .v (.one (.full 4))::vi (x.2.2.length:Int)::vb (decide (s.2.2<(x.2.2.length:Int)))::vi s.2.2::vi (aj (s.2.2+(1:Int))):: .v (.one (.full 6))::vi s.2.1::vi s.2.2::vi (aj (s.2.1+s.2.2)):: .v (.one (.full 6))::vi s.2.1::vi s.2.2::vi (aj (s.2.1+s.2.2)):: .v (.one (.br 6 (Int.toNat (aj (s.2.1+s.2.2))) 0))::vi (s.1.getD (Int.toNat (aj (s.2.1+s.2.2))) (0:Int)):: .v (.one (.ptr 1 1)):: .v (.one (.full 2))::vi s.2.1:: .v (.one (.br 2 s.2.1.toNat 0))::vi (x.1.2.getD s.2.1.toNat (0:Int)):: .v (.one (.ptr 3 1)):: .v (.one (.full 4))::vi s.2.2:: .v (.one (.br 4 s.2.2.toNat 0))::vi (x.2.2.getD s.2.2.toNat (0:Int))::vi (aj ((x.1.2.getD s.2.1.toNat (0:Int))*(x.2.2.getD s.2.2.toNat (0:Int))))::vi (aj ((s.1.getD (Int.toNat (aj (s.2.1+s.2.2))) (0:Int))+(aj ((x.1.2.getD s.2.1.toNat (0:Int))*(x.2.2.getD s.2.2.toNat (0:Int)))))):: .v (.one (.br 6 (Int.toNat (aj (s.2.1+s.2.2))) 0)):: .v (.one (.full 6))::vi s.2.1::vi s.2.2::vi (aj (s.2.1+s.2.2))::vi (aj ((aj (s.2.1+s.2.2))+(1:Int))):: .v (.one (.full 6))::vi s.2.1::vi s.2.2::vi (aj (s.2.1+s.2.2))::vi (aj ((aj (s.2.1+s.2.2))+(1:Int))):: .v (.one (.br 6 (Int.toNat (aj ((aj (s.2.1+s.2.2))+(1:Int)))) 0))::vi (y.getD (Int.toNat (aj ((aj (s.2.1+s.2.2))+(1:Int)))) (0:Int)):: .v (.one (.full 6))::vi s.2.1::vi s.2.2::vi (aj (s.2.1+s.2.2)):: .v (.one (.br 6 (Int.toNat (aj (s.2.1+s.2.2))) 0))::vi (y.getD (Int.toNat (aj (s.2.1+s.2.2))) (0:Int))::vi (aj (Int.tdiv (y.getD (Int.toNat (aj (s.2.1+s.2.2))) (0:Int)) (10:Int)))::vi (aj ((y.getD (Int.toNat (aj ((aj (s.2.1+s.2.2))+(1:Int)))) (0:Int))+(aj (Int.tdiv (y.getD (Int.toNat (aj (s.2.1+s.2.2))) (0:Int)) (10:Int))))):: .v (.one (.br 6 (Int.toNat (aj ((aj (s.2.1+s.2.2))+(1:Int)))) 0)):: .v (.one (.full 6))::vi s.2.1::vi s.2.2::vi (aj (s.2.1+s.2.2)):: .v (.one (.full 6))::vi s.2.1::vi s.2.2::vi (aj (s.2.1+s.2.2)):: .v (.one (.br 6 (Int.toNat (aj (s.2.1+s.2.2))) 0))::vi (aB.getD (Int.toNat (aj (s.2.1+s.2.2))) (0:Int))::vi (Int.tmod (aB.getD (Int.toNat (aj (s.2.1+s.2.2))) (0:Int)) (10:Int)):: .v (.one (.br 6 (Int.toNat (aj (s.2.1+s.2.2))) 0))::D::D::D::D::D::D::D::D::D::D::D::D::D::D::D::D::D::D::D::D::D::D::D::D::D::D::D::D::D::D::D::D::D::D::D::D::D:: []),[.bX S,.cells [.raw (.bool x.1.1),.full 2] 164,.row yi x.1.2 0,.cells [.raw (.bool x.2.1),.full 4] 164,.row yi x.2.2 0,.cells [.raw (.bool false),.raw (.slice none 0 0)] 164,.row yi y_2 2]⟩)))))))))))))))))))))))))))))))
 (KB 2 K KN (.exit 2) ⟨(D::D:: .v (.one (.ptr 1 0)):: .v (.one (.ptr 3 0)):: .v (.one (.ptr 5 0)):: .v (.one (.full 6))::vi s.2.1::vi s.2.2::D::D::D::D::D::D::D::D::D::D::D::D::D::D::D::D::D::vi s.2.2:: .v (.one (.ptr 3 1)):: .v (.one (.full 4))::vi (x.2.2.length:Int)::vb (decide (s.2.2<(x.2.2.length:Int)))::D::D::D::D::D::D::D::D::D::D::D::D::D::D::D::D::D::D::D::D::D::D::D::D::D::D::D::D::D::D::D::D::D::D::D::D::D::D::D::D::D::D::D::D::D::D::D::D::D::D::D::D::D::D::D::D::D::D::D::D::D::D::D::D::D::D::D::D::D::D::D::D::D::D::D::D::D::D::D::D::D::D::D::D::D::D::D::D::D::D::D::D::D::D::D:: []),[.bX S,.cells [.raw (.bool x.1.1),.full 2] 164,.row yi x.1.2 0,.cells [.raw (.bool x.2.1),.full 4] 164,.row yi x.2.2 0,.cells [.raw (.bool false),.raw (.slice none 0 0)] 164,.row yi s.1 2]⟩)):=by kernel_rfl
theorem NF (x:aY) (S:Nat->Prop): ∀st K,ku x S st K->Vc (cy ⟨tt,gq,cZ,[(4,gg x S)],[],[]⟩ (.loop (cI (bR 2 (bn Tryz.f111)))) st (jm 2 (iB K))):=fX fun s K KN hp hq=> .eq (NG x S s K KN) (have hp:=Eq.mp (fa.eq_1 x s) hp;have hq:=Eq.mp (congrArg (cz (dH x S) (gY x S) K KN) (cw.eq_1 x s)) hq;
 (CG (Q:=(cz (dH x S) (gY x S) K KN)) hq (fun c hq=>have hp:=(hp c);(b7 (dK (decide_eq_true hp.1.1) (decide_eq_true hp.1.2)) (have hp:=hp.2;(b7 (decide_eq_true hp.1) (have hp:=hp.2;(b7 (decide_eq_true hp.1) (have hp:=hp.2;(b7 (dK (decide_eq_true hp.1.1) (decide_eq_true hp.1.2)) (have hp:=hp.2;(b7 (decide_eq_true hp.1) (have hp:=hp.2;(b7 (decide_eq_true hp.1) (have hp:=hp.2;(b7 (dK (decide_eq_true hp.1.1) (decide_eq_true hp.1.2)) (have hp:=hp.2;(b7 (decide_eq_true hp.1) (have hp:=hp.2;(b7 (decide_eq_true hp.1) (have hp:=hp.2;(b7 (dK (decide_eq_true hp.1.1) (decide_eq_true hp.1.2)) (have hp:=hp.2;(b7 (decide_eq_true hp.1) (have hp:=hp.2;(b7 (decide_eq_true hp.1) (have hp:=hp.2;(And.intro trivial (oK (Q:=(cz (dH x S) (gY x S) K KN)) hp hq fun y hp hq=>(b7 (dK (decide_eq_true hp.1.1) (decide_eq_true hp.1.2)) (have hp:=hp.2;(b7 (decide_eq_true hp.1) (have hp:=hp.2;(b7 (decide_eq_true hp.1) (have hp:=hp.2;(b7 (dK (decide_eq_true hp.1.1) (decide_eq_true hp.1.2)) (have hp:=hp.2;(b7 (decide_eq_true hp.1) (have hp:=hp.2;(b7 (decide_eq_true hp.1) (have hp:=hp.2;(b7 (dK (decide_eq_true hp.1.1) (decide_eq_true hp.1.2)) (have hp:=hp.2;(b7 (decide_eq_true hp.1) (have hp:=hp.2;(b7 (decide_eq_true hp.1) (have hp:=hp.2;(And.intro trivial (oK (Q:=(cz (dH x S) (gY x S) K KN)) hp hq fun aB hp hq=>(b7 (dK (decide_eq_true hp.1.1) (decide_eq_true hp.1.2)) (have hp:=hp.2;(b7 (decide_eq_true hp.1) (have hp:=hp.2;(b7 (decide_eq_true hp.1) (have hp:=hp.2;(b7 (dK (decide_eq_true hp.1.1) (decide_eq_true hp.1.2)) (have hp:=hp.2;(b7 (decide_eq_true hp.1) (have hp:=hp.2;(b7 (decide_eq_true hp) (And.intro trivial (pL (Q:=(cz (dH x S) (gY x S) K KN)) hq fun y_2 hq=>(Exists.intro (dH x S (y_2,s.2.1,(aj (s.2.2+(1:Int))))) (And.intro (bP (π:= [.same 0,.same 1,.same 2,.same 3,.same 4,.same 5,.same 6]) (And.intro rfl (And.intro rfl (And.intro rfl (And.intro rfl (And.intro rfl (And.intro rfl trivial)))))) (And.intro (ai rfl rfl) (And.intro (ai rfl rfl) (And.intro (ai rfl rfl) (And.intro (ai rfl rfl) (And.intro (ai rfl rfl) (And.intro (ai rfl rfl) (And.intro (ai rfl rfl) trivial))))))) rfl) hq)))))))))))))))))))))))))))))))))))))))))))))))))))))))))))))) (fun c hq=>(Exists.intro ⟨(D::D:: .v (.one (.ptr 1 0)):: .v (.one (.ptr 3 0)):: .v (.one (.ptr 5 0)):: .v (.one (.full 6))::vi s.2.1::D::D::D::D::D::D::D::D::D::D::D::D::D::D::D::D::D::D::D::D::D::D::D::D::D::D::D::D::D::D::D::D::D::D::D::D::D::D::D::D::D::D::D::D::D::D::D::D::D::D::D::D::D::D::D::D::D::D::D::D::D::D::D::D::D::D::D::D::D::D::D::D::D::D::D::D::D::D::D::D::D::D::D::D::D::D::D::D::D::D::D::D::D::D::D::D::D::D::D::D::D::D::D::D::D::D::D::D::D::D::D::D::D::D::D::D::D::D:: []),[.bX S,.cells [.raw (.bool x.1.1),.full 2] 164,.row yi x.1.2 0,.cells [.raw (.bool x.2.1),.full 4] 164,.row yi x.2.2 0,.cells [.raw (.bool false),.raw (.slice none 0 0)] 164,.row yi s.1 2]⟩ (And.intro (bP (π:= [.same 0,.same 1,.same 2,.same 3,.same 4,.same 5,.same 6]) (And.intro rfl (And.intro rfl (And.intro rfl (And.intro rfl (And.intro rfl trivial))))) (And.intro (ai rfl rfl) (And.intro (ai rfl rfl) (And.intro (ai rfl rfl) (And.intro (ai rfl rfl) (And.intro (ai rfl rfl) (And.intro (ai rfl rfl) (And.intro (ai rfl rfl) trivial))))))) rfl) hq)))))
theorem ND (x:aY) (S:Nat->Prop) (s:(List Int×Int)) (K:Exit->AS->Prop) (KN:AS->Prop):cy ⟨tt,gq,cZ,((2,ku x S):: [(4,gg x S)]),[],[]⟩ (cI (bR 0 (bn Tryz.f111))) (gb x S s) (KB 0 K KN)=
 (cB (decide (s.2<(x.1.2.length:Int)))
 (Exists fun s0:(List Int×I2)=>pN ⟨(D::D:: .v (.one (.ptr 1 0)):: .v (.one (.ptr 3 0)):: .v (.one (.ptr 5 0)):: .v (.one (.full 6))::vi s.2::vi (0:Int)::D::D::D::D::D::D::D::D::D::D::vi s.2:: .v (.one (.ptr 1 1)):: .v (.one (.full 2))::vi (x.1.2.length:Int)::vb (decide (s.2<(x.1.2.length:Int)))::D::D::D::D::D::D::D::D::D::D::D::D::D::D::D::D::D::D::D::D::D::D::D::D::D::D::D::D::D::D::D::D::D::D::D::D::D::D::D::D::D::D::D::D::D::D::D::D::D::D::D::D::D::D::D::D::D::D::D::D::D::D::D::D::D::D::D::D::D::D::D::D::D::D::D::D::D::D::D::D::D::D::D::D::D::D::D::D::D::D::D::D::D::D::D::D::D::D::D::D::D::D:: []),[.bX S,.cells [.raw (.bool x.1.1),.full 2] 164,.row yi x.1.2 0,.cells [.raw (.bool x.2.1),.full 4] 164,.row yi x.2.2 0,.cells [.raw (.bool false),.raw (.slice none 0 0)] 164,.row yi s.1 2]⟩ (dH x S s0)/\ Term (cw x) (fa x) s0/\ ∀r:(List Int×Int),r=run (cw x) s0->
 (KB 0 K KN .normal ⟨(D::D:: .v (.one (.ptr 1 0)):: .v (.one (.ptr 3 0)):: .v (.one (.ptr 5 0)):: .v (.one (.full 6))::vi (aj (r.2+(1:Int)))::D::D::D::D::D::D::D::D::D::D::D::D::D::D::D::D::vi r.2::vi (aj (r.2+(1:Int)))::D::D::D::D::D::D::D::D::D::D::D::D::D::D::D::D::D::D::D::D::D::D::D::D::D::D::D::D::D::D::D::D::D::D::D::D::D::D::D::D::D::D::D::D::D::D::D::D::D::D::D::D::D::D::D::D::D::D::D::D::D::D::D::D::D::D::D::D::D::D::D::D::D::D::D::D::D::D::D::D::D::D::D::D::D::D::D::D::D::D::D::D::D::D::D::D::D::D::D::D:: []),[.bX S,.cells [.raw (.bool x.1.1),.full 2] 164,.row yi x.1.2 0,.cells [.raw (.bool x.2.1),.full 4] 164,.row yi x.2.2 0,.cells [.raw (.bool false),.raw (.slice none 0 0)] 164,.row yi r.1 2]⟩))
 (KB 0 K KN (.exit 0) ⟨(D::D:: .v (.one (.ptr 1 0)):: .v (.one (.ptr 3 0)):: .v (.one (.ptr 5 0)):: .v (.one (.full 6))::vi s.2::D::D::D::D::D::D::D::D::D::D::D::vi s.2:: .v (.one (.ptr 1 1)):: .v (.one (.full 2))::vi (x.1.2.length:Int)::vb (decide (s.2<(x.1.2.length:Int)))::D::D::D::D::D::D::D::D::D::D::D::D::D::D::D::D::D::D::D::D::D::D::D::D::D::D::D::D::D::D::D::D::D::D::D::D::D::D::D::D::D::D::D::D::D::D::D::D::D::D::D::D::D::D::D::D::D::D::D::D::D::D::D::D::D::D::D::D::D::D::D::D::D::D::D::D::D::D::D::D::D::D::D::D::D::D::D::D::D::D::D::D::D::D::D::D::D::D::D::D::D::D:: []),[.bX S,.cells [.raw (.bool x.1.1),.full 2] 164,.row yi x.1.2 0,.cells [.raw (.bool x.2.1),.full 4] 164,.row yi x.2.2 0,.cells [.raw (.bool false),.raw (.slice none 0 0)] 164,.row yi s.1 2]⟩)):=by kernel_rfl
theorem NC (x:aY) (S:Nat->Prop): ∀st K,tg x S st K->Vc (cy ⟨tt,gq,cZ,((2,ku x S):: [(4,gg x S)]),[],[]⟩ (.loop (cI (bR 0 (bn Tryz.f111)))) st (jm 0 (iB K))):=fX fun s K KN hp hq=> .eq (ND x S s K KN) (have hp:=Eq.mp (e9.eq_1 x s) hp;have hq:=Eq.mp (congrArg (cz (gb x S) (my x S) K KN) (bT.eq_1 x s)) hq;
 (CG (Q:=(cz (gb x S) (my x S) K KN)) hq (fun c hq=>have hp:=(hp c);(Exists.intro (s.1,s.2,(0:Int)) (And.intro (bP (π:= [.same 0,.same 1,.same 2,.same 3,.same 4,.same 5,.same 6]) (And.intro rfl (And.intro rfl (And.intro rfl (And.intro rfl (And.intro rfl (And.intro rfl trivial)))))) (And.intro (ai rfl rfl) (And.intro (ai rfl rfl) (And.intro (ai rfl rfl) (And.intro (ai rfl rfl) (And.intro (ai rfl rfl) (And.intro (ai rfl rfl) (And.intro (ai rfl rfl) trivial))))))) rfl) (And.intro hp (pL (Q:=(cz (gb x S) (my x S) K KN)) hq fun r hq=>(Exists.intro (gb x S (r.1,(aj (r.2+(1:Int))))) (And.intro (bP (π:= [.same 0,.same 1,.same 2,.same 3,.same 4,.same 5,.same 6]) (And.intro rfl (And.intro rfl (And.intro rfl (And.intro rfl (And.intro rfl trivial))))) (And.intro (ai rfl rfl) (And.intro (ai rfl rfl) (And.intro (ai rfl rfl) (And.intro (ai rfl rfl) (And.intro (ai rfl rfl) (And.intro (ai rfl rfl) (And.intro (ai rfl rfl) trivial))))))) rfl) hq))))))) (fun c hq=>(Exists.intro ⟨(D::D:: .v (.one (.ptr 1 0)):: .v (.one (.ptr 3 0)):: .v (.one (.ptr 5 0)):: .v (.one (.full 6))::D::D::D::D::D::D::D::D::D::D::D::D::D::D::D::D::D::D::D::D::D::D::D::D::D::D::D::D::D::D::D::D::D::D::D::D::D::D::D::D::D::D::D::D::D::D::D::D::D::D::D::D::D::D::D::D::D::D::D::D::D::D::D::D::D::D::D::D::D::D::D::D::D::D::D::D::D::D::D::D::D::D::D::D::D::D::D::D::D::D::D::D::D::D::D::D::D::D::D::D::D::D::D::D::D::D::D::D::D::D::D::D::D::D::D::D::D::D::D:: []),[.bX S,.cells [.raw (.bool x.1.1),.full 2] 164,.row yi x.1.2 0,.cells [.raw (.bool x.2.1),.full 4] 164,.row yi x.2.2 0,.cells [.raw (.bool false),.raw (.slice none 0 0)] 164,.row yi s.1 2]⟩ (And.intro (bP (π:= [.same 0,.same 1,.same 2,.same 3,.same 4,.same 5,.same 6]) (And.intro rfl (And.intro rfl (And.intro rfl (And.intro rfl trivial)))) (And.intro (ai rfl rfl) (And.intro (ai rfl rfl) (And.intro (ai rfl rfl) (And.intro (ai rfl rfl) (And.intro (ai rfl rfl) (And.intro (ai rfl rfl) (And.intro (ai rfl rfl) trivial))))))) rfl) hq)))))
theorem NI (x:aY) (S:Nat->Prop) (s:(List Int×Int)) (K:Exit->AS->Prop) (KN:AS->Prop):cy ⟨tt,gq,cZ,[],[],[]⟩ (cI (bR 4 (bn Tryz.f111))) (eM x S s) (KB 4 K KN)=
 (cB (decide ((aj (s.2+(1:Int)))<(s.1.length:Int)))
 (ob ((decide ((0:Int)<=(aj (s.2+(1:Int)))))&&(decide ((aj (s.2+(1:Int)))<(s.1.length:Int))))
 (ob (decide ((Int.toNat (aj (s.2+(1:Int))))<s.1.length))
 (ob (decide ((Int.toNat (aj (s.2+(1:Int))))<s.1.length))
 (ob ((decide ((0:Int)<=s.2))&&(decide (s.2<(s.1.length:Int))))
 (ob (decide (s.2.toNat<s.1.length))
 (ob (decide (s.2.toNat<s.1.length))
 (ob ((decide ((0:Int)<=(aj (s.2+(1:Int)))))&&(decide ((aj (s.2+(1:Int)))<(s.1.length:Int))))
 (ob (decide ((Int.toNat (aj (s.2+(1:Int))))<s.1.length))
 (ob (decide ((Int.toNat (aj (s.2+(1:Int))))<s.1.length))
 (True/\ ∀y:(List Int),y=(List.set s.1 (Int.toNat (aj (s.2+(1:Int)))) (aj ((s.1.getD (Int.toNat (aj (s.2+(1:Int)))) (0:Int))+(aj (Int.tdiv (s.1.getD s.2.toNat (0:Int)) (10:Int))))))->
 (ob ((decide ((0:Int)<=s.2))&&(decide (s.2<(y.length:Int))))
 (ob (decide (s.2.toNat<y.length))
 (ob (decide (s.2.toNat<y.length))
 (ob ((decide ((0:Int)<=s.2))&&(decide (s.2<(y.length:Int))))
 (ob (decide (s.2.toNat<y.length))
 (ob (decide (s.2.toNat<y.length))
 (True/\ ∀aB:(List Int),aB=(List.set y s.2.toNat (Int.tmod (y.getD s.2.toNat (0:Int)) (10:Int)))->
 (KB 4 K KN .normal ⟨(D::D:: .v (.one (.ptr 1 0)):: .v (.one (.ptr 3 0)):: .v (.one (.ptr 5 0)):: .v (.one (.full 6))::D::D::vi (aj (s.2+(1:Int)))::D::D::D::D::D::D::D::D::D::D::D::D::D::D::D::D::D::D::D::D::D::D::D::D::D::D::D::D::D::D::D::D::D::D::D::D::D::D::D::D::D::D::D::D::D::D::D::D::D::D::D::D::D::D::D::D::D::D::D::D::D::D::D::D::D::D::D::D::D::D::D::D::D::D::D::D::D::D::D::vi s.2::vi (aj (s.2+(1:Int))):: .v (.one (.full 6))::vi (s.1.length:Int)::vb (decide ((aj (s.2+(1:Int)))<(s.1.length:Int)))::vi s.2::vi (aj (s.2+(1:Int))):: .v (.one (.full 6))::vi s.2::vi (aj (s.2+(1:Int))):: .v (.one (.full 6))::vi s.2::vi (aj (s.2+(1:Int))):: .v (.one (.br 6 (Int.toNat (aj (s.2+(1:Int)))) 0))::vi (s.1.getD (Int.toNat (aj (s.2+(1:Int)))) (0:Int)):: .v (.one (.full 6))::vi s.2:: .v (.one (.br 6 s.2.toNat 0))::vi (s.1.getD s.2.toNat (0:Int))::vi (aj (Int.tdiv (s.1.getD s.2.toNat (0:Int)) (10:Int)))::vi (aj ((s.1.getD (Int.toNat (aj (s.2+(1:Int)))) (0:Int))+(aj (Int.tdiv (s.1.getD s.2.toNat (0:Int)) (10:Int))))):: .v (.one (.br 6 (Int.toNat (aj (s.2+(1:Int)))) 0)):: .v (.one (.full 6))::vi s.2:: .v (.one (.full 6))::vi s.2:: .v (.one (.br 6 s.2.toNat 0))::vi (y.getD s.2.toNat (0:Int))::vi (Int.tmod (y.getD s.2.toNat (0:Int)) (10:Int)):: .v (.one (.br 6 s.2.toNat 0))::D::D::D::D::D::D::D:: []),[.bX S,.cells [.raw (.bool x.1.1),.full 2] 164,.row yi x.1.2 0,.cells [.raw (.bool x.2.1),.full 4] 164,.row yi x.2.2 0,.cells [.raw (.bool false),.raw (.slice none 0 0)] 164,.row yi aB 2]⟩))))))))))))))))))
 (KB 4 K KN (.exit 4) ⟨(D::D:: .v (.one (.ptr 1 0)):: .v (.one (.ptr 3 0)):: .v (.one (.ptr 5 0)):: .v (.one (.full 6))::D::D::vi s.2::D::D::D::D::D::D::D::D::D::D::D::D::D::D::D::D::D::D::D::D::D::D::D::D::D::D::D::D::D::D::D::D::D::D::D::D::D::D::D::D::D::D::D::D::D::D::D::D::D::D::D::D::D::D::D::D::D::D::D::D::D::D::D::D::D::D::D::D::D::D::D::D::D::D::D::D::D::D::D::vi s.2::vi (aj (s.2+(1:Int))):: .v (.one (.full 6))::vi (s.1.length:Int)::vb (decide ((aj (s.2+(1:Int)))<(s.1.length:Int)))::D::D::D::D::D::D::D::D::D::D::D::D::D::D::D::D::D::D::D::D::D::D::D::D::D::D::D::D::D::D::D::D:: []),[.bX S,.cells [.raw (.bool x.1.1),.full 2] 164,.row yi x.1.2 0,.cells [.raw (.bool x.2.1),.full 4] 164,.row yi x.2.2 0,.cells [.raw (.bool false),.raw (.slice none 0 0)] 164,.row yi s.1 2]⟩)):=by kernel_rfl
theorem NH (x:aY) (S:Nat->Prop): ∀st K,gg x S st K->Vc (cy ⟨tt,gq,cZ,[],[],[]⟩ (.loop (cI (bR 4 (bn Tryz.f111)))) st (jm 4 (iB K))):=fX fun s K KN hp hq=> .eq (NI x S s K KN) (have hp:=Eq.mp (fb.eq_1 x s) hp;have hq:=Eq.mp (congrArg (cz (eM x S) (jH x S) K KN) (bU.eq_1 x s)) hq;
 (CG (Q:=(cz (eM x S) (jH x S) K KN)) hq (fun c hq=>have hp:=(hp c);(b7 (dK (decide_eq_true hp.1.1) (decide_eq_true hp.1.2)) (have hp:=hp.2;(b7 (decide_eq_true hp.1) (have hp:=hp.2;(b7 (decide_eq_true hp.1) (have hp:=hp.2;(b7 (dK (decide_eq_true hp.1.1) (decide_eq_true hp.1.2)) (have hp:=hp.2;(b7 (decide_eq_true hp.1) (have hp:=hp.2;(b7 (decide_eq_true hp.1) (have hp:=hp.2;(b7 (dK (decide_eq_true hp.1.1) (decide_eq_true hp.1.2)) (have hp:=hp.2;(b7 (decide_eq_true hp.1) (have hp:=hp.2;(b7 (decide_eq_true hp.1) (have hp:=hp.2;(And.intro trivial (oK (Q:=(cz (eM x S) (jH x S) K KN)) hp hq fun y hp hq=>(b7 (dK (decide_eq_true hp.1.1) (decide_eq_true hp.1.2)) (have hp:=hp.2;(b7 (decide_eq_true hp.1) (have hp:=hp.2;(b7 (decide_eq_true hp.1) (have hp:=hp.2;(b7 (dK (decide_eq_true hp.1.1) (decide_eq_true hp.1.2)) (have hp:=hp.2;(b7 (decide_eq_true hp.1) (have hp:=hp.2;(b7 (decide_eq_true hp) (And.intro trivial (pL (Q:=(cz (eM x S) (jH x S) K KN)) hq fun aB hq=>(Exists.intro (eM x S (aB,(aj (s.2+(1:Int))))) (And.intro (bP (π:= [.same 0,.same 1,.same 2,.same 3,.same 4,.same 5,.same 6]) (And.intro rfl (And.intro rfl (And.intro rfl (And.intro rfl (And.intro rfl trivial))))) (And.intro (ai rfl rfl) (And.intro (ai rfl rfl) (And.intro (ai rfl rfl) (And.intro (ai rfl rfl) (And.intro (ai rfl rfl) (And.intro (ai rfl rfl) (And.intro (ai rfl rfl) trivial))))))) rfl) hq)))))))))))))))))))))))))))))))))))) (fun c hq=>(Exists.intro ⟨(D::D:: .v (.one (.ptr 1 0)):: .v (.one (.ptr 3 0)):: .v (.one (.ptr 5 0)):: .v (.one (.full 6))::D::D::D::D::D::D::D::D::D::D::D::D::D::D::D::D::D::D::D::D::D::D::D::D::D::D::D::D::D::D::D::D::D::D::D::D::D::D::D::D::D::D::D::D::D::D::D::D::D::D::D::D::D::D::D::D::D::D::D::D::D::D::D::D::D::D::D::D::D::D::D::D::D::D::D::D::D::D::D::D::D::D::D::D::D::D::D::D::D::D::D::D::D::D::D::D::D::D::D::D::D::D::D::D::D::D::D::D::D::D::D::D::D::D::D::D::D::D::D:: []),[.bX S,.cells [.raw (.bool x.1.1),.full 2] 164,.row yi x.1.2 0,.cells [.raw (.bool x.2.1),.full 4] 164,.row yi x.2.2 0,.cells [.raw (.bool false),.raw (.slice none 0 0)] 164,.row yi s.1 2]⟩ (And.intro (bP (π:= [.same 0,.same 1,.same 2,.same 3,.same 4,.same 5,.same 6]) (And.intro rfl (And.intro rfl (And.intro rfl (And.intro rfl trivial)))) (And.intro (ai rfl rfl) (And.intro (ai rfl rfl) (And.intro (ai rfl rfl) (And.intro (ai rfl rfl) (And.intro (ai rfl rfl) (And.intro (ai rfl rfl) (And.intro (ai rfl rfl) trivial))))))) rfl) hq)))))
def mw (x:aY):(Bool×List Int):=
 (aq (run (bT x) ((List.replicate (Int.toNat (aj ((aj ((x.1.2.length:Int)+(x.2.2.length:Int)))+1))) 0),0)) fun r=>
 (aq (run (bU x) (r,0)) fun r_1=>
 (aq (gh ((!(x.1.1==x.2.1)),r_1)) fun y=>
 y)))
def iu (x:aY):Prop:=
 ((((0<=(aj ((aj ((x.1.2.length:Int)+(x.2.2.length:Int)))+1)))/\ ((aj ((aj ((x.1.2.length:Int)+(x.2.2.length:Int)))+1))<=(aj ((aj ((x.1.2.length:Int)+(x.2.2.length:Int)))+1))))/\ ((Int.toNat (aj ((aj ((x.1.2.length:Int)+(x.2.2.length:Int)))+1)))<1099511627776))/\
 (Term (bT x) (e9 x) ((List.replicate (Int.toNat (aj ((aj ((x.1.2.length:Int)+(x.2.2.length:Int)))+1))) 0),0)/\
 az (run (bT x) ((List.replicate (Int.toNat (aj ((aj ((x.1.2.length:Int)+(x.2.2.length:Int)))+1))) 0),0)) fun r=>
 (Term (bU x) (fb x) (r,0)/\
 az (run (bU x) (r,0)) fun r_1=>
 (b8 ((!(x.1.1==x.2.1)),r_1)))))
theorem XI (x:aY) (S:Nat->Prop) (Q:(Bool×List Int)->Prop):Na ⟨tt,gq,cZ,((0,tg x S)::((2,ku x S):: [(4,gg x S)])),[],[]⟩ Tryz.f111 (ij (.pair (.agg (Ty.prod Ty.bool (Ty.sl yi))) (.agg (Ty.prod Ty.bool (Ty.sl yi)))) x) (iq (.pair (.agg (Ty.prod Ty.bool (Ty.sl yi))) (.agg (Ty.prod Ty.bool (Ty.sl yi)))) x++ [.bX S]) (wO (.agg (Ty.prod Ty.bool (Ty.sl yi))) S Q)=
 (ob (((decide ((0:Int)<=(aj ((aj ((x.1.2.length:Int)+(x.2.2.length:Int)))+(1:Int)))))&&(decide ((aj ((aj ((x.1.2.length:Int)+(x.2.2.length:Int)))+(1:Int)))<=(aj ((aj ((x.1.2.length:Int)+(x.2.2.length:Int)))+(1:Int))))))&&(decide ((Int.toNat (aj ((aj ((x.1.2.length:Int)+(x.2.2.length:Int)))+(1:Int))))<1099511627776)))
 (Exists fun s0:(List Int×Int)=>pN ⟨(.v (.agg [.raw (.bool x.1.1),.full 0]):: .v (.agg [.raw (.bool x.2.1),.full 1]):: .v (.one (.ptr 3 0)):: .v (.one (.ptr 4 0)):: .v (.one (.ptr 5 0)):: .v (.one (.full 6))::vi (0:Int)::aH::aH:: .v (.one (.ptr 3 1)):: .v (.one (.full 0))::vi (x.1.2.length:Int):: .v (.one (.ptr 4 1)):: .v (.one (.full 1))::vi (x.2.2.length:Int)::vi (aj ((x.1.2.length:Int)+(x.2.2.length:Int)))::vi (aj ((aj ((x.1.2.length:Int)+(x.2.2.length:Int)))+(1:Int))):: .v (.one (.full 6))::aH::aH::aH::aH::aH::aH::aH::aH::aH::aH::aH::aH::aH::aH::aH::aH::aH::aH::aH::aH::aH::aH::aH::aH::aH::aH::aH::aH::aH::aH::aH::aH::aH::aH::aH::aH::aH::aH::aH::aH::aH::aH::aH::aH::aH::aH::aH::aH::aH::aH::aH::aH::aH::aH::aH::aH::aH::aH::aH::aH::aH::aH::aH::aH::aH::aH::aH::aH::aH::aH::aH::aH::aH::aH::aH::aH::aH::aH::aH::aH::aH::aH::aH::aH::aH::aH::aH::aH::aH::aH::aH::aH::aH::aH::aH::aH::aH::aH::aH::aH::aH::aH::aH::aH::aH::aH::aH:: []),[.row yi x.1.2 0,.row yi x.2.2 0,.bX S,.cells [.raw (.bool x.1.1),.full 0] 164,.cells [.raw (.bool x.2.1),.full 1] 164,.cells [.raw (.bool false),.raw (.slice none 0 0)] 164,.row yi (List.replicate (Int.toNat (aj ((aj ((x.1.2.length:Int)+(x.2.2.length:Int)))+(1:Int)))) (0:Int)) 2]⟩ (gb x S s0)/\ Term (bT x) (e9 x) s0/\ ∀r:(List Int),r=run (bT x) s0->
 (Exists fun s0:(List Int×Int)=>pN ⟨(D::D:: .v (.one (.ptr 1 0)):: .v (.one (.ptr 3 0)):: .v (.one (.ptr 5 0)):: .v (.one (.full 6))::D::D::vi (0:Int)::D::D::D::D::D::D::D::D::D::D::D::D::D::D::D::D::D::D::D::D::D::D::D::D::D::D::D::D::D::D::D::D::D::D::D::D::D::D::D::D::D::D::D::D::D::D::D::D::D::D::D::D::D::D::D::D::D::D::D::D::D::D::D::D::D::D::D::D::D::D::D::D::D::D::D::D::D::D::D::D::D::D::D::D::D::D::D::D::D::D::D::D::D::D::D::D::D::D::D::D::D::D::D::D::D::D::D::D::D::D::D::D::D::D::D::D:: []),[.bX S,.cells [.raw (.bool x.1.1),.full 2] 164,.row yi x.1.2 0,.cells [.raw (.bool x.2.1),.full 4] 164,.row yi x.2.2 0,.cells [.raw (.bool false),.raw (.slice none 0 0)] 164,.row yi r 2]⟩ (eM x S s0)/\ Term (bU x) (fb x) s0/\ ∀r_1:(List Int),r_1=run (bU x) s0->
 ((b8 ((!(x.1.1==x.2.1)),r_1))/\ ∀y:(Bool×List Int),y=(gh ((!(x.1.1==x.2.1)),r_1))->
 ((S=S)/\
 (Q y)))))):=by kernel_rfl
theorem XG (x:aY) (S:Nat->Prop) (Q:(Bool×List Int)->Prop) (hp:iu x) (hq:Q (mw x)):Vc (Na ⟨tt,gq,cZ,((0,tg x S)::((2,ku x S):: [(4,gg x S)])),[],[]⟩ Tryz.f111 (ij (.pair (.agg (Ty.prod Ty.bool (Ty.sl yi))) (.agg (Ty.prod Ty.bool (Ty.sl yi)))) x) (iq (.pair (.agg (Ty.prod Ty.bool (Ty.sl yi))) (.agg (Ty.prod Ty.bool (Ty.sl yi)))) x++ [.bX S]) (wO (.agg (Ty.prod Ty.bool (Ty.sl yi))) S Q)):= .eq (XI x S Q) (have hp:=Eq.mp (iu.eq_1 x) hp;have hq:=Eq.mp (congrArg Q (mw.eq_1 x)) hq;
 (b7 (dK (dK (decide_eq_true hp.1.1.1) (decide_eq_true hp.1.1.2)) (decide_eq_true hp.1.2)) (have hp:=hp.2;(Exists.intro ((List.replicate (Int.toNat (aj ((aj ((x.1.2.length:Int)+(x.2.2.length:Int)))+(1:Int)))) (0:Int)),(0:Int)) (And.intro (bP (π:= [.same 2,.same 3,.same 0,.same 4,.same 1,.same 5,.same 6]) (And.intro rfl (And.intro rfl (And.intro rfl (And.intro rfl (And.intro rfl trivial))))) (And.intro (ai rfl rfl) (And.intro (ai rfl rfl) (And.intro (ai rfl rfl) (And.intro (ai rfl rfl) (And.intro (ai rfl rfl) (And.intro (ai rfl rfl) (And.intro (ai rfl rfl) trivial))))))) rfl) (And.intro hp.1 (oK (Q:=Q) hp.2 hq fun r hp hq=>(Exists.intro (r,(0:Int)) (And.intro (bP (π:= [.same 0,.same 1,.same 2,.same 3,.same 4,.same 5,.same 6]) (And.intro rfl (And.intro rfl (And.intro rfl (And.intro rfl (And.intro rfl trivial))))) (And.intro (ai rfl rfl) (And.intro (ai rfl rfl) (And.intro (ai rfl rfl) (And.intro (ai rfl rfl) (And.intro (ai rfl rfl) (And.intro (ai rfl rfl) (And.intro (ai rfl rfl) trivial))))))) rfl) (And.intro hp.1 (oK (Q:=Q) hp.2 hq fun r_1 hp hq=>(And.intro hp (pL (Q:=Q) hq fun y hq=>(And.intro rfl hq))))))))))))))
abbrev Ai:bB:=⟨(.pair (.agg (Ty.prod Ty.bool (Ty.sl yi))) (.agg (Ty.prod Ty.bool (Ty.sl yi)))),(.agg (Ty.prod Ty.bool (Ty.sl yi))),iu,mw⟩
theorem XH:ah Tryz.prog 111 (kG Ai):=ah.fnR (fn:=Tryz.f111) ax kE mixed (by kernel_rfl) (by kernel_rfl) (.pair (.agg (Ty.prod Ty.bool (Ty.sl yi))) (.agg (Ty.prod Ty.bool (Ty.sl yi)))) (.agg (Ty.prod Ty.bool (Ty.sl yi))) iu mw fun x hp S=>⟨_,_,(av.nil _ _),(au.JT ax (ae.bD kE (av.nil _ _)) mixed (au.JT ax (ae.bD kE (av.nil _ _)) mixed (au.JT ax (ae.bD kE (av.nil _ _)) mixed au.nil (by kernel_rfl) (by kernel_rfl) (NH x S)) (by kernel_rfl) (by kernel_rfl) (NF x S)) (by kernel_rfl) (by kernel_rfl) (NC x S)),XG x S (fun y=>y=mw x) hp rfl⟩
def Mr:List (Nat×Ev.Spec):=(111,kG Ai)::gq
theorem Br:ae Tryz.prog Mr:=ae.add (fn:=Tryz.f111) (by kernel_rfl) XH kE
def Cd (x:aY):Bool:=
 (aq (p9 x.2) fun y=>
 (aq (qO (x.1,y)) fun aB=>
 aB.1))
def qM (x:aY):Prop:=
 ((oU x.2)/\
 az (p9 x.2) fun y=>
 (lJ (x.1,y)))
def ae1 (x:aY):Tr Bool true:=
 (.fn Gm x.2 fun y=>
 (.fn Jw (x.1,y) fun aB=>
 (.ret aB.1)))
abbrev um:bB:=⟨(.pair (.agg (Ty.prod Ty.bool (Ty.sl yi))) (.agg (Ty.prod Ty.bool (Ty.sl yi)))),(.one Ty.bool),qM,Cd⟩
theorem abI:ah Tryz.prog 113 (ak um):=ah.tr um ae1 (fn:=Tryz.f113) ax Br mixed (by kernel_rfl) (av.nil _ _) (fun x=>au.nil) (fun x=>(by kernel_rfl)) fun x Q=>(by kernel_rfl)
def Qc:List (Nat×Ev.Spec):=(113,ak um)::Mr
theorem E6:ae Tryz.prog Qc:=ae.add (fn:=Tryz.f113) (by kernel_rfl) abI Br
def Gq (x:I2):Bool:=
 (if (x.2>=1) then
 (if (x.2<=1000000000000000000) then
 (if (x.1>=(-1000000000000000000)) then
 (decide (x.1<=1000000000000000000)) else
 false) else
 false) else
 false)
def afb (_:I2):Prop:=True
def aj3 (x:I2):Tr Bool false:=
 (.fm (x.2>=z1)
 (.fm (x.2<=1000000000000000000)
 (.fm (x.1>=(-1000000000000000000))
 (.ret (decide (x.1<=1000000000000000000)))
 (.ret false))
 (.ret false))
 (.ret false))
abbrev qS:bB:=⟨(.agg aQ),(.one Ty.bool),afb,Gq⟩
theorem ahP:ah Tryz.prog 110 (ak qS):=ah.tr qS aj3 (fn:=Tryz.f110) ax E6 mixed (by kernel_rfl) (av.nil _ _) (fun x=>au.nil) (fun x=>(by kernel_rfl)) fun x Q=>(by kernel_rfl)
def ZN:List (Nat×Ev.Spec):=(110,ak qS)::Qc
theorem Mt:ae Tryz.prog ZN:=ae.add (fn:=Tryz.f110) (by kernel_rfl) ahP E6
def Ef (x:I2):Int:=
 (if (x.1<x.2) then
 (-1) else
 (if (x.1>x.2) then
 1 else
 0))
def UL (_:I2):Prop:=True
def abV (x:I2):Tr Int false:=
 (.fm (x.1<x.2)
 (.ret (-1))
 (.fm (x.1>x.2)
 (.ret z1)
 (.ret z0)))
abbrev nr:bB:=⟨(.pair (.one yi) (.one yi)),(.one yi),UL,Ef⟩
theorem XN:ah Tryz.prog 114 (ak nr):=ah.tr nr abV (fn:=Tryz.f114) ax Mt mixed (by kernel_rfl) (av.nil _ _) (fun x=>au.nil) (fun x=>(by kernel_rfl)) fun x Q=>(by kernel_rfl)
def Mu:List (Nat×Ev.Spec):=(114,ak nr)::ZN
theorem Bt:ae Tryz.prog Mu:=ae.add (fn:=Tryz.f114) (by kernel_rfl) XN Mt
def Lv (x:(I2×I2)):Int:=
 (aq (Gq x.1) fun y=>
 (if (y=true) then
 (aq (Gq x.2) fun aB=>
 (if (aB=true) then
 (aq (cL x.1.1) fun y_2=>
 (aq (cL x.2.2) fun bh=>
 (aq (mw (y_2,bh)) fun bj=>
 (aq (cL x.2.1) fun gw=>
 (aq (cL x.1.2) fun tF=>
 (aq (mw (gw,tF)) fun Cv=>
 (aq (Cd (bj,Cv)) fun MV=>
 (if (MV=true) then
 (-1) else
 (aq (Cd (Cv,bj)) fun GQ=>
 (if (GQ=true) then
 1 else
 0)))))))))) else
 (aq (Gq x.1) fun y_2=>
 (aq (Gq x.2) fun bh=>
 (if ((!(y_2==bh))=true) then
 (aq (Gq x.2) fun bj=>
 (if (bj=true) then
 (-1) else
 1)) else
 (if ((x.1.1 !=x.2.1)=true) then
 (aq (Ef (x.1.1,x.2.1)) fun bj=>
 bj) else
 (aq (Ef (x.1.2,x.2.2)) fun bj=>
 bj))))))) else
 (aq (Gq x.1) fun aB=>
 (aq (Gq x.2) fun y_2=>
 (if ((!(aB==y_2))=true) then
 (aq (Gq x.2) fun bh=>
 (if (bh=true) then
 (-1) else
 1)) else
 (if ((x.1.1 !=x.2.1)=true) then
 (aq (Ef (x.1.1,x.2.1)) fun bh=>
 bh) else
 (aq (Ef (x.1.2,x.2.2)) fun bh=>
 bh)))))))
def qp (x:(I2×I2)):Prop:=
 (az (Gq x.1) fun y=>
 ((y=true)->
 (az (Gq x.2) fun aB=>
 ((aB=true)->
 ((cM x.1.1)/\
 az (cL x.1.1) fun y_2=>
 ((cM x.2.2)/\
 az (cL x.2.2) fun bh=>
 ((iu (y_2,bh))/\
 az (mw (y_2,bh)) fun bj=>
 ((cM x.2.1)/\
 az (cL x.2.1) fun gw=>
 ((cM x.1.2)/\
 az (cL x.1.2) fun tF=>
 ((iu (gw,tF))/\
 az (mw (gw,tF)) fun Cv=>
 ((qM (bj,Cv))/\
 az (Cd (bj,Cv)) fun MV=>
 (¬(MV=true)->
 (qM (Cv,bj))))))))))))))
def ahO (x:(I2×I2)):Tr Int true:=
 (.fn0 qS x.1 trivial fun y=>
 (.FB y
 (.fn0 qS x.2 trivial fun aB=>
 (.FB aB
 (.fn jY x.1.1 fun y_2=>
 (.fn jY x.2.2 fun bh=>
 (.fn Ai (y_2,bh) fun bj=>
 (.fn jY x.2.1 fun gw=>
 (.fn jY x.1.2 fun tF=>
 (.fn Ai (gw,tF) fun Cv=>
 (.fn um (bj,Cv) fun MV=>
 (.dy MV
 (.ret (-1))
 (.fn um (Cv,bj) fun GQ=>
 (.cQ GQ
 (.ret z1)
 (.ret z0)))))))))))
 (.fn0 qS x.1 trivial fun y_2=>
 (.fn0 qS x.2 trivial fun bh=>
 (.cQ (!(y_2==bh))
 (.fn0 qS x.2 trivial fun bj=>
 (.cQ bj
 (.ret (-1))
 (.ret z1)))
 (.cQ (x.1.1 !=x.2.1)
 (.fn0 nr (x.1.1,x.2.1) trivial fun bj=>
 (.ret bj))
 (.fn0 nr (x.1.2,x.2.2) trivial fun bj=>
 (.ret bj))))))))
 (.fn0 qS x.1 trivial fun aB=>
 (.fn0 qS x.2 trivial fun y_2=>
 (.cQ (!(aB==y_2))
 (.fn0 qS x.2 trivial fun bh=>
 (.cQ bh
 (.ret (-1))
 (.ret z1)))
 (.cQ (x.1.1 !=x.2.1)
 (.fn0 nr (x.1.1,x.2.1) trivial fun bh=>
 (.ret bh))
 (.fn0 nr (x.1.2,x.2.2) trivial fun bh=>
 (.ret bh))))))))
abbrev Am:bB:=⟨(.pair (.agg aQ) (.agg aQ)),(.one yi),qp,Lv⟩
theorem afa:ah Tryz.prog 69 (ak Am):=ah.tr Am ahO (fn:=Tryz.f69) ax Bt mixed (by kernel_rfl) (av.nil _ _) (fun x=>au.nil) (fun x=>(by kernel_rfl)) fun x Q=>(by kernel_rfl)
def Vv:List (Nat×Ev.Spec):=(69,ak Am)::Mu
theorem Io:ae Tryz.prog Vv:=ae.add (fn:=Tryz.f69) (by kernel_rfl) afa Bt
def bV (x:I2):Bool:=
 (if (x.1>=(-4096)) then
 (if (x.1<=4096) then
 (if (x.2>=(-4096)) then
 (decide (x.2<=4096)) else
 false) else
 false) else
 false)
def Sl (_:I2):Prop:=True
def XV (x:I2):Tr Bool false:=
 (.fm (x.1>=(-4096))
 (.fm (x.1<=4096)
 (.fm (x.2>=(-4096))
 (.ret (decide (x.2<=4096)))
 (.ret false))
 (.ret false))
 (.ret false))
abbrev cE:bB:=⟨(.agg aQ),(.one Ty.bool),Sl,bV⟩
theorem UQ:ah Tryz.prog 70 (ak cE):=ah.tr cE XV (fn:=Tryz.f70) ax Io mixed (by kernel_rfl) (av.nil _ _) (fun x=>au.nil) (fun x=>(by kernel_rfl)) fun x Q=>(by kernel_rfl)
def Iu:List (Nat×Ev.Spec):=(70,ak cE)::Vv
theorem yT:ae Tryz.prog Iu:=ae.add (fn:=Tryz.f70) (by kernel_rfl) UQ Io
def mF (x:I3):Bool:=
 (if (x.1>=(-16384)) then
 (if (x.1<=16384) then
 (if (x.2.1>=(-16384)) then
 (if (x.2.1<=16384) then
 (if (x.2.2>=(-16384)) then
 (decide (x.2.2<=16384)) else
 false) else
 false) else
 false) else
 false) else
 false)
def Sn (_:I3):Prop:=True
def XW (x:I3):Tr Bool false:=
 (.fm (x.1>=(-16384))
 (.fm (x.1<=16384)
 (.fm (x.2.1>=(-16384))
 (.fm (x.2.1<=16384)
 (.fm (x.2.2>=(-16384))
 (.ret (decide (x.2.2<=16384)))
 (.ret false))
 (.ret false))
 (.ret false))
 (.ret false))
 (.ret false))
abbrev nt:bB:=⟨(.agg aU),(.one Ty.bool),Sn,mF⟩
theorem UR:ah Tryz.prog 71 (ak nt):=ah.tr nt XW (fn:=Tryz.f71) ax yT mixed (by kernel_rfl) (av.nil _ _) (fun x=>au.nil) (fun x=>(by kernel_rfl)) fun x Q=>(by kernel_rfl)
def Iv:List (Nat×Ev.Spec):=(71,ak nt)::Iu
theorem yU:ae Tryz.prog Iv:=ae.add (fn:=Tryz.f71) (by kernel_rfl) UR yT
def kf (x:I6):I2:=
 (aq (bV x.1) fun y=>
 (if ((!y)=true) then
 (0,5) else
 (aq (bV x.2.1) fun aB=>
 (if ((!aB)=true) then
 (0,5) else
 (aq (bV x.2.2) fun y_2=>
 (if ((!y_2)=true) then
 (0,5) else
 (aq (Lx (x.2.1,x.1)) fun bh=>
 (aq (Lx (x.2.2,x.1)) fun bj=>
 (aq (Eh (bh,bj)) fun gw=>
 gw)))))))))
def XT (_:I6):Prop:=True
def afm (x:I6):Tr I2 false:=
 (.fn0 cE x.1 trivial fun y=>
 (.cQ (!y)
 (.ret (z0,5))
 (.fn0 cE x.2.1 trivial fun aB=>
 (.cQ (!aB)
 (.ret (z0,5))
 (.fn0 cE x.2.2 trivial fun y_2=>
 (.cQ (!y_2)
 (.ret (z0,5))
 (.fn0 yz (x.2.1,x.1) trivial fun bh=>
 (.fn0 yz (x.2.2,x.1) trivial fun bj=>
 (.fn0 vK (bh,bj) trivial fun gw=>
 (.ret gw))))))))))
abbrev ic:bB:=⟨(.pair (.agg aQ) (.pair (.agg aQ) (.agg aQ))),(.pair (.one yi) (.one yi)),XT,kf⟩
theorem ab5:ah Tryz.prog 109 (ak ic):=ah.tr ic afm (fn:=Tryz.f109) ax yU mixed (by kernel_rfl) (av.nil _ _) (fun x=>au.nil) (fun x=>(by kernel_rfl)) fun x Q=>(by kernel_rfl)
def Qn:List (Nat×Ev.Spec):=(109,ak ic)::Iv
theorem Ff:ae Tryz.prog Qn:=ae.add (fn:=Tryz.f109) (by kernel_rfl) ab5 yU
def afn (x:Int):Int:=
 (if (x<0) then
 (-1) else
 (if (x>0) then
 1 else
 0))
def ab7 (_:Int):Prop:=True
def ahV (x:Int):Tr Int false:=
 (.fm (x<z0)
 (.ret (-1))
 (.fm (x>z0)
 (.ret z1)
 (.ret z0)))
abbrev JA:bB:=⟨(.one yi),(.one yi),ab7,afn⟩
theorem afo:ah Tryz.prog 177 (ak JA):=ah.tr JA ahV (fn:=Tryz.f177) ax Ff mixed (by kernel_rfl) (av.nil _ _) (fun x=>au.nil) (fun x=>(by kernel_rfl)) fun x Q=>(by kernel_rfl)
def Vz:List (Nat×Ev.Spec):=(177,ak JA)::Qn
theorem Is:ae Tryz.prog Vz:=ae.add (fn:=Tryz.f177) (by kernel_rfl) afo Ff
def fu (x:I6):I2:=
 (aq (kf x) fun y=>
 (aq (afn y.1) fun aB=>
 (aB,y.2)))
def XU (_:I6):Prop:=True
def afp (x:I6):Tr I2 false:=
 (.fn0 ic x trivial fun y=>
 (.fn0 JA y.1 trivial fun aB=>
 (.ret (aB,y.2))))
abbrev yB:bB:=⟨(.pair (.agg aQ) (.pair (.agg aQ) (.agg aQ))),(.pair (.one yi) (.one yi)),XU,fu⟩
theorem ab8:ah Tryz.prog 150 (ak yB):=ah.tr yB afp (fn:=Tryz.f150) ax Is mixed (by kernel_rfl) (av.nil _ _) (fun x=>au.nil) (fun x=>(by kernel_rfl)) fun x Q=>(by kernel_rfl)
def Qo:List (Nat×Ev.Spec):=(150,ak yB)::Vz
theorem Fg:ae Tryz.prog Qo:=ae.add (fn:=Tryz.f150) (by kernel_rfl) ab8 Is
end Go.Proofs.YtfgdjlhilladhaaGreat
