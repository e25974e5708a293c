/- Models of light's functions, and of gather.Is. -/
import Derived.Test.YtngdehlpoomaiaaGreatLb
import Derived.Test.YtngdehlpoomaiaaGreatEvR
import Derived.Test.YtngdehlpoomaiaaGreatWb
noncomputable section
set_option linter.unusedSectionVars false
set_option linter.unusedVariables false
set_option linter.unusedSimpArgs false
namespace Go.Proofs.YtngdehlpoomaiaaGreat
open Go Go.Ev Go.Proofs
def sq (x:I2):Bool:=
 (if (x.1>=0) then
 (decide (x.1<=x.2)) else
 false)
def O0 (_:I2):Prop:=True
def WV (x:I2):Tr Bool false:=
 (.tF (x.1>=z0)
 (.ret (decide (x.1<=x.2)))
 (.ret false))
abbrev q6:bY:=⟨(.pair (.one yi) (.one yi)),(.one Ty.bool),O0,sq⟩
theorem Sg:ai Tryz.prog 97 (ak q6):=ai.tr q6 WV (fn:=Tryz.f97) aA xC mixed (by kernel_rfl) (ax.nil _ _) (fun x=>ay.nil) (fun x=>(by kernel_rfl)) fun x Q=>(by kernel_rfl)
def Hf:List (Nat×Ev.Spec):=(97,ak q6)::GU
theorem xI:ah Tryz.prog Hf:=ah.add (fn:=Tryz.f97) (by kernel_rfl) Sg xC
def BT (x:(Int×I3×I3×I2)):Bool:=
 (if (x.1>=1) then
 (if (x.1<=3) then
 (aq (sq (x.2.2.2.1,255)) fun y=>
 (if (y=true) then
 (aq (sq (x.2.2.2.2,1024)) fun aB=>
 (if (aB=true) then
 (aq (dR [x.2.1,x.2.2.1]) fun y_2=>
 (if (y_2=true) then
 (if ((x.1==2)=true) then
 true else
 (!((x.2.2.1.1==0)&&((x.2.2.1.2.1==0)&&((x.2.2.1.2.2==0)&&true))))) else
 false)) else
 false)) else
 false)) else
 false) else
 false)
def oD (x:(Int×I3×I3×I2)):Prop:=
 ((x.1>=1)->
 ((x.1<=3)->
 (aC (sq (x.2.2.2.1,255)) fun y=>
 ((y=true)->
 (aC (sq (x.2.2.2.2,1024)) fun aB=>
 ((aB=true)->
 (ct [x.2.1,x.2.2.1])))))))
def aaG (x:(Int×I3×I3×I2)):Tr Bool true:=
 (.i10 (x.1>=z1)
 (.i10 (x.1<=3)
 (.fn0 q6 (x.2.2.2.1,255) trivial fun y=>
 (.Dw y
 (.fn0 q6 (x.2.2.2.2,1024) trivial fun aB=>
 (.Dw aB
 (.fn dS [x.2.1,x.2.2.1] fun y_2=>
 (.qH y_2
 (.qH (x.1==2)
 (.ret true)
 (.ret (!((x.2.2.1.1==z0)&&((x.2.2.1.2.1==z0)&&((x.2.2.1.2.2==z0)&&true))))))
 (.ret false)))
 (.ret false)))
 (.ret false)))
 (.ret false))
 (.ret false))
abbrev uT:bY:=⟨(.agg (Ty.prod yi (Ty.prod aM (Ty.prod aM fX)))),(.one Ty.bool),oD,BT⟩
theorem WQ:ai Tryz.prog 64 (ak uT):=ai.tr uT aaG (fn:=Tryz.f64) aA xI mixed (by kernel_rfl) (ax.nil _ _) (fun x=>ay.nil) (fun x=>(by kernel_rfl)) fun x Q=>(by kernel_rfl)
def KT:List (Nat×Ev.Spec):=(64,ak uT)::Hf
theorem AP:ah Tryz.prog KT:=ah.add (fn:=Tryz.f64) (by kernel_rfl) WQ xI
def JQ (x:I3):I3:=
 ((av (0- x.1)),(av (0- x.2.1)),(av (0- x.2.2)))
def WH (_:I3):Prop:=True
def aez (x:I3):Tr I3 false:=
 (.ret ((av (z0- x.1)),(av (z0- x.2.1)),(av (z0- x.2.2))))
abbrev zK:bY:=⟨(.agg aM),(.agg aM),WH,JQ⟩
theorem aau:ai Tryz.prog 74 (ak zK):=ai.tr zK aez (fn:=Tryz.f74) aA AP mixed (by kernel_rfl) (ax.nil _ _) (fun x=>ay.nil) (fun x=>(by kernel_rfl)) fun x Q=>(by kernel_rfl)
def P9:List (Nat×Ev.Spec):=(74,ak zK)::KT
theorem C9:ah Tryz.prog P9:=ah.add (fn:=Tryz.f74) (by kernel_rfl) aau AP
def Ml (x:((Int×I3×I3×I2)×I3)):(I3×I3×Int):=
 (aq (jE x.1.2.2.1) fun y=>
 (aq (JQ y.1) fun aB=>
 (aB,((av (x.2.1+(av (4*aB.1)))),(av (x.2.2.1+(av (4*aB.2.1)))),(av (x.2.2.2+(av (4*aB.2.2))))),y.2)))
def r9 (x:((Int×I3×I3×I2)×I3)):Prop:=
 (cU x.1.2.2.1)
def aat (x:((Int×I3×I3×I2)×I3)):Tr (I3×I3×Int) true:=
 (.fn lN x.1.2.2.1 fun y=>
 (.fn0 zK y.1 trivial fun aB=>
 (.ret (aB,((av (x.2.1+(av (4*aB.1)))),(av (x.2.2.1+(av (4*aB.2.1)))),(av (x.2.2.2+(av (4*aB.2.2))))),y.2))))
abbrev zJ:bY:=⟨(.agg (Ty.prod (Ty.prod yi (Ty.prod aM (Ty.prod aM fX))) aM)),(.pair (.agg aM) (.pair (.agg aM) (.one yi))),r9,Ml⟩
theorem WC:ai Tryz.prog 65 (ak zJ):=ai.tr zJ aat (fn:=Tryz.f65) aA C9 mixed (by kernel_rfl) (ax.nil _ _) (fun x=>ay.nil) (fun x=>(by kernel_rfl)) fun x Q=>(by kernel_rfl)
def KR:List (Nat×Ev.Spec):=(65,ak zJ)::P9
theorem AN:ah Tryz.prog KR:=ah.add (fn:=Tryz.f65) (by kernel_rfl) WC C9
def OU (x:((Int×I3×I3×I2)×I3)):(I3×I3×Int):=
 (aq (jE ((av (x.1.2.1.1- x.2.1)),(av (x.1.2.1.2.1- x.2.2.1)),(av (x.1.2.1.2.2- x.2.2.2)))) fun y=>
 (if ((y.2 !=0)=true) then
 ((0,0,0),(0,0,0),y.2) else
 (y.1,x.1.2.1,0)))
def qX (x:((Int×I3×I3×I2)×I3)):Prop:=
 (cU ((av (x.1.2.1.1- x.2.1)),(av (x.1.2.1.2.1- x.2.2.1)),(av (x.1.2.1.2.2- x.2.2.2))))
def aeE (x:((Int×I3×I3×I2)×I3)):Tr (I3×I3×Int) true:=
 (.fn lN ((av (x.1.2.1.1- x.2.1)),(av (x.1.2.1.2.1- x.2.2.1)),(av (x.1.2.1.2.2- x.2.2.2))) fun y=>
 (.qH (y.2 !=z0)
 (.ret (bX,bX,y.2))
 (.ret (y.1,x.1.2.1,z0))))
abbrev zN:bY:=⟨(.agg (Ty.prod (Ty.prod yi (Ty.prod aM (Ty.prod aM fX))) aM)),(.pair (.agg aM) (.pair (.agg aM) (.one yi))),qX,OU⟩
theorem aaA:ai Tryz.prog 66 (ak zN):=ai.tr zN aeE (fn:=Tryz.f66) aA AN mixed (by kernel_rfl) (ax.nil _ _) (fun x=>ay.nil) (fun x=>(by kernel_rfl)) fun x Q=>(by kernel_rfl)
def Qc:List (Nat×Ev.Spec):=(66,ak zN)::KR
theorem Db:ah Tryz.prog Qc:=ah.add (fn:=Tryz.f66) (by kernel_rfl) aaA AN
def OR (x:((Int×I3×I3×I2)×I3)):Bool:=
 (if ((x.1.1 !=3)=true) then
 false else
 (aq (jE x.1.2.2.1) fun y=>
 (aq (JQ x.2) fun aB=>
 (aq (uo (y.1,aB)) fun y_2=>
 (decide (y_2.1<x.1.2.2.2.2))))))
def wC (x:((Int×I3×I3×I2)×I3)):Prop:=
 (¬((x.1.1 !=3)=true)->
 ((cU x.1.2.2.1)/\
 aC (jE x.1.2.2.1) fun y=>
 (aC (JQ x.2) fun aB=>
 (jX (y.1,aB)))))
def aeB (x:((Int×I3×I3×I2)×I3)):Tr Bool true:=
 (.nM (x.1.1 !=3)
 (.ret false)
 (.fn lN x.1.2.2.1 fun y=>
 (.fn0 zK x.2 trivial fun aB=>
 (.fn ou (y.1,aB) fun y_2=>
 (.ret (decide (y_2.1<x.1.2.2.2.2)))))))
abbrev D8:bY:=⟨(.pair (.agg (Ty.prod yi (Ty.prod aM (Ty.prod aM fX)))) (.agg aM)),(.one Ty.bool),wC,OR⟩
theorem aav:ai Tryz.prog 36 (ak D8):=ai.tr D8 aeB (fn:=Tryz.f36) aA Db mixed (by kernel_rfl) (ax.nil _ _) (fun x=>ay.nil) (fun x=>(by kernel_rfl)) fun x Q=>(by kernel_rfl)
def Qa:List (Nat×Ev.Spec):=(36,ak D8)::Qc
theorem vC:ah Tryz.prog Qa:=ah.add (fn:=Tryz.f36) (by kernel_rfl) aav Db
def aaB (x:(List (Int×I3×I3×I2))):aK:=⟨[],⟨di 15 0 [(5,.v (.one (.full 0))),(6,.v (.one (.i .i64))),(7,.v (.one (.i .i64)))],[.row (Ty.prod yi (Ty.prod aM (Ty.prod aM fX))) 0],0,none,[],[0,2],[1],[.i],[.i (x.length:Int),.l (Ty.prod yi (Ty.prod aM (Ty.prod aM fX))) x]⟩,[⟨.ret,.ret,⟨di 15 0 [(2,.v (.one (.b)))],[],0,none,[],[0],[],[],[.b false]⟩⟩,⟨(.exit 0),.normal,⟨di 15 0 [],[],0,none,[],[],[],[],[]⟩⟩]⟩
def pS (x:(List (Int×I3×I3×I2))) (s:Int):Int⊕(Unit⊕Unit):=
 (if (s<(x.length:Int)) then
 (aq (BT (x.getD s.toNat (0,(0,0,0),(0,0,0),0,0))) fun y=>
 (if ((!y)=true) then
 (Sum.inr (Sum.inl ())) else
 (Sum.inl (av (s+1))))) else
 (Sum.inr (Sum.inr (()))))
def F0 (x:(List (Int×I3×I3×I2))) (s:Int):Prop:=
 ((s<(x.length:Int))->
 (((0<=s)/\ (s<(x.length:Int)))/\
 ((s.toNat<x.length)/\
 ((s.toNat<x.length)/\
 (oD (x.getD s.toNat (0,(0,0,0),(0,0,0),0,0)))))))
def OV (x:(List (Int×I3×I3×I2))) (s:Int):Tr (Int⊕(Unit⊕Unit)) true:=
 (.i10 (s<(nL x))
 (.mS s x
 (.fn uT (gT x s (z0,bX,bX,Cq)) fun y=>
 (.qH (!y)
 (.ret (.inr (Sum.inl ())))
 (.ret (.inl (w1 s))))))
 (.ret (.inr (Sum.inr (())))))
def lis (x:(List (Int×I3×I3×I2))):Bool:=
 (aq (run (pS x) 0) fun r=>
 (Sum.elim (fun a=>
 false) (fun b=>
 true) r))
def zO (x:(List (Int×I3×I3×I2))):Prop:=
 (Term (pS x) (F0 x) 0)
def akf (x:(List (Int×I3×I3×I2))):Tr Bool true:=
 (aK.lp (aaB x) (OV x) z0 fun r=>
 (.MK r (fun a=>
 (.ret false)) (fun b=>
 (.ret true))))
abbrev Ue:bY:=⟨(.one (Ty.sl (Ty.prod yi (Ty.prod aM (Ty.prod aM fX))))),(.one Ty.bool),zO,lis⟩
theorem ahJ:ai Tryz.prog 51 (ak Ue):=ai.tr Ue akf (fn:=Tryz.f51) aA vC mixed (by kernel_rfl) (ax.nil _ _) (fun x=>(ay.tr aA (ah.dX vC (ax.nil _ _)) mixed 0 (aaB x) (OV x) ay.nil (by kernel_rfl) fun g s Q=>(by kernel_rfl))) (fun x=>(by kernel_rfl)) fun x Q=>(by kernel_rfl)
def abK:List (Nat×Ev.Spec):=(51,ak Ue)::Qa
theorem Cf:ah Tryz.prog abK:=ah.add (fn:=Tryz.f51) (by kernel_rfl) ahJ vC
def Uh (x:(List Int)):aK:=⟨[],⟨di 20 0 [(3,.v (.one (.i .i64))),(6,.v (.one (.full 0))),(7,.v (.one (.i .i64))),(8,.v (.one (.i .i64)))],[.row yi 0],0,none,[],[1,3],[0,2],[.i,.i],[.i (x.length:Int),.l yi x]⟩,[⟨(.exit 0),.normal,⟨di 20 0 [(3,.v (.one (.i .i64)))],[],0,none,[],[],[0],[.i],[]⟩⟩]⟩
def ke (x:(List Int)) (s:I2):I2⊕Int:=
 (if (s.2<(x.length:Int)) then
 (Sum.inl ((bt (av (s.1+(bt (bf (x.getD s.2.toNat 0) 0) 255))) 255),(av (s.2+1)))) else
 (Sum.inr (s.1)))
def pU (x:(List Int)) (s:I2):Prop:=
 ((s.2<(x.length:Int))->
 (((0<=s.2)/\ (s.2<(x.length:Int)))/\
 ((s.2.toNat<x.length)/\
 (s.2.toNat<x.length))))
def JV (x:(List Int)) (s:I2):Tr (I2⊕Int) true:=
 (.i10 (s.2<(nL x))
 (.mS s.2 x
 (.ret (.inl ((bt (av (s.1+(bt (bf (gI x s.2) z0) 255))) 255),(w1 s.2)))))
 (.ret (.inr (s.1))))
def aaI (x:(List Int)):Int:=
 (aq (run (ke x) (0,0)) fun r=>
 r)
def uU (x:(List Int)):Prop:=
 (Term (ke x) (pU x) (0,0))
def ahK (x:(List Int)):Tr Int true:=
 (aK.lp (Uh x) (JV x) Cq fun r=>
 (.ret r))
abbrev F7:bY:=⟨(.one (Ty.sl yi)),(.one yi),uU,aaI⟩
theorem aeI:ai Tryz.prog 14 (ak F7):=ai.tr F7 ahK (fn:=Tryz.f14) aA Cf mixed (by kernel_rfl) (ax.nil _ _) (fun x=>(ay.tr aA (ah.dX Cf (ax.nil _ _)) mixed 0 (Uh x) (JV x) ay.nil (by kernel_rfl) fun g s Q=>(by kernel_rfl))) (fun x=>(by kernel_rfl)) fun x Q=>(by kernel_rfl)
def UY:List (Nat×Ev.Spec):=(14,ak F7)::abK
theorem G9:ah Tryz.prog UY:=ah.add (fn:=Tryz.f14) (by kernel_rfl) aeI Cf
def gis (x:(Int×Int×Int×Int×List (Int×I3×I3×I2))):Bool:=
 (aq (j6 (x.1,64)) fun y=>
 (if (y=true) then
 (aq (j6 (x.2.1,2048)) fun aB=>
 (if (aB=true) then
 (aq (j6 (x.2.2.1,64)) fun y_2=>
 (if (y_2=true) then
 (aq (j6 (x.2.2.2.1,255)) fun bk=>
 (if (bk=true) then
 (if ((x.2.2.2.2.length:Int)<=8) then
 (aq (lis x.2.2.2.2) fun bQ=>
 bQ) else
 false) else
 false)) else
 false)) else
 false)) else
 false))
def rV (x:(Int×Int×Int×Int×List (Int×I3×I3×I2))):Prop:=
 (aC (j6 (x.1,64)) fun y=>
 ((y=true)->
 (aC (j6 (x.2.1,2048)) fun aB=>
 ((aB=true)->
 (aC (j6 (x.2.2.1,64)) fun y_2=>
 ((y_2=true)->
 (aC (j6 (x.2.2.2.1,255)) fun bk=>
 ((bk=true)->
 (((x.2.2.2.2.length:Int)<=8)->
 (zO x.2.2.2.2))))))))))
def ajc (x:(Int×Int×Int×Int×List (Int×I3×I3×I2))):Tr Bool true:=
 (.fn0 lq (x.1,64) trivial fun y=>
 (.Dw y
 (.fn0 lq (x.2.1,2048) trivial fun aB=>
 (.Dw aB
 (.fn0 lq (x.2.2.1,64) trivial fun y_2=>
 (.Dw y_2
 (.fn0 lq (x.2.2.2.1,255) trivial fun bk=>
 (.Dw bk
 (.i10 ((nL x.2.2.2.2)<=8)
 (.fn Ue x.2.2.2.2 fun bQ=>
 (.ret bQ))
 (.ret false))
 (.ret false)))
 (.ret false)))
 (.ret false)))
 (.ret false)))
abbrev Fx:bY:=⟨(.agg (Ty.prod yi (Ty.prod yi (Ty.prod yi (Ty.prod yi (Ty.sl (Ty.prod yi (Ty.prod aM (Ty.prod aM fX))))))))),(.one Ty.bool),rV,gis⟩
theorem agX:ai Tryz.prog 22 (ak Fx):=ai.tr Fx ajc (fn:=Tryz.f22) aA G9 mixed (by kernel_rfl) (ax.nil _ _) (fun x=>ay.nil) (fun x=>(by kernel_rfl)) fun x Q=>(by kernel_rfl)
def abG:List (Nat×Ev.Spec):=(22,ak Fx)::UY
theorem KF:ah Tryz.prog abG:=ah.add (fn:=Tryz.f22) (by kernel_rfl) agX G9
def zz (x:I2):Bool:=
 (if ((bt x.1 x.2)<0) then
 false else
 (if ((bf x.1 x.2)>65536) then
 false else
 (decide ((av ((av ((av ((av (2*x.1))- 65536))*(av ((av (2*x.1))- 65536))))+(av ((av ((av (2*x.2))- 65536))*(av ((av (2*x.2))- 65536))))))<=4294967296))))
def Oy (_:I2):Prop:=True
def Wl (x:I2):Tr Bool false:=
 (.tF ((bt x.1 x.2)<z0)
 (.ret false)
 (.tF ((bf x.1 x.2)>65536)
 (.ret false)
 (.ret (decide ((av ((av ((av ((av (2*x.1))- 65536))*(av ((av (2*x.1))- 65536))))+(av ((av ((av (2*x.2))- 65536))*(av ((av (2*x.2))- 65536))))))<=4294967296)))))
abbrev wB:bY:=⟨(.agg fX),(.one Ty.bool),Oy,zz⟩
theorem RK:ai Tryz.prog 127 (ak wB):=ai.tr wB Wl (fn:=Tryz.f127) aA KF mixed (by kernel_rfl) (ax.nil _ _) (fun x=>ay.nil) (fun x=>(by kernel_rfl)) fun x Q=>(by kernel_rfl)
def G5:List (Nat×Ev.Spec):=(127,ak wB)::abG
theorem xG:ah Tryz.prog G5:=ah.add (fn:=Tryz.f127) (by kernel_rfl) RK KF
def rX (x:Int):Int:=
 (av ((av (Int.tdiv (av ((av ((av (2*x))- 65536))+4194304)) 64))- 65536))
def RF (_:Int):Prop:=True
def ZQ (x:Int):Tr Int false:=
 (.ret (av ((av (Int.tdiv (av ((av ((av (2*x))- 65536))+4194304)) 64))- 65536)))
abbrev uG:bY:=⟨(.one yi),(.one yi),RF,rX⟩
theorem Wk:ai Tryz.prog 128 (ak uG):=ai.tr uG ZQ (fn:=Tryz.f128) aA xG mixed (by kernel_rfl) (ax.nil _ _) (fun x=>ay.nil) (fun x=>(by kernel_rfl)) fun x Q=>(by kernel_rfl)
def KG:List (Nat×Ev.Spec):=(128,ak uG)::G5
theorem AF:ah Tryz.prog KG:=ah.add (fn:=Tryz.f128) (by kernel_rfl) Wk xG
end Go.Proofs.YtngdehlpoomaiaaGreat
namespace Go.Proofs.YtngdehlpoomaiaaGreat
open Go Go.Ev Go.Proofs
def sk (x:((Int×I3×I3×I2)×I3)):(I3×I3×Int):=
 (aq (BT x.1) fun y=>
 (if ((!y)=true) then
 ((0,0,0),(0,0,0),1) else
 (if ((bt (bt x.2.1 x.2.2.1) x.2.2.2)<(-8192)) then
 ((0,0,0),(0,0,0),5) else
 (if ((bf (bf x.2.1 x.2.2.1) x.2.2.2)>8192) then
 ((0,0,0),(0,0,0),5) else
 (if (x.1.1=3) then
 (aq (OU x) fun aB=>
 aB) else
 (if (x.1.1=2) then
 (aq (OU x) fun aB=>
 aB) else
 (if (x.1.1=1) then
 (aq (Ml x) fun aB=>
 aB) else
 default)))))))
def mw (x:((Int×I3×I3×I2)×I3)):Prop:=
 ((oD x.1)/\
 aC (BT x.1) fun y=>
 (¬((!y)=true)->
 (¬((bt (bt x.2.1 x.2.2.1) x.2.2.2)<(-8192))->
 (¬((bf (bf x.2.1 x.2.2.1) x.2.2.2)>8192)->
 (((0<=x.1.1)/\ (x.1.1<4))/\
 (((x.1.1=3)->
 (qX x))/\
 (¬(x.1.1=3)->
 (((x.1.1=2)->
 (qX x))/\
 (¬(x.1.1=2)->
 (((x.1.1=1)->
 (r9 x))/\
 (¬(x.1.1=1)->
 False)))))))))))
def WU (x:((Int×I3×I3×I2)×I3)):Tr (I3×I3×Int) true:=
 (.fn uT x.1 fun y=>
 (.nM (!y)
 (.ret (bX,bX,z1))
 (.FN ((bt (bt x.2.1 x.2.2.1) x.2.2.2)<(-8192))
 (.ret (bX,bX,5))
 (.FN ((bf (bf x.2.1 x.2.2.1) x.2.2.2)>8192)
 (.ret (bX,bX,5))
 (.oR x.1.1 4
 (.i11 (x.1.1=3)
 (.fn zN x fun aB=>
 (.ret aB))
 (.i11 (x.1.1=2)
 (.fn zN x fun aB=>
 (.ret aB))
 (.i11 (x.1.1=z1)
 (.fn zJ x fun aB=>
 (.ret aB))
 (.og false False False.elim (.ret default))))))))))
abbrev qZ:bY:=⟨(.pair (.agg (Ty.prod yi (Ty.prod aM (Ty.prod aM fX)))) (.agg aM)),(.pair (.agg aM) (.pair (.agg aM) (.one yi))),mw,sk⟩
theorem Sf:ai Tryz.prog 34 (ak qZ):=ai.tr qZ WU (fn:=Tryz.f34) aA AF mixed (by kernel_rfl) (ax.nil _ _) (fun x=>ay.nil) (fun x=>(by kernel_rfl)) fun x Q=>(by kernel_rfl)
def He:List (Nat×Ev.Spec):=(34,ak qZ)::KG
theorem xH:ah Tryz.prog He:=ah.add (fn:=Tryz.f34) (by kernel_rfl) Sf AF
def F6 (x:((Int×I3×I3×I2)×I3×I3)):I2:=
 (aq (sk (x.1,x.2.1)) fun y=>
 (if ((y.2.2==0)=true) then
 (aq (jE x.2.2) fun aB=>
 (if ((aB.2 !=0)=true) then
 (0,aB.2) else
 (aq (OR (x.1,y.1)) fun y_2=>
 (if (y_2=true) then
 (0,0) else
 (aq (uo (aB.1,y.1)) fun bk=>
 ((av (Int.tdiv (av (bk.1*x.1.2.2.2.1)) 1024)),bk.2)))))) else
 (if ((y.2.2==3)=true) then
 (0,0) else
 (0,y.2.2))))
def sj (x:((Int×I3×I3×I2)×I3×I3)):Prop:=
 ((mw (x.1,x.2.1))/\
 aC (sk (x.1,x.2.1)) fun y=>
 (((y.2.2==0)=true)->
 ((cU x.2.2)/\
 aC (jE x.2.2) fun aB=>
 (¬((aB.2 !=0)=true)->
 ((wC (x.1,y.1))/\
 aC (OR (x.1,y.1)) fun y_2=>
 (¬(y_2=true)->
 (jX (aB.1,y.1))))))))
def aaH (x:((Int×I3×I3×I2)×I3×I3)):Tr I2 true:=
 (.fn qZ (x.1,x.2.1) fun y=>
 (.Dw (y.2.2==z0)
 (.fn lN x.2.2 fun aB=>
 (.nM (aB.2 !=z0)
 (.ret (z0,aB.2))
 (.fn D8 (x.1,y.1) fun y_2=>
 (.nM y_2
 (.ret Cq)
 (.fn ou (aB.1,y.1) fun bk=>
 (.ret ((av (Int.tdiv (av (bk.1*x.1.2.2.2.1)) 1024)),bk.2)))))))
 (.qH (y.2.2==3)
 (.ret Cq)
 (.ret (z0,y.2.2)))))
abbrev zR:bY:=⟨(.pair (.agg (Ty.prod yi (Ty.prod aM (Ty.prod aM fX)))) (.pair (.agg aM) (.agg aM))),(.pair (.one yi) (.one yi)),sj,F6⟩
theorem WR:ai Tryz.prog 13 (ak zR):=ai.tr zR aaH (fn:=Tryz.f13) aA xH mixed (by kernel_rfl) (ax.nil _ _) (fun x=>ay.nil) (fun x=>(by kernel_rfl)) fun x Q=>(by kernel_rfl)
def bN:List (Nat×Ev.Spec):=(13,ak zR)::He
theorem fS:ah Tryz.prog bN:=ah.add (fn:=Tryz.f13) (by kernel_rfl) WR xH
end Go.Proofs.YtngdehlpoomaiaaGreat
namespace Go.Ev
open Go.RowKit
def Yd (P:Program) (f:FuncId):Prop:= ∀(g:FuncId),bS P g-> ∀(b off:Nat) (cap:Array Value) (w:World) (Q:World->Prop),w.cell? ⟨b,off,none⟩=some (.int .u32 0)->w.cell? ⟨b,off+1,none⟩=some (.int .i32 0)->w.frozen? ⟨b,off+1,none⟩=false->
      (Calls P g cap (w.setCell ⟨b,off+1,none⟩ (.int .i32 1)) fun e w'=>e= .returned (.tuple #[])/\ Q w')->
      (∀w',Q w'->(∃x,w'.cell? ⟨b,off,none⟩=some x)/\ w'.cell? ⟨b,off+1,none⟩=some (.int .i32 1)/\ w'.frozen? ⟨b,off,none⟩=false/\ w'.frozen? ⟨b,off+1,none⟩=false)->
      Calls P f #[.pointer (some ⟨b,off,none⟩), .func (.func g) #[] cap] w fun e w'=>e= .returned (.tuple #[])/\ ∃w1,Q w1/\ w'=(w1.drew.setCell ⟨b,off,none⟩ (.int .u32 1)).setCell ⟨b,off+1,none⟩ (.int .i32 0)
theorem ax.amR {P:Program} (f g:FuncId) {fn fg:Func} (hk:(P.funcs[f]?,fn.name== "runtime.NumGoroutine",fn.body.isNone)=(some fn,false,false)) (hg:(P.funcs[g]?,fg.name== "runtime.NumGoroutine",fg.body.isNone)=(some fg,false,false)) (hs:Yd P f) {ic:cD} {its:List (Nat×cD)} (h:ax P cf ((g,ic)::its)):ax P cf ((f,UG g ic)::((g,ic)::its)):=by
 simp only [Prod.mk.injEq] at hk hg
 exact ax.cons (bS.of hk.1 hk.2.1 hk.2.2) (PB (h g ic (by simp [aJ])).2 fun b off cap w Q h0 h1 f1 hc hQ=>hs g (bS.of hg.1 hg.2.1 hg.2.2) b off cap w Q h0 h1 f1 hc hQ) h
end Go.Ev
