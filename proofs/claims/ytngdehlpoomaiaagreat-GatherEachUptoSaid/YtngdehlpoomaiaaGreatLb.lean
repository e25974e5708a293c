/- Models of frame's functions, and of gather's small ones. -/
import Derived.Test.YtngdehlpoomaiaaGreatLa
noncomputable section
set_option linter.unusedSectionVars false
set_option linter.unusedVariables false
set_option linter.unusedSimpArgs false
namespace Go.Proofs.YtngdehlpoomaiaaGreat
open Go Go.Ev Go.Proofs
def DJ (x:Int):Int:=
 (if (x>0) then
 (av (0- x)) else
 x)
def acd (_:Int):Prop:=True
def aic (x:Int):Tr Int false:=
 (.tF (x>z0)
 (.ret (av (z0- x)))
 (.ret x))
abbrev HV:bY:=⟨(.one yi),(.one yi),acd,DJ⟩
theorem afk:ai Tryz.prog 145 (ak HV):=ai.tr HV aic (fn:=Tryz.f145) aA C5 mixed (by kernel_rfl) (ax.nil _ _) (fun x=>ay.nil) (fun x=>(by kernel_rfl)) fun x Q=>(by kernel_rfl)
def U5:List (Nat×Ev.Spec):=(145,ak HV)::PY
theorem yI:ah Tryz.prog U5:=ah.add (fn:=Tryz.f145) (by kernel_rfl) afk C5
def QI (x:I3):aK:=⟨[],⟨di 23 0 [(3,.v (.one (.ptr 0 0))),(4,.v (.one (.i .i64))),(8,.v (.one (.i .i64)))],[.cells [.i .i64,.i .i64,.i .i64] 124],0,none,[],[],[2,3,4,0,1],[.i,.i,.i,.i,.i],[]⟩,[⟨(.exit 0),.normal,⟨di 23 0 [(4,.v (.one (.i .i64)))],[],0,none,[],[],[0],[.i],[]⟩⟩]⟩
def e7 (x:I3) (s:(Int×Int×I3)):(Int×Int×I3)⊕Int:=
 (if (s.2.2.2.2<3) then
 (aq (DJ (List.getD [s.1,s.2.1,s.2.2.1] (0+(s.2.2.2.2.toNat*1)) 0)) fun y=>
 (aq (DJ (List.getD [s.1,s.2.1,s.2.2.1] (0+(s.2.2.2.1.toNat*1)) 0)) fun aB=>
 (if (y<aB) then
 (Sum.inl (s.1,s.2.1,s.2.2.1,s.2.2.2.2,(av (s.2.2.2.2+1)))) else
 (Sum.inl (s.1,s.2.1,s.2.2.1,s.2.2.2.1,(av (s.2.2.2.2+1))))))) else
 (Sum.inr (s.2.2.2.1)))
def Ba (x:I3) (s:(Int×Int×I3)):Prop:=
 ((s.2.2.2.2<3)->
 (((0<=s.2.2.2.2)/\ (s.2.2.2.2<3))/\
 ((((0+(s.2.2.2.2.toNat*1))+1)<=3)/\
 (aC (DJ (List.getD [s.1,s.2.1,s.2.2.1] (0+(s.2.2.2.2.toNat*1)) 0)) fun y=>
 (((0<=s.2.2.2.1)/\ (s.2.2.2.1<3))/\
 (((0+(s.2.2.2.1.toNat*1))+1)<=3))))))
def HN (x:I3) (s:(Int×Int×I3)):Tr ((Int×Int×I3)⊕Int) true:=
 (.i10 (s.2.2.2.2<3)
 (.oR s.2.2.2.2 3
 (.od (((0+((tN s.2.2.2.2)*1))+1)<=3)
 (.fn0 HV (List.getD [s.1,s.2.1,s.2.2.1] (0+((tN s.2.2.2.2)*1)) z0) trivial fun y=>
 (.oR s.2.2.2.1 3
 (.od (((0+((tN s.2.2.2.1)*1))+1)<=3)
 (.fn0 HV (List.getD [s.1,s.2.1,s.2.2.1] (0+((tN s.2.2.2.1)*1)) z0) trivial fun aB=>
 (.tF (y<aB)
 (.ret (.inl (s.1,s.2.1,s.2.2.1,s.2.2.2.2,(w1 s.2.2.2.2))))
 (.ret (.inl (s.1,s.2.1,s.2.2.1,s.2.2.2.1,(w1 s.2.2.2.2)))))))))))
 (.ret (.inr (s.2.2.2.1))))
def QH (x:I3):Int:=
 (aq (fV x) fun y=>
 (aq (run (e7 x) (y.1,y.2.1,y.2.2,0,0)) fun r=>
 r))
def wX (x:I3):Prop:=
 (aC (fV x) fun y=>
 (Term (e7 x) (Ba x) (y.1,y.2.1,y.2.2,0,0)))
def afi (x:I3):Tr Int true:=
 (.fn0 gP x trivial fun y=>
 (aK.lp (QI x) (HN x) (y.1,y.2.1,y.2.2,Cq) fun r=>
 (.ret r)))
abbrev En:bY:=⟨(.agg aM),(.one yi),wX,QH⟩
theorem ab7:ai Tryz.prog 129 (ak En):=ai.tr En afi (fn:=Tryz.f129) aA yI mixed (by kernel_rfl) (ax.nil _ _) (fun x=>(ay.tr aA (ah.dX yI (ax.nil _ _)) mixed 0 (QI x) (HN x) ay.nil (by kernel_rfl) fun g s Q=>(by kernel_rfl))) (fun x=>(by kernel_rfl)) fun x Q=>(by kernel_rfl)
def Ql:List (Nat×Ev.Spec):=(129,ak En)::U5
theorem Dh:ah Tryz.prog Ql:=ah.add (fn:=Tryz.f129) (by kernel_rfl) ab7 yI
def x4 (x:Int):Int:=
 (aq (Fp (x,1024)) fun y=>
 y)
def ov (x:Int):Prop:=
 (rQ (x,1024))
def Zh (x:Int):Tr Int true:=
 (.fn uh (x,1024) fun y=>
 (.ret y))
abbrev qO:bY:=⟨(.one yi),(.one yi),ov,x4⟩
theorem V4:ai Tryz.prog 147 (ak qO):=ai.tr qO Zh (fn:=Tryz.f147) aA Dh mixed (by kernel_rfl) (ax.nil _ _) (fun x=>ay.nil) (fun x=>(by kernel_rfl)) fun x Q=>(by kernel_rfl)
def KA:List (Nat×Ev.Spec):=(147,ak qO)::Ql
theorem sP:ah Tryz.prog KA:=ah.add (fn:=Tryz.f147) (by kernel_rfl) V4 Dh
def Y1 (x:(I3×Bool)):I3:=
 (aq (x4 x.1.1) fun y=>
 (aq (x4 x.1.2.1) fun aB=>
 (aq (x4 x.1.2.2) fun y_2=>
 (y,aB,y_2))))
def Bz (x:(I3×Bool)):Prop:=
 ((ov x.1.1)/\
 aC (x4 x.1.1) fun y=>
 ((ov x.1.2.1)/\
 aC (x4 x.1.2.1) fun aB=>
 (ov x.1.2.2)))
def adn (x:(I3×Bool)):Tr I3 true:=
 (.fn qO x.1.1 fun y=>
 (.fn qO x.1.2.1 fun aB=>
 (.fn qO x.1.2.2 fun y_2=>
 (.ret (y,aB,y_2)))))
abbrev zh:bY:=⟨(.pair (.agg aM) (.iP 147 .none)),(.agg aM),Bz,Y1⟩
theorem Y2:ai Tryz.prog 70 (ak zh):=ai.tr zh adn (fn:=Tryz.f70) aA sP mixed (by kernel_rfl) (ax.nil _ _) (fun x=>(ay.nH aA (ah.dX sP (ax.nil _ _)) mixed 0 4 ay.nil (by kernel_rfl))) (fun x=>(by kernel_rfl)) fun x Q=>(by kernel_rfl)
def PJ:List (Nat×Ev.Spec):=(70,vT zh.p (ak zh) (ak zi))::KA
theorem C0:ah Tryz.prog PJ:=ah.add (fn:=Tryz.f70) (by kernel_rfl) (rG Y2 (N0)) sP
def Oc (x:I3):I3:=
 (aq (TL x) fun y=>
 (aq (Y1 (y,false)) fun aB=>
 (aq (Fv aB) fun y_2=>
 y_2)))
def qP (x:I3):Prop:=
 (aC (TL x) fun y=>
 (Bz (y,false)))
def adG (x:I3):Tr I3 true:=
 (.fn0 Cx x trivial fun y=>
 (.fn zh (y,false) fun aB=>
 (.fn0 x6 aB trivial fun y_2=>
 (.ret y_2))))
abbrev zo:bY:=⟨(.agg aM),(.agg aM),qP,Oc⟩
theorem Zi:ai Tryz.prog 131 (ak zo):=ai.tr zo adG (fn:=Tryz.f131) aA C0 mixed (by kernel_rfl) (ax.nil _ _) (fun x=>ay.nil) (fun x=>(by kernel_rfl)) fun x Q=>(by kernel_rfl)
def PU:List (Nat×Ev.Spec):=(131,ak zo)::PJ
theorem C4:ah Tryz.prog PU:=ah.add (fn:=Tryz.f131) (by kernel_rfl) Zi C0
def Oe (x:I3):(((I3×I3)×I3)×Int):=
 (aq (jE x) fun y=>
 (if ((y.2 !=0)=true) then
 ((((0,0,0),0,0,0),0,0,0),y.2) else
 (aq (QH y.1) fun aB=>
 (aq (Fv ((cond (Nat.beq (0+((Int.toNat (Int.tmod (av (aB+1)) 3))*1)) 0) 1 0),(cond (Nat.beq (0+((Int.toNat (Int.tmod (av (aB+1)) 3))*1)) 1) 1 0),(cond (Nat.beq (0+((Int.toNat (Int.tmod (av (aB+1)) 3))*1)) 2) 1 0))) fun y_2=>
 (aq (pH (y_2,y.1)) fun bk=>
 (if ((bk.2 !=0)=true) then
 ((((0,0,0),0,0,0),0,0,0),bk.2) else
 (aq (jE bk.1) fun bQ=>
 (if ((bQ.2 !=0)=true) then
 ((((0,0,0),0,0,0),0,0,0),bQ.2) else
 (aq (pH (y.1,bQ.1)) fun jt=>
 (if ((jt.2 !=0)=true) then
 ((((0,0,0),0,0,0),0,0,0),jt.2) else
 (aq (Oc jt.1) fun nI=>
 (((bQ.1,nI),y.1),0))))))))))))
def wh (x:I3):Prop:=
 ((cU x)/\
 aC (jE x) fun y=>
 (¬((y.2 !=0)=true)->
 ((wX y.1)/\
 aC (QH y.1) fun aB=>
 (((0<=(Int.tmod (av (aB+1)) 3))/\ ((Int.tmod (av (aB+1)) 3)<3))/\
 ((((0+((Int.toNat (Int.tmod (av (aB+1)) 3))*1))+1)<=3)/\
 (aC (Fv ((cond (Nat.beq (0+((Int.toNat (Int.tmod (av (aB+1)) 3))*1)) 0) 1 0),(cond (Nat.beq (0+((Int.toNat (Int.tmod (av (aB+1)) 3))*1)) 1) 1 0),(cond (Nat.beq (0+((Int.toNat (Int.tmod (av (aB+1)) 3))*1)) 2) 1 0))) fun y_2=>
 ((l6 (y_2,y.1))/\
 aC (pH (y_2,y.1)) fun bk=>
 (¬((bk.2 !=0)=true)->
 ((cU bk.1)/\
 aC (jE bk.1) fun bQ=>
 (¬((bQ.2 !=0)=true)->
 ((l6 (y.1,bQ.1))/\
 aC (pH (y.1,bQ.1)) fun jt=>
 (¬((jt.2 !=0)=true)->
 (qP jt.1)))))))))))))
def adI (x:I3):Tr (((I3×I3)×I3)×Int) true:=
 (.fn lN x fun y=>
 (.nM (y.2 !=z0)
 (.ret (((bX,bX),bX),y.2))
 (.fn En y.1 fun aB=>
 (.oR (Int.tmod (w1 aB) 3) 3
 (.od (((0+((tN (Int.tmod (w1 aB) 3))*1))+1)<=3)
 (.fn0 x6 ((cond (Nat.beq (0+((tN (Int.tmod (w1 aB) 3))*1)) 0) z1 z0),(cond (Nat.beq (0+((tN (Int.tmod (w1 aB) 3))*1)) 1) z1 z0),(cond (Nat.beq (0+((tN (Int.tmod (w1 aB) 3))*1)) 2) z1 z0)) trivial fun y_2=>
 (.fn nO (y_2,y.1) fun bk=>
 (.nM (bk.2 !=z0)
 (.ret (((bX,bX),bX),bk.2))
 (.fn lN bk.1 fun bQ=>
 (.nM (bQ.2 !=z0)
 (.ret (((bX,bX),bX),bQ.2))
 (.fn nO (y.1,bQ.1) fun jt=>
 (.nM (jt.2 !=z0)
 (.ret (((bX,bX),bX),jt.2))
 (.fn zo jt.1 fun nI=>
 (.ret (((bQ.1,nI),y.1),z0)))))))))))))))
abbrev DU:bY:=⟨(.agg aM),(.pair (.agg (Ty.prod (Ty.prod aM aM) aM)) (.one yi)),wh,Oe⟩
theorem Zj:ai Tryz.prog 103 (ak DU):=ai.tr DU adI (fn:=Tryz.f103) aA C4 mixed (by kernel_rfl) (ax.nil _ _) (fun x=>ay.nil) (fun x=>(by kernel_rfl)) fun x Q=>(by kernel_rfl)
def PW:List (Nat×Ev.Spec):=(103,ak DU)::PU
theorem vx:ah Tryz.prog PW:=ah.add (fn:=Tryz.f103) (by kernel_rfl) Zj C4
def fat (x:(((I3×I3)×I3)×I3)):I3:=
 (aq (TL x.1.1.1) fun y=>
 (aq (TL x.1.1.2) fun aB=>
 (aq (TL x.1.2) fun y_2=>
 (aq (Fv ((av ((av ((av (y.1*x.2.1))+(av (aB.1*x.2.2.1))))+(av (y_2.1*x.2.2.2)))),(av ((av ((av (y.2.1*x.2.1))+(av (aB.2.1*x.2.2.1))))+(av (y_2.2.1*x.2.2.2)))),(av ((av ((av (y.2.2*x.2.1))+(av (aB.2.2*x.2.2.1))))+(av (y_2.2.2*x.2.2.2)))))) fun bk=>
 (aq (Oc bk) fun bQ=>
 bQ)))))
def DR (x:(((I3×I3)×I3)×I3)):Prop:=
 (aC (TL x.1.1.1) fun y=>
 (aC (TL x.1.1.2) fun aB=>
 (aC (TL x.1.2) fun y_2=>
 (aC (Fv ((av ((av ((av (y.1*x.2.1))+(av (aB.1*x.2.2.1))))+(av (y_2.1*x.2.2.2)))),(av ((av ((av (y.2.1*x.2.1))+(av (aB.2.1*x.2.2.1))))+(av (y_2.2.1*x.2.2.2)))),(av ((av ((av (y.2.2*x.2.1))+(av (aB.2.2*x.2.2.1))))+(av (y_2.2.2*x.2.2.2)))))) fun bk=>
 (qP bk)))))
def ai7 (x:(((I3×I3)×I3)×I3)):Tr I3 true:=
 (.fn0 Cx x.1.1.1 trivial fun y=>
 (.fn0 Cx x.1.1.2 trivial fun aB=>
 (.fn0 Cx x.1.2 trivial fun y_2=>
 (.fn0 x6 ((av ((av ((av (y.1*x.2.1))+(av (aB.1*x.2.2.1))))+(av (y_2.1*x.2.2.2)))),(av ((av ((av (y.2.1*x.2.1))+(av (aB.2.1*x.2.2.1))))+(av (y_2.2.1*x.2.2.2)))),(av ((av ((av (y.2.2*x.2.1))+(av (aB.2.2*x.2.2.1))))+(av (y_2.2.2*x.2.2.2))))) trivial fun bk=>
 (.fn zo bk fun bQ=>
 (.ret bQ))))))
abbrev TK:bY:=⟨(.pair (.agg (Ty.prod (Ty.prod aM aM) aM)) (.pair (.one yi) (.pair (.one yi) (.one yi)))),(.agg aM),DR,fat⟩
theorem agS:ai Tryz.prog 104 (ak TK):=ai.tr TK ai7 (fn:=Tryz.f104) aA vx mixed (by kernel_rfl) (ax.nil _ _) (fun x=>(ay.nH aA (ah.dX vx (ax.nil _ _)) mixed 0 4 ay.nil (by kernel_rfl))) (fun x=>(by kernel_rfl)) fun x Q=>(by kernel_rfl)
def abD:List (Nat×Ev.Spec):=(104,ak TK)::PW
theorem Ky:ah Tryz.prog abD:=ah.add (fn:=Tryz.f104) (by kernel_rfl) agS vx
def zk (x:(I3×I2)):(I3×Int):=
 (aq (Oe x.1) fun y=>
 (if ((y.2 !=0)=true) then
 ((0,0,0),y.2) else
 (if ((bt x.2.1 x.2.2)<(-1024)) then
 ((0,0,0),1) else
 (if ((bf x.2.1 x.2.2)>1024) then
 ((0,0,0),1) else
 (aq (Bh (bf (av ((av (1048576- (av (x.2.1*x.2.1))))- (av (x.2.2*x.2.2)))) 0)) fun aB=>
 (aq (fat (y.1,x.2.1,x.2.2,aB.1)) fun y_2=>
 (y_2,aB.2)))))))
def pL (x:(I3×I2)):Prop:=
 ((wh x.1)/\
 aC (Oe x.1) fun y=>
 (¬((y.2 !=0)=true)->
 (¬((bt x.2.1 x.2.2)<(-1024))->
 (¬((bf x.2.1 x.2.2)>1024)->
 ((nX (bf (av ((av (1048576- (av (x.2.1*x.2.1))))- (av (x.2.2*x.2.2)))) 0))/\
 aC (Bh (bf (av ((av (1048576- (av (x.2.1*x.2.1))))- (av (x.2.2*x.2.2)))) 0)) fun aB=>
 (DR (y.1,x.2.1,x.2.2,aB.1)))))))
def VY (x:(I3×I2)):Tr (I3×Int) true:=
 (.fn DU x.1 fun y=>
 (.nM (y.2 !=z0)
 (.ret (bX,y.2))
 (.FN ((bt x.2.1 x.2.2)<(-1024))
 (.ret (bX,z1))
 (.FN ((bf x.2.1 x.2.2)>1024)
 (.ret (bX,z1))
 (.fn Bi (bf (av ((av (1048576- (av (x.2.1*x.2.1))))- (av (x.2.2*x.2.2)))) z0) fun aB=>
 (.fn TK (y.1,x.2.1,x.2.2,aB.1) fun y_2=>
 (.ret (y_2,aB.2))))))))
abbrev v8:bY:=⟨(.pair (.agg aM) (.agg fX)),(.pair (.agg aM) (.one yi)),pL,zk⟩
theorem Rr:ai Tryz.prog 76 (ak v8):=ai.tr v8 VY (fn:=Tryz.f76) aA Ky mixed (by kernel_rfl) (ax.nil _ _) (fun x=>ay.nil) (fun x=>(by kernel_rfl)) fun x Q=>(by kernel_rfl)
def GQ:List (Nat×Ev.Spec):=(76,ak v8)::abD
theorem xB:ah Tryz.prog GQ:=ah.add (fn:=Tryz.f76) (by kernel_rfl) Rr Ky
def uo (x:(I3×I3)):I2:=
 (if ((bt (bt (bt (bt (bt x.1.1 x.1.2.1) x.1.2.2) x.2.1) x.2.2.1) x.2.2.2)<(-2048)) then
 (0,5) else
 (if ((bf (bf (bf (bf (bf x.1.1 x.1.2.1) x.1.2.2) x.2.1) x.2.2.1) x.2.2.2)>2048) then
 (0,5) else
 (aq (QJ x) fun y=>
 ((bt (av (Int.tdiv (bf y.1 0) 1024)) 1024),y.2))))
def jX (x:(I3×I3)):Prop:=
 (¬((bt (bt (bt (bt (bt x.1.1 x.1.2.1) x.1.2.2) x.2.1) x.2.2.1) x.2.2.2)<(-2048))->
 (¬((bf (bf (bf (bf (bf x.1.1 x.1.2.1) x.1.2.2) x.2.1) x.2.2.1) x.2.2.2)>2048)->
 (oT x)))
def Ru (x:(I3×I3)):Tr I2 true:=
 (.FN ((bt (bt (bt (bt (bt x.1.1 x.1.2.1) x.1.2.2) x.2.1) x.2.2.1) x.2.2.2)<(-2048))
 (.ret (z0,5))
 (.FN ((bf (bf (bf (bf (bf x.1.1 x.1.2.1) x.1.2.2) x.2.1) x.2.2.1) x.2.2.2)>2048)
 (.ret (z0,5))
 (.fn HO x fun y=>
 (.ret ((bt (av (Int.tdiv (bf y.1 z0) 1024)) 1024),y.2)))))
abbrev ou:bY:=⟨(.pair (.agg aM) (.agg aM)),(.pair (.one yi) (.one yi)),jX,uo⟩
theorem Ob:ai Tryz.prog 37 (ak ou):=ai.tr ou Ru (fn:=Tryz.f37) aA xB mixed (by kernel_rfl) (ax.nil _ _) (fun x=>ay.nil) (fun x=>(by kernel_rfl)) fun x Q=>(by kernel_rfl)
def C2:List (Nat×Ev.Spec):=(37,ak ou)::GQ
theorem vw:ah Tryz.prog C2:=ah.add (fn:=Tryz.f37) (by kernel_rfl) Ob xB
def j6 (x:I2):Bool:=
 (if (x.1>=0) then
 (decide (x.1<=x.2)) else
 false)
def Oo (_:I2):Prop:=True
def Wc (x:I2):Tr Bool false:=
 (.tF (x.1>=z0)
 (.ret (decide (x.1<=x.2)))
 (.ret false))
abbrev lq:bY:=⟨(.pair (.one yi) (.one yi)),(.one Ty.bool),Oo,j6⟩
theorem RB:ai Tryz.prog 50 (ak lq):=ai.tr lq Wc (fn:=Tryz.f50) aA vw mixed (by kernel_rfl) (ax.nil _ _) (fun x=>ay.nil) (fun x=>(by kernel_rfl)) fun x Q=>(by kernel_rfl)
def GX:List (Nat×Ev.Spec):=(50,ak lq)::C2
theorem xF:ah Tryz.prog GX:=ah.add (fn:=Tryz.f50) (by kernel_rfl) RB vw
def oz (x:Int):Bool:=
 (if ((x !=0)=true) then
 default else
 false)
def fx (x:Int):Prop:=
 (((x !=0)=true)->
 False)
def adP (x:Int):Tr Bool true:=
 (.Dw (x !=z0)
 (.og false False False.elim (.ret default))
 (.ret false))
abbrev jm:bY:=⟨(.one yi),.none,fx,oz⟩
theorem Zs:ai Tryz.prog 41 (ak jm):=ai.tr jm adP (fn:=Tryz.f41) aA xF mixed (by kernel_rfl) (ax.nil _ _) (fun x=>ay.nil) (fun x=>(by kernel_rfl)) fun x Q=>(by kernel_rfl)
def P0:List (Nat×Ev.Spec):=(41,ak jm)::GX
theorem C7:ah Tryz.prog P0:=ah.add (fn:=Tryz.f41) (by kernel_rfl) Zs xF
def rU (x:I9):I3:=
 (aq (ni x) fun y=>
 (aq (oz y.2) fun aB=>
 (if ((!(((av (Int.tdiv y.1.1 16384))==0)&&(((av (Int.tdiv y.1.2.1 16384))==0)&&(((av (Int.tdiv y.1.2.2 16384))==0)&&true))))=true) then
 ((av (Int.tdiv y.1.1 16384)),(av (Int.tdiv y.1.2.1 16384)),(av (Int.tdiv y.1.2.2 16384))) else
 y.1)))
def l8 (x:I9):Prop:=
 ((iE x)/\
 aC (ni x) fun y=>
 (fx y.2))
def Wa (x:I9):Tr I3 true:=
 (.fn q7 x fun y=>
 (.fn jm y.2 fun aB=>
 (.qH (!(((av (Int.tdiv y.1.1 16384))==z0)&&(((av (Int.tdiv y.1.2.1 16384))==z0)&&(((av (Int.tdiv y.1.2.2 16384))==z0)&&true))))
 (.ret ((av (Int.tdiv y.1.1 16384)),(av (Int.tdiv y.1.2.1 16384)),(av (Int.tdiv y.1.2.2 16384))))
 (.ret y.1))))
abbrev qS:bY:=⟨(.agg dF),(.agg aM),l8,rU⟩
theorem Rz:ai Tryz.prog 42 (ak qS):=ai.tr qS Wa (fn:=Tryz.f42) aA C7 mixed (by kernel_rfl) (ax.nil _ _) (fun x=>ay.nil) (fun x=>(by kernel_rfl)) fun x Q=>(by kernel_rfl)
def GV:List (Nat×Ev.Spec):=(42,ak qS)::P0
theorem xD:ah Tryz.prog GV:=ah.add (fn:=Tryz.f42) (by kernel_rfl) Rz C7
def Cy (x:I2):Int:=
 (aq (Cn ((av (x.1*x.2)),1024)) fun y=>
 (aq (oz y.2.2) fun aB=>
 y.1))
def nS (x:I2):Prop:=
 ((oW ((av (x.1*x.2)),1024))/\
 aC (Cn ((av (x.1*x.2)),1024)) fun y=>
 (fx y.2.2))
def adM (x:I2):Tr Int true:=
 (.fn vP ((av (x.1*x.2)),1024) fun y=>
 (.fn jm y.2.2 fun aB=>
 (.ret y.1)))
abbrev wj:bY:=⟨(.pair (.one yi) (.ptr (.int .i64))),(.one yi),nS,Cy⟩
theorem Zo:ai Tryz.prog 94 (ak wj):=ai.tr wj adM (fn:=Tryz.f94) aA xD mixed (by kernel_rfl) (ax.nil _ _) (fun x=>ay.nil) (fun x=>(by kernel_rfl)) fun x Q=>(by kernel_rfl)
def PZ:List (Nat×Ev.Spec):=(94,ak wj)::GV
theorem C6:ah Tryz.prog PZ:=ah.add (fn:=Tryz.f94) (by kernel_rfl) Zo xD
def wk (x:(I3×I3×Int)):I3:=
 (aq (Cy (x.2.1.1,x.2.2)) fun y=>
 (aq (Cy (x.2.1.2.1,x.2.2)) fun aB=>
 (aq (Cy (x.2.1.2.2,x.2.2)) fun y_2=>
 ((av (x.1.1+y)),(av (x.1.2.1+aB)),(av (x.1.2.2+y_2))))))
def l7 (x:(I3×I3×Int)):Prop:=
 ((nS (x.2.1.1,x.2.2))/\
 aC (Cy (x.2.1.1,x.2.2)) fun y=>
 ((nS (x.2.1.2.1,x.2.2))/\
 aC (Cy (x.2.1.2.1,x.2.2)) fun aB=>
 (nS (x.2.1.2.2,x.2.2))))
def V8 (x:(I3×I3×Int)):Tr I3 true:=
 (.fn wj (x.2.1.1,x.2.2) fun y=>
 (.fn wj (x.2.1.2.1,x.2.2) fun aB=>
 (.fn wj (x.2.1.2.2,x.2.2) fun y_2=>
 (.ret ((av (x.1.1+y)),(av (x.1.2.1+aB)),(av (x.1.2.2+y_2)))))))
abbrev qQ:bY:=⟨(.pair (.agg aM) (.pair (.agg aM) (.one yi))),(.agg aM),l7,wk⟩
theorem Rx:ai Tryz.prog 60 (ak qQ):=ai.tr qQ V8 (fn:=Tryz.f60) aA C6 mixed (by kernel_rfl) (ax.nil _ _) (fun x=>ay.nil) (fun x=>(by kernel_rfl)) fun x Q=>(by kernel_rfl)
def GU:List (Nat×Ev.Spec):=(60,ak qQ)::PZ
theorem xC:ah Tryz.prog GU:=ah.add (fn:=Tryz.f60) (by kernel_rfl) Rx C6
end Go.Proofs.YtngdehlpoomaiaaGreat
