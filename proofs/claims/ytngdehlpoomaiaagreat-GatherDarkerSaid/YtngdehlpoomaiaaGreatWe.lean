/- Models of light's functions, and of gather.Is. -/
import Derived.Test.YtngdehlpoomaiaaGreatLb
import Derived.Test.YtngdehlpoomaiaaGreatEvR
import Derived.Test.YtngdehlpoomaiaaGreatWb
noncomputable section
set_option linter.unusedSectionVars false
set_option linter.unusedVariables false
set_option linter.unusedSimpArgs false
namespace Go.Proofs.YtngdehlpoomaiaaGreat
open Go Go.Ev Go.Proofs
def r7 (x:I2):Bool:=
 (if (x.1>=0) then
 (decide (x.1<=x.2)) else
 false)
def N7 (_:I2):Prop:=True
def V8 (x:I2):Tr Bool false:=
 (.oq (x.1>=z0)
 (.ret (decide (x.1<=x.2)))
 (.ret false))
abbrev qR:cf:=⟨(.pair (.one yi) (.one yi)),(.one Ty.bool),N7,r7⟩
theorem Rt:ah Tryz.prog 97 (ak qR):=ah.tr qR V8 (fn:=Tryz.f97) az xj mixed (by kernel_rfl) (av.nil _ _) (fun x=>ax.nil) (fun x=>(by kernel_rfl)) fun x Q=>(by kernel_rfl)
def Gy:List (Nat×Ev.Spec):=(97,ak qR)::Gj
theorem xo:af Tryz.prog Gy:=af.add (fn:=Tryz.f97) (by kernel_rfl) Rt xj
def Bv (x:(Int×I3×I3×I2)):Bool:=
 (if (x.1>=1) then
 (if (x.1<=3) then
 (aj (r7 (x.2.2.2.1,255)) fun y=>
 (if (y=true) then
 (aj (r7 (x.2.2.2.2,1024)) fun aA=>
 (if (aA=true) then
 (aj (ef [x.2.1,x.2.2.1]) fun y_2=>
 (if (y_2=true) then
 (if ((x.1==2)=true) then
 true else
 (!((x.2.2.1.1==0)&&((x.2.2.1.2.1==0)&&((x.2.2.1.2.2==0)&&true))))) else
 false)) else
 false)) else
 false)) else
 false) else
 false)
def ov (x:(Int×I3×I3×I2)):Prop:=
 ((x.1>=1)->
 ((x.1<=3)->
 (aB (r7 (x.2.2.2.1,255)) fun y=>
 ((y=true)->
 (aB (r7 (x.2.2.2.2,1024)) fun aA=>
 ((aA=true)->
 (cA [x.2.1,x.2.2.1])))))))
def ZR (x:(Int×I3×I3×I2)):Tr Bool true:=
 (.i10 (x.1>=z1)
 (.i10 (x.1<=3)
 (.fn0 qR (x.2.2.2.1,255) trivial fun y=>
 (.Db y
 (.fn0 qR (x.2.2.2.2,1024) trivial fun aA=>
 (.Db aA
 (.fn ej [x.2.1,x.2.2.1] fun y_2=>
 (.iQ y_2
 (.iQ (x.1==2)
 (.ret true)
 (.ret (!((x.2.2.1.1==z0)&&((x.2.2.1.2.1==z0)&&((x.2.2.1.2.2==z0)&&true))))))
 (.ret false)))
 (.ret false)))
 (.ret false)))
 (.ret false))
 (.ret false))
abbrev uD:cf:=⟨(.agg (Ty.prod yi (Ty.prod aO (Ty.prod aO gZ)))),(.one Ty.bool),ov,Bv⟩
theorem V2:ah Tryz.prog 64 (ak uD):=ah.tr uD ZR (fn:=Tryz.f64) az xo mixed (by kernel_rfl) (av.nil _ _) (fun x=>ax.nil) (fun x=>(by kernel_rfl)) fun x Q=>(by kernel_rfl)
def Kf:List (Nat×Ev.Spec):=(64,ak uD)::Gy
theorem Aw:af Tryz.prog Kf:=af.add (fn:=Tryz.f64) (by kernel_rfl) V2 xo
def Jf (x:I3):I3:=
 ((au (0- x.1)),(au (0- x.2.1)),(au (0- x.2.2)))
def VT (_:I3):Prop:=True
def adn (x:I3):Tr I3 false:=
 (.ret ((au (z0- x.1)),(au (z0- x.2.1)),(au (z0- x.2.2))))
abbrev zu:cf:=⟨(.agg aO),(.agg aO),VT,Jf⟩
theorem ZF:ah Tryz.prog 74 (ak zu):=ah.tr zu adn (fn:=Tryz.f74) az Aw mixed (by kernel_rfl) (av.nil _ _) (fun x=>ax.nil) (fun x=>(by kernel_rfl)) fun x Q=>(by kernel_rfl)
def O6:List (Nat×Ev.Spec):=(74,ak zu)::Kf
theorem CN:af Tryz.prog O6:=af.add (fn:=Tryz.f74) (by kernel_rfl) ZF Aw
def LH (x:((Int×I3×I3×I2)×I3)):(I3×I3×Int):=
 (aj (jK x.1.2.2.1) fun y=>
 (aj (Jf y.1) fun aA=>
 (aA,((au (x.2.1+(au (4*aA.1)))),(au (x.2.2.1+(au (4*aA.2.1)))),(au (x.2.2.2+(au (4*aA.2.2))))),y.2)))
def rV (x:((Int×I3×I3×I2)×I3)):Prop:=
 (c8 x.1.2.2.1)
def ZE (x:((Int×I3×I3×I2)×I3)):Tr (I3×I3×Int) true:=
 (.fn lK x.1.2.2.1 fun y=>
 (.fn0 zu y.1 trivial fun aA=>
 (.ret (aA,((au (x.2.1+(au (4*aA.1)))),(au (x.2.2.1+(au (4*aA.2.1)))),(au (x.2.2.2+(au (4*aA.2.2))))),y.2))))
abbrev zo:cf:=⟨(.agg (Ty.prod (Ty.prod yi (Ty.prod aO (Ty.prod aO gZ))) aO)),(.pair (.agg aO) (.pair (.agg aO) (.one yi))),rV,LH⟩
theorem VO:ah Tryz.prog 65 (ak zo):=ah.tr zo ZE (fn:=Tryz.f65) az CN mixed (by kernel_rfl) (av.nil _ _) (fun x=>ax.nil) (fun x=>(by kernel_rfl)) fun x Q=>(by kernel_rfl)
def Kc:List (Nat×Ev.Spec):=(65,ak zo)::O6
theorem Au:af Tryz.prog Kc:=af.add (fn:=Tryz.f65) (by kernel_rfl) VO CN
def N0 (x:((Int×I3×I3×I2)×I3)):(I3×I3×Int):=
 (aj (jK ((au (x.1.2.1.1- x.2.1)),(au (x.1.2.1.2.1- x.2.2.1)),(au (x.1.2.1.2.2- x.2.2.2)))) fun y=>
 (if ((y.2 !=0)=true) then
 ((0,0,0),(0,0,0),y.2) else
 (y.1,x.1.2.1,0)))
def qN (x:((Int×I3×I3×I2)×I3)):Prop:=
 (c8 ((au (x.1.2.1.1- x.2.1)),(au (x.1.2.1.2.1- x.2.2.1)),(au (x.1.2.1.2.2- x.2.2.2))))
def ads (x:((Int×I3×I3×I2)×I3)):Tr (I3×I3×Int) true:=
 (.fn lK ((au (x.1.2.1.1- x.2.1)),(au (x.1.2.1.2.1- x.2.2.1)),(au (x.1.2.1.2.2- x.2.2.2))) fun y=>
 (.iQ (y.2 !=z0)
 (.ret (bH,bH,y.2))
 (.ret (y.1,x.1.2.1,z0))))
abbrev zx:cf:=⟨(.agg (Ty.prod (Ty.prod yi (Ty.prod aO (Ty.prod aO gZ))) aO)),(.pair (.agg aO) (.pair (.agg aO) (.one yi))),qN,N0⟩
theorem ZL:ah Tryz.prog 66 (ak zx):=ah.tr zx ads (fn:=Tryz.f66) az Au mixed (by kernel_rfl) (av.nil _ _) (fun x=>ax.nil) (fun x=>(by kernel_rfl)) fun x Q=>(by kernel_rfl)
def O9:List (Nat×Ev.Spec):=(66,ak zx)::Kc
theorem CP:af Tryz.prog O9:=af.add (fn:=Tryz.f66) (by kernel_rfl) ZL Au
def NW (x:((Int×I3×I3×I2)×I3)):Bool:=
 (if ((x.1.1 !=3)=true) then
 false else
 (aj (jK x.1.2.2.1) fun y=>
 (aj (Jf x.2) fun aA=>
 (aj (tQ (y.1,aA)) fun y_2=>
 (decide (y_2.1<x.1.2.2.2.2))))))
def vY (x:((Int×I3×I3×I2)×I3)):Prop:=
 (¬((x.1.1 !=3)=true)->
 ((c8 x.1.2.2.1)/\
 aB (jK x.1.2.2.1) fun y=>
 (aB (Jf x.2) fun aA=>
 (ke (y.1,aA)))))
def adp (x:((Int×I3×I3×I2)×I3)):Tr Bool true:=
 (.kO (x.1.1 !=3)
 (.ret false)
 (.fn lK x.1.2.2.1 fun y=>
 (.fn0 zu x.2 trivial fun aA=>
 (.fn oe (y.1,aA) fun y_2=>
 (.ret (decide (y_2.1<x.1.2.2.2.2)))))))
abbrev DJ:cf:=⟨(.pair (.agg (Ty.prod yi (Ty.prod aO (Ty.prod aO gZ)))) (.agg aO)),(.one Ty.bool),vY,NW⟩
theorem ZG:ah Tryz.prog 36 (ak DJ):=ah.tr DJ adp (fn:=Tryz.f36) az CP mixed (by kernel_rfl) (av.nil _ _) (fun x=>ax.nil) (fun x=>(by kernel_rfl)) fun x Q=>(by kernel_rfl)
def O7:List (Nat×Ev.Spec):=(36,ak DJ)::O9
theorem vg:af Tryz.prog O7:=af.add (fn:=Tryz.f36) (by kernel_rfl) ZG CP
def ZM (x:(List (Int×I3×I3×I2))):aL:=⟨[],⟨dL 15 0 [(5,.v (.one (.full 0))),(6,.v (.one (.i .i64))),(7,.v (.one (.i .i64)))],[.row (Ty.prod yi (Ty.prod aO (Ty.prod aO gZ))) 0],0,none,[],[0,2],[1],[.i],[.i (x.length:Int),.l (Ty.prod yi (Ty.prod aO (Ty.prod aO gZ))) x]⟩,[⟨.ret,.ret,⟨dL 15 0 [(2,.v (.one (.b)))],[],0,none,[],[0],[],[],[.b false]⟩⟩,⟨(.exit 0),.normal,⟨dL 15 0 [],[],0,none,[],[],[],[],[]⟩⟩]⟩
def pF (x:(List (Int×I3×I3×I2))) (s:Int):Int⊕(Unit⊕Unit):=
 (if (s<(x.length:Int)) then
 (aj (Bv (x.getD s.toNat (0,(0,0,0),(0,0,0),0,0))) fun y=>
 (if ((!y)=true) then
 (Sum.inr (Sum.inl ())) else
 (Sum.inl (au (s+1))))) else
 (Sum.inr (Sum.inr (()))))
def Fx (x:(List (Int×I3×I3×I2))) (s:Int):Prop:=
 ((s<(x.length:Int))->
 (((0<=s)/\ (s<(x.length:Int)))/\
 ((s.toNat<x.length)/\
 ((s.toNat<x.length)/\
 (ov (x.getD s.toNat (0,(0,0,0),(0,0,0),0,0)))))))
def N3 (x:(List (Int×I3×I3×I2))) (s:Int):Tr (Int⊕(Unit⊕Unit)) true:=
 (.i10 (s<(nL x))
 (.nc s x
 (.fn uD (gT x s (z0,bH,bH,A2)) fun y=>
 (.iQ (!y)
 (.ret (.inr (Sum.inl ())))
 (.ret (.inl (w1 s))))))
 (.ret (.inr (Sum.inr (())))))
def lis (x:(List (Int×I3×I3×I2))):Bool:=
 (aj (run (pF x) 0) fun r=>
 (Sum.elim (fun a=>
 false) (fun b=>
 true) r))
def zy (x:(List (Int×I3×I3×I2))):Prop:=
 (Term (pF x) (Fx x) 0)
def ai4 (x:(List (Int×I3×I3×I2))):Tr Bool true:=
 (aL.lp (ZM x) (N3 x) z0 fun r=>
 (.OD r (fun a=>
 (.ret false)) (fun b=>
 (.ret true))))
abbrev Tj:cf:=⟨(.one (Ty.sl (Ty.prod yi (Ty.prod aO (Ty.prod aO gZ))))),(.one Ty.bool),zy,lis⟩
theorem agA:ah Tryz.prog 51 (ak Tj):=ah.tr Tj ai4 (fn:=Tryz.f51) az vg mixed (by kernel_rfl) (av.nil _ _) (fun x=>(ax.tr az (af.eA vg (av.nil _ _)) mixed 0 (ZM x) (N3 x) ax.nil (by kernel_rfl) fun g s Q=>(by kernel_rfl))) (fun x=>(by kernel_rfl)) fun x Q=>(by kernel_rfl)
def aaM:List (Nat×Ev.Spec):=(51,ak Tj)::O7
theorem BS:af Tryz.prog aaM:=af.add (fn:=Tryz.f51) (by kernel_rfl) agA vg
def Tm (x:(List Int)):aL:=⟨[],⟨dL 20 0 [(3,.v (.one (.i .i64))),(6,.v (.one (.full 0))),(7,.v (.one (.i .i64))),(8,.v (.one (.i .i64)))],[.row yi 0],0,none,[],[1,3],[0,2],[.i,.i],[.i (x.length:Int),.l yi x]⟩,[⟨(.exit 0),.normal,⟨dL 20 0 [(3,.v (.one (.i .i64)))],[],0,none,[],[],[0],[.i],[]⟩⟩]⟩
def kA (x:(List Int)) (s:I2):I2⊕Int:=
 (if (s.2<(x.length:Int)) then
 (Sum.inl ((aY (au (s.1+(aY (aT (x.getD s.2.toNat 0) 0) 255))) 255),(au (s.2+1)))) else
 (Sum.inr (s.1)))
def pH (x:(List Int)) (s:I2):Prop:=
 ((s.2<(x.length:Int))->
 (((0<=s.2)/\ (s.2<(x.length:Int)))/\
 ((s.2.toNat<x.length)/\
 (s.2.toNat<x.length))))
def Jk (x:(List Int)) (s:I2):Tr (I2⊕Int) true:=
 (.i10 (s.2<(nL x))
 (.nc s.2 x
 (.ret (.inl ((aY (au (s.1+(aY (aT (gI x s.2) z0) 255))) 255),(w1 s.2)))))
 (.ret (.inr (s.1))))
def V4 (x:(List Int)):Int:=
 (aj (run (kA x) (0,0)) fun r=>
 r)
def qO (x:(List Int)):Prop:=
 (Term (kA x) (pH x) (0,0))
def agD (x:(List Int)):Tr Int true:=
 (aL.lp (Tm x) (Jk x) A2 fun r=>
 (.ret r))
abbrev Bw:cf:=⟨(.one (Ty.sl yi)),(.one yi),qO,V4⟩
theorem adw:ah Tryz.prog 14 (ak Bw):=ah.tr Bw agD (fn:=Tryz.f14) az BS mixed (by kernel_rfl) (av.nil _ _) (fun x=>(ax.tr az (af.eA BS (av.nil _ _)) mixed 0 (Tm x) (Jk x) ax.nil (by kernel_rfl) fun g s Q=>(by kernel_rfl))) (fun x=>(by kernel_rfl)) fun x Q=>(by kernel_rfl)
def Ub:List (Nat×Ev.Spec):=(14,ak Bw)::aaM
theorem Gw:af Tryz.prog Ub:=af.add (fn:=Tryz.f14) (by kernel_rfl) adw BS
def gis (x:(Int×Int×Int×Int×List (Int×I3×I3×I2))):Bool:=
 (aj (kp (x.1,64)) fun y=>
 (if (y=true) then
 (aj (kp (x.2.1,2048)) fun aA=>
 (if (aA=true) then
 (aj (kp (x.2.2.1,64)) fun y_2=>
 (if (y_2=true) then
 (aj (kp (x.2.2.2.1,255)) fun bg=>
 (if (bg=true) then
 (if ((x.2.2.2.2.length:Int)<=8) then
 (aj (lis x.2.2.2.2) fun bW=>
 bW) else
 false) else
 false)) else
 false)) else
 false)) else
 false))
def vR (x:(Int×Int×Int×Int×List (Int×I3×I3×I2))):Prop:=
 (aB (kp (x.1,64)) fun y=>
 ((y=true)->
 (aB (kp (x.2.1,2048)) fun aA=>
 ((aA=true)->
 (aB (kp (x.2.2.1,64)) fun y_2=>
 ((y_2=true)->
 (aB (kp (x.2.2.2.1,255)) fun bg=>
 ((bg=true)->
 (((x.2.2.2.2.length:Int)<=8)->
 (zy x.2.2.2.2))))))))))
def ah5 (x:(Int×Int×Int×Int×List (Int×I3×I3×I2))):Tr Bool true:=
 (.fn0 lf (x.1,64) trivial fun y=>
 (.Db y
 (.fn0 lf (x.2.1,2048) trivial fun aA=>
 (.Db aA
 (.fn0 lf (x.2.2.1,64) trivial fun y_2=>
 (.Db y_2
 (.fn0 lf (x.2.2.2.1,255) trivial fun bg=>
 (.Db bg
 (.i10 ((nL x.2.2.2.2)<=8)
 (.fn Tj x.2.2.2.2 fun bW=>
 (.ret bW))
 (.ret false))
 (.ret false)))
 (.ret false)))
 (.ret false)))
 (.ret false)))
abbrev IN:cf:=⟨(.agg (Ty.prod yi (Ty.prod yi (Ty.prod yi (Ty.prod yi (Ty.sl (Ty.prod yi (Ty.prod aO (Ty.prod aO gZ))))))))),(.one Ty.bool),vR,gis⟩
theorem afM:ah Tryz.prog 22 (ak IN):=ah.tr IN ah5 (fn:=Tryz.f22) az Gw mixed (by kernel_rfl) (av.nil _ _) (fun x=>ax.nil) (fun x=>(by kernel_rfl)) fun x Q=>(by kernel_rfl)
def aaI:List (Nat×Ev.Spec):=(22,ak IN)::Ub
theorem J0:af Tryz.prog aaI:=af.add (fn:=Tryz.f22) (by kernel_rfl) afM Gw
def zg (x:I2):Bool:=
 (if ((aY x.1 x.2)<0) then
 false else
 (if ((aT x.1 x.2)>65536) then
 false else
 (decide ((au ((au ((au ((au (2*x.1))- 65536))*(au ((au (2*x.1))- 65536))))+(au ((au ((au (2*x.2))- 65536))*(au ((au (2*x.2))- 65536))))))<=4294967296))))
def ND (_:I2):Prop:=True
def Vy (x:I2):Tr Bool false:=
 (.oq ((aY x.1 x.2)<z0)
 (.ret false)
 (.oq ((aT x.1 x.2)>65536)
 (.ret false)
 (.ret (decide ((au ((au ((au ((au (2*x.1))- 65536))*(au ((au (2*x.1))- 65536))))+(au ((au ((au (2*x.2))- 65536))*(au ((au (2*x.2))- 65536))))))<=4294967296)))))
abbrev vX:cf:=⟨(.agg gZ),(.one Ty.bool),ND,zg⟩
theorem QT:ah Tryz.prog 127 (ak vX):=ah.tr vX Vy (fn:=Tryz.f127) az J0 mixed (by kernel_rfl) (av.nil _ _) (fun x=>ax.nil) (fun x=>(by kernel_rfl)) fun x Q=>(by kernel_rfl)
def Gs:List (Nat×Ev.Spec):=(127,ak vX)::aaI
theorem xm:af Tryz.prog Gs:=af.add (fn:=Tryz.f127) (by kernel_rfl) QT J0
def rQ (x:Int):Int:=
 (au ((au (Int.tdiv (au ((au ((au (2*x))- 65536))+4194304)) 64))- 65536))
def QL (_:Int):Prop:=True
def Y6 (x:Int):Tr Int false:=
 (.ret (au ((au (Int.tdiv (au ((au ((au (2*x))- 65536))+4194304)) 64))- 65536)))
abbrev uh:cf:=⟨(.one yi),(.one yi),QL,rQ⟩
theorem Vx:ah Tryz.prog 128 (ak uh):=ah.tr uh Y6 (fn:=Tryz.f128) az xm mixed (by kernel_rfl) (av.nil _ _) (fun x=>ax.nil) (fun x=>(by kernel_rfl)) fun x Q=>(by kernel_rfl)
def J1:List (Nat×Ev.Spec):=(128,ak uh)::Gs
theorem Al:af Tryz.prog J1:=af.add (fn:=Tryz.f128) (by kernel_rfl) Vx xm
end Go.Proofs.YtngdehlpoomaiaaGreat
namespace Go.Proofs.YtngdehlpoomaiaaGreat
open Go Go.Ev Go.Proofs
def rZ (x:((Int×I3×I3×I2)×I3)):(I3×I3×Int):=
 (aj (Bv x.1) fun y=>
 (if ((!y)=true) then
 ((0,0,0),(0,0,0),1) else
 (if ((aY (aY x.2.1 x.2.2.1) x.2.2.2)<(-8192)) then
 ((0,0,0),(0,0,0),5) else
 (if ((aT (aT x.2.1 x.2.2.1) x.2.2.2)>8192) then
 ((0,0,0),(0,0,0),5) else
 (if (x.1.1=3) then
 (aj (N0 x) fun aA=>
 aA) else
 (if (x.1.1=2) then
 (aj (N0 x) fun aA=>
 aA) else
 (if (x.1.1=1) then
 (aj (LH x) fun aA=>
 aA) else
 default)))))))
def mq (x:((Int×I3×I3×I2)×I3)):Prop:=
 ((ov x.1)/\
 aB (Bv x.1) fun y=>
 (¬((!y)=true)->
 (¬((aY (aY x.2.1 x.2.2.1) x.2.2.2)<(-8192))->
 (¬((aT (aT x.2.1 x.2.2.1) x.2.2.2)>8192)->
 (((0<=x.1.1)/\ (x.1.1<4))/\
 (((x.1.1=3)->
 (qN x))/\
 (¬(x.1.1=3)->
 (((x.1.1=2)->
 (qN x))/\
 (¬(x.1.1=2)->
 (((x.1.1=1)->
 (rV x))/\
 (¬(x.1.1=1)->
 False)))))))))))
def V7 (x:((Int×I3×I3×I2)×I3)):Tr (I3×I3×Int) true:=
 (.fn uD x.1 fun y=>
 (.kO (!y)
 (.ret (bH,bH,z1))
 (.HX ((aY (aY x.2.1 x.2.2.1) x.2.2.2)<(-8192))
 (.ret (bH,bH,5))
 (.HX ((aT (aT x.2.1 x.2.2.1) x.2.2.2)>8192)
 (.ret (bH,bH,5))
 (.oR x.1.1 4
 (.i11 (x.1.1=3)
 (.fn zx x fun aA=>
 (.ret aA))
 (.i11 (x.1.1=2)
 (.fn zx x fun aA=>
 (.ret aA))
 (.i11 (x.1.1=z1)
 (.fn zo x fun aA=>
 (.ret aA))
 (.og false False False.elim (.ret default))))))))))
abbrev qQ:cf:=⟨(.pair (.agg (Ty.prod yi (Ty.prod aO (Ty.prod aO gZ)))) (.agg aO)),(.pair (.agg aO) (.pair (.agg aO) (.one yi))),mq,rZ⟩
theorem Rs:ah Tryz.prog 34 (ak qQ):=ah.tr qQ V7 (fn:=Tryz.f34) az Al mixed (by kernel_rfl) (av.nil _ _) (fun x=>ax.nil) (fun x=>(by kernel_rfl)) fun x Q=>(by kernel_rfl)
def Gx:List (Nat×Ev.Spec):=(34,ak qQ)::J1
theorem xn:af Tryz.prog Gx:=af.add (fn:=Tryz.f34) (by kernel_rfl) Rs Al
def xX (x:((Int×I3×I3×I2)×I3×I3)):I2:=
 (aj (rZ (x.1,x.2.1)) fun y=>
 (if ((y.2.2==0)=true) then
 (aj (jK x.2.2) fun aA=>
 (if ((aA.2 !=0)=true) then
 (0,aA.2) else
 (aj (NW (x.1,y.1)) fun y_2=>
 (if (y_2=true) then
 (0,0) else
 (aj (tQ (aA.1,y.1)) fun bg=>
 ((au (Int.tdiv (au (bg.1*x.1.2.2.2.1)) 1024)),bg.2)))))) else
 (if ((y.2.2==3)=true) then
 (0,0) else
 (0,y.2.2))))
def ow (x:((Int×I3×I3×I2)×I3×I3)):Prop:=
 ((mq (x.1,x.2.1))/\
 aB (rZ (x.1,x.2.1)) fun y=>
 (((y.2.2==0)=true)->
 ((c8 x.2.2)/\
 aB (jK x.2.2) fun aA=>
 (¬((aA.2 !=0)=true)->
 ((vY (x.1,y.1))/\
 aB (NW (x.1,y.1)) fun y_2=>
 (¬(y_2=true)->
 (ke (aA.1,y.1))))))))
def ZS (x:((Int×I3×I3×I2)×I3×I3)):Tr I2 true:=
 (.fn qQ (x.1,x.2.1) fun y=>
 (.Db (y.2.2==z0)
 (.fn lK x.2.2 fun aA=>
 (.kO (aA.2 !=z0)
 (.ret (z0,aA.2))
 (.fn DJ (x.1,y.1) fun y_2=>
 (.kO y_2
 (.ret A2)
 (.fn oe (aA.1,y.1) fun bg=>
 (.ret ((au (Int.tdiv (au (bg.1*x.1.2.2.2.1)) 1024)),bg.2)))))))
 (.iQ (y.2.2==3)
 (.ret A2)
 (.ret (z0,y.2.2)))))
abbrev uE:cf:=⟨(.pair (.agg (Ty.prod yi (Ty.prod aO (Ty.prod aO gZ)))) (.pair (.agg aO) (.agg aO))),(.pair (.one yi) (.one yi)),ow,xX⟩
theorem V3:ah Tryz.prog 13 (ak uE):=ah.tr uE ZS (fn:=Tryz.f13) az xn mixed (by kernel_rfl) (av.nil _ _) (fun x=>ax.nil) (fun x=>(by kernel_rfl)) fun x Q=>(by kernel_rfl)
def bT:List (Nat×Ev.Spec):=(13,ak uE)::Gx
theorem fY:af Tryz.prog bT:=af.add (fn:=Tryz.f13) (by kernel_rfl) V3 xn
end Go.Proofs.YtngdehlpoomaiaaGreat
namespace Go.Ev
open Go.RowKit
def Xt (P:Program) (f:FuncId):Prop:= ∀(g:FuncId),cr P g-> ∀(b off:Nat) (cap:Array Value) (w:World) (Q:World->Prop),w.cell? ⟨b,off,none⟩=some (.int .u32 0)->w.cell? ⟨b,off+1,none⟩=some (.int .i32 0)->w.frozen? ⟨b,off+1,none⟩=false->
      (Calls P g cap (w.setCell ⟨b,off+1,none⟩ (.int .i32 1)) fun e w'=>e= .returned (.tuple #[])/\ Q w')->
      (∀w',Q w'->(∃x,w'.cell? ⟨b,off,none⟩=some x)/\ w'.cell? ⟨b,off+1,none⟩=some (.int .i32 1)/\ w'.frozen? ⟨b,off,none⟩=false/\ w'.frozen? ⟨b,off+1,none⟩=false)->
      Calls P f #[.pointer (some ⟨b,off,none⟩), .func (.func g) #[] cap] w fun e w'=>e= .returned (.tuple #[])/\ ∃w1,Q w1/\ w'=(w1.drew.setCell ⟨b,off,none⟩ (.int .u32 1)).setCell ⟨b,off+1,none⟩ (.int .i32 0)
theorem av.alK {P:Program} (f g:FuncId) {fn fg:Func} (hk:(P.funcs[f]?,fn.name== "runtime.NumGoroutine",fn.body.isNone)=(some fn,false,false)) (hg:(P.funcs[g]?,fg.name== "runtime.NumGoroutine",fg.body.isNone)=(some fg,false,false)) (hs:Xt P f) {ic:cX} {its:List (Nat×cX)} (h:av P cy ((g,ic)::its)):av P cy ((f,TM g ic)::((g,ic)::its)):=by
 simp only [Prod.mk.injEq] at hk hg
 exact av.cons (cr.of hk.1 hk.2.1 hk.2.2) (OL (h g ic (by simp [aI])).2 fun b off cap w Q h0 h1 f1 hc hQ=>hs g (cr.of hg.1 hg.2.1 hg.2.2) b off cap w Q h0 h1 f1 hc hQ) h
end Go.Ev
