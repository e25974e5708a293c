/- The caster's tree, built when it is asked for first. -/
import Derived.Test.YtngdehlpoomaiaaGreatVa
import Derived.Test.YtngdehlpoomaiaaGreatWb
import Derived.Test.YtngdehlpoomaiaaGreatWc
noncomputable section
set_option linter.unusedSectionVars false
set_option linter.unusedVariables false
set_option linter.unusedSimpArgs false
namespace Go.Proofs.YtngdehlpoomaiaaGreat
open Go Go.Ev Go.Proofs
theorem aeA:ai Tryz.prog 142 ldB:=ahG akl
theorem Vr:ai Tryz.prog 122 Tk:=Yp ahU
def UW:List (Nat×Ev.Spec):=(142,ldB)::Qo
theorem SQ:ah Tryz.prog UW:=ah.add (fn:=Tryz.f142) (by kernel_rfl) aeA Qp
def ri:List (Nat×Ev.Spec):=(122,Tk)::UW
theorem nx:ah Tryz.prog ri:=ah.add (fn:=Tryz.f122) (by kernel_rfl) Vr SQ
def dW:tw:=⟨IS,fM,80,kS,fun L=>(ig L).1⟩
def agd:cD:=uP tt ri cf (fun _=> []) [] Tryz.f139
def MP:List (Nat×cD):= [(143,UG 139 agd)]
def afK:List (Nat×cD):=(124,uP tt ri cf (fun _=> []) MP Tryz.f124)::MP
theorem abY:fJ Tryz.prog cf 139 agd:=fJ.fn aA nx mixed (fn:=Tryz.f139) (by kernel_rfl) (by kernel_rfl) (ax.nil _ _) fun _ _=>ay.nil
theorem GJ:ax Tryz.prog cf MP:=ax.cons (bS.of (fn:=Tryz.f143) (by kernel_rfl) (by kernel_rfl) (by kernel_rfl)) (PB abY fun b off cap w Q h0 h1 f1 hg hQ=>af4 b off _ cap w Q h0 h1 f1 (bS.of (fn:=Tryz.f139) (by kernel_rfl) (by kernel_rfl) (by kernel_rfl)) hg hQ) (ax.nil _ _)
theorem YY:ax Tryz.prog cf afK:=ax.cons (bS.of (fn:=Tryz.f124) (by kernel_rfl) (by kernel_rfl) (by kernel_rfl)) (fJ.fn aA nx mixed (fn:=Tryz.f124) (by kernel_rfl) (by kernel_rfl) GJ fun _ _=>ay.nil) GJ
theorem afb (L:List dW.tv.T) (T z:List dW.tb.T) (dn:Int) (q a b:Value) (aV:Env):
  Ie ⟨tt,ri,cf,[],[],afK⟩ Tryz.f121 [.v (.one (.ptr 0 0))] (qU dW L T (.int .u32 dn) (.int .i32 0) q a b aV) (SH dW aV q a b (fun m=> .v (.one (.full m))) z)=
  (∀aQ:Env,cB (!(dn !=0)) (∀iY:Env,ob (decide (dn=0)&&decide ((0:Int)=0)) (∀ta:Env,kS L/\ ∀y,y=ig L->ta=ta/\ (7:Nat)=7/\ iY=iY/\ (6:Nat)=6/\ aQ=aQ/\ (5:Nat)=5/\
   ((1:Nat)=1/\ (1:Int)=1/\ (0:Int)=0/\ q=q/\ a=a)/\ (b=b/\ (80:Nat)=80/\ AV.v (.one (.full 8))=AV.v (.one (.full 8))/\ (2:Nat)=2)/\ aV=aV/\ (3:Nat)=3/\ y.1=z))
   (aQ=aQ/\ (5:Nat)=5/\ ((1:Nat)=1/\ dn=1/\ (0:Int)=0/\ q=q/\ a=a)/\ (b=b/\ (80:Nat)=80/\ AV.v (.one (.full 2))=AV.v (.one (.full 2))/\ (2:Nat)=2)/\ aV=aV/\ (3:Nat)=3/\ T=z)):=by kernel_rfl
theorem VA:ai Tryz.prog 121 (DM dW):=ai.fnC aA nx mixed (fn:=Tryz.f121) (by kernel_rfl) (by kernel_rfl) YY fun L T dn q a b aV hd hp=>by
 rw [afb]
 intro aQ
 rcases hd with rfl|rfl
 ·exact fun _ _=>⟨hp rfl,fun y hy=>⟨rfl,rfl,rfl,rfl,rfl,rfl,⟨rfl,rfl,rfl,rfl,rfl⟩,⟨rfl,rfl,rfl,rfl⟩,rfl,rfl,by subst hy;rfl⟩⟩
 ·exact ⟨rfl,rfl,⟨rfl,rfl,rfl,rfl,rfl⟩,⟨rfl,rfl,rfl,rfl⟩,rfl,rfl,rfl⟩
def Ce:List (Nat×Ev.Spec):=(121,DM dW)::ri
theorem Ar:ah Tryz.prog Ce:=ah.add (fn:=Tryz.f121) (by kernel_rfl) VA nx
def cj:agh:=⟨dW,fun L T x=>rB (T,L,x),fun L T x=>Lh (T,L,x)⟩
abbrev akw (q:Value) (a b A B:Int) (V V':Bool×(Int×Int)) (y z:List fM.T) (aV:Env):Prop:=((1:Nat)=1/\ (1:Int)=1/\ (0:Int)=0/\ q=q/\ Value.int .i64 a=Value.int .i64 A)/\ (Value.int .i64 b=Value.int .i64 B/\ (80:Nat)=80/\ AV.nC [.one (.raw (.bool V.1)),.one (.raw (.int .i64 V.2.2))]=AV.nC [.one (.raw (.bool V'.1)),.one (.raw (.int .i64 V'.2.2))]/\ (2:Nat)=2)/\ aV=aV/\ (3:Nat)=3/\ y=z
theorem YA (L:List cj.base.tv.T) (T z:List cj.base.tb.T) (dn:Int) (q:Value) (a b A B:Int) (V:Bool×(Int×Int)) (x:PtI×PtI) (aV:Env):
  Ie ⟨tt,Ce,cf,[],[],[]⟩ Tryz.f96 [.v (.one (.ptr 0 0)),ptA x.1,ptA x.2] (qU cj.base L T (.int .u32 dn) (.int .i32 0) q (.int .i64 a) (.int .i64 b) aV) (SH cj.base aV q (.int .i64 A) (.int .i64 B) (fun _=> .nC [.one (.raw (.bool V.1)),.one (.raw (.int .i64 V.2.2))]) z)=
  ob (true&&decide ((0:Int)=0)&&(decide (dn=0)||decide (dn=1))) (xu dn (kS L)/\ ∀y,y=jK dn (ig L).1 T->rB (y,L,x)/\ ∀u,u=Lh (y,L,x)->
   cB (u.2.2==0) (True/\ ∀a',a'=IntKind.wrap .i64 (a+1)->True/\ ∀b',b'=IntKind.wrap .i64 (b+u.2.1)->akw q a' b' A B u V y z aV) (akw q a b A B u V y z aV)):=by kernel_rfl
theorem tM:ai Tryz.prog 96 (LF cj):=ai.fnD aA Ar mixed (fn:=Tryz.f96) (by kernel_rfl) (by kernel_rfl) fun L T dn q a b x aV hd hp hp2=>by
 rw [YA]
 refine O6 (by rcases hd with rfl|rfl<;>rfl) ⟨hp,fun y hy=>⟨by subst hy;exact hp2,fun u hu=> ?_⟩⟩
 have hu2:u=cj.ask L (jK dn (cj.base.LD L) T) x:=by subst hu;subst hy;rfl
 rw [<- hu2]
 have hy2:y=jK dn (cj.base.LD L) T:=hy
 cases h:u.2.2==0 with
 |true=>
  have h0:u.2.2=0:=by simpa using h
  exact ⟨trivial,fun a' ha=>⟨trivial,fun b' hb=>⟨⟨rfl,rfl,rfl,rfl,by rw [ha,mZ,if_pos h0]⟩,⟨by rw [hb,mZ,if_pos h0],rfl,rfl,rfl⟩,rfl,rfl,hy2⟩⟩⟩
 |false=>
  have h0: ¬u.2.2=0:=by simpa using h
  exact ⟨⟨rfl,rfl,rfl,rfl,by rw [mZ,if_neg h0]⟩,⟨by rw [mZ,if_neg h0],rfl,rfl,rfl⟩,rfl,rfl,hy2⟩
def PF:List (Nat×Ev.Spec):=(96,LF cj)::Ce
theorem vp:ah Tryz.prog PF:=ah.add (fn:=Tryz.f96) (by kernel_rfl) tM Ar
end Go.Proofs.YtngdehlpoomaiaaGreat
namespace Go.Proofs.YtngdehlpoomaiaaGreat
open Go Go.Ev Go.Proofs
def Vk (x:(I3×I3)):aK:=⟨[],⟨di 33 0 [(6,.v (.one (.ptr 0 0))),(7,.v (.one (.ptr 1 0))),(8,.v (.one (.i .i64))),(19,.v (.one (.i .i64)))],[.cells [.i .i64,.i .i64,.i .i64] 124,.cells [.i .i64,.i .i64,.i .i64] 124],0,none,[],[],[2,3,4,5,6,7,0,1],[.i,.i,.i,.i,.i,.i,.i,.i],[]⟩,[⟨(.exit 0),.normal,⟨di 33 0 [(8,.v (.one (.i .i64)))],[],0,none,[],[],[0],[.i],[]⟩⟩]⟩
def fU (x:(I3×I3)) (s:(Int×Int×Int×Int×Int×I3)):(Int×Int×Int×Int×Int×I3)⊕Int:=
 (if (s.2.2.2.2.2.2.2<3) then
 (Sum.inl (s.1,s.2.1,s.2.2.1,s.2.2.2.1,s.2.2.2.2.1,s.2.2.2.2.2.1,(av (s.2.2.2.2.2.2.1+(av ((List.getD [s.1,s.2.1,s.2.2.1] (0+(s.2.2.2.2.2.2.2.toNat*1)) 0)*(List.getD [s.2.2.2.1,s.2.2.2.2.1,s.2.2.2.2.2.1] (0+(s.2.2.2.2.2.2.2.toNat*1)) 0))))),(av (s.2.2.2.2.2.2.2+1)))) else
 (Sum.inr (s.2.2.2.2.2.2.1)))
def Dr (x:(I3×I3)) (s:(Int×Int×Int×Int×Int×I3)):Prop:=
 ((s.2.2.2.2.2.2.2<3)->
 (((0<=s.2.2.2.2.2.2.2)/\ (s.2.2.2.2.2.2.2<3))/\
 ((((0+(s.2.2.2.2.2.2.2.toNat*1))+1)<=3)/\
 (((0<=s.2.2.2.2.2.2.2)/\ (s.2.2.2.2.2.2.2<3))/\
 (((0+(s.2.2.2.2.2.2.2.toNat*1))+1)<=3)))))
def Lg (x:(I3×I3)) (s:(Int×Int×Int×Int×Int×I3)):Tr ((Int×Int×Int×Int×Int×I3)⊕Int) true:=
 (.i10 (s.2.2.2.2.2.2.2<3)
 (.oR s.2.2.2.2.2.2.2 3
 (.od (((0+((tN s.2.2.2.2.2.2.2)*1))+1)<=3)
 (.oR s.2.2.2.2.2.2.2 3
 (.od (((0+((tN s.2.2.2.2.2.2.2)*1))+1)<=3)
 (.ret (.inl (s.1,s.2.1,s.2.2.1,s.2.2.2.1,s.2.2.2.2.1,s.2.2.2.2.2.1,(av (s.2.2.2.2.2.2.1+(av ((List.getD [s.1,s.2.1,s.2.2.1] (0+((tN s.2.2.2.2.2.2.2)*1)) z0)*(List.getD [s.2.2.2.1,s.2.2.2.2.1,s.2.2.2.2.2.1] (0+((tN s.2.2.2.2.2.2.2)*1)) z0))))),(w1 s.2.2.2.2.2.2.2))))))))
 (.ret (.inr (s.2.2.2.2.2.2.1))))
def QJ (x:(I3×I3)):I2:=
 (aq (Mj [x.1,x.2]) fun y=>
 (if ((!y)=true) then
 (0,5) else
 (aq (fV x.1) fun aB=>
 (aq (fV x.2) fun y_2=>
 (aq (run (fU x) (aB.1,aB.2.1,aB.2.2,y_2.1,y_2.2.1,y_2.2.2,0,0)) fun r=>
 (r,0))))))
def oT (x:(I3×I3)):Prop:=
 ((oC [x.1,x.2])/\
 aC (Mj [x.1,x.2]) fun y=>
 (¬((!y)=true)->
 (aC (fV x.1) fun aB=>
 (aC (fV x.2) fun y_2=>
 (Term (fU x) (Dr x) (aB.1,aB.2.1,aB.2.2,y_2.1,y_2.2.1,y_2.2.2,0,0))))))
def aib (x:(I3×I3)):Tr I2 true:=
 (.fn BP [x.1,x.2] fun y=>
 (.nM (!y)
 (.ret (z0,5))
 (.fn0 gP x.1 trivial fun aB=>
 (.fn0 gP x.2 trivial fun y_2=>
 (aK.lp (Vk x) (Lg x) (aB.1,aB.2.1,aB.2.2,y_2.1,y_2.2.1,y_2.2.2,Cq) fun r=>
 (.ret (r,z0)))))))
abbrev HO:bY:=⟨(.pair (.agg aM) (.agg aM)),(.pair (.one yi) (.one yi)),oT,QJ⟩
theorem afj:ai Tryz.prog 67 (ak HO):=ai.tr HO aib (fn:=Tryz.f67) aA vp mixed (by kernel_rfl) (ax.nil _ _) (fun x=>(ay.tr aA (ah.dX vp (ax.nil _ _)) mixed 0 (Vk x) (Lg x) ay.nil (by kernel_rfl) fun g s Q=>(by kernel_rfl))) (fun x=>(by kernel_rfl)) fun x Q=>(by kernel_rfl)
def U4:List (Nat×Ev.Spec):=(67,ak HO)::PF
theorem Ho:ah Tryz.prog U4:=ah.add (fn:=Tryz.f67) (by kernel_rfl) afj vp
def Cp (x:I2):Int:=
 (if ((x.2==0)=true) then
 3 else
 (if ((x.1==(-9223372036854775808))=true) then
 (if ((x.2==(-1))=true) then
 4 else
 0) else
 0))
def Ta (_:I2):Prop:=True
def acv (x:I2):Tr Int false:=
 (.qH (x.2==z0)
 (.ret 3)
 (.qH (x.1==(-9223372036854775808))
 (.qH (x.2==(-1))
 (.ret 4)
 (.ret z0))
 (.ret z0)))
abbrev Bf:bY:=⟨(.pair (.one yi) (.one yi)),(.one yi),Ta,Cp⟩
theorem XX:ai Tryz.prog 119 (ak Bf):=ai.tr Bf acv (fn:=Tryz.f119) aA Ho mixed (by kernel_rfl) (ax.nil _ _) (fun x=>ay.nil) (fun x=>(by kernel_rfl)) fun x Q=>(by kernel_rfl)
def K7:List (Nat×Ev.Spec):=(119,ak Bf)::U4
theorem AY:ah Tryz.prog K7:=ah.add (fn:=Tryz.f119) (by kernel_rfl) XX Ho
def Cn (x:I2):I3:=
 (aq (Cp x) fun y=>
 (if ((y !=0)=true) then
 (0,0,y) else
 (if (((Int.tmod x.1 x.2) !=0)=true) then
 (if ((av (((BitVec.toNat ((BitVec.ofInt 64 (Int.tmod x.1 x.2))^^^(BitVec.ofInt 64 x.2))):Nat):Int))<0) then
 ((av ((av (Int.tdiv x.1 x.2))- 1)),(av ((Int.tmod x.1 x.2)+x.2)),0) else
 ((av (Int.tdiv x.1 x.2)),(Int.tmod x.1 x.2),0)) else
 ((av (Int.tdiv x.1 x.2)),(Int.tmod x.1 x.2),0))))
def oW (x:I2):Prop:=
 (aC (Cp x) fun y=>
 (¬((y !=0)=true)->
 ((x.2≠0)/\
 (x.2≠0))))
def acn (x:I2):Tr I3 true:=
 (.fn0 Bf x trivial fun y=>
 (.nM (y !=z0)
 (.ret (z0,z0,y))
 (.od (x.2≠z0)
 (.od (x.2≠z0)
 (.qH ((Int.tmod x.1 x.2) !=z0)
 (.tF ((av (((BitVec.toNat ((BitVec.ofInt 64 (Int.tmod x.1 x.2))^^^(BitVec.ofInt 64 x.2))):Nat):Int))<z0)
 (.ret ((wm (av (Int.tdiv x.1 x.2))),(av ((Int.tmod x.1 x.2)+x.2)),z0))
 (.ret ((av (Int.tdiv x.1 x.2)),(Int.tmod x.1 x.2),z0)))
 (.ret ((av (Int.tdiv x.1 x.2)),(Int.tmod x.1 x.2),z0)))))))
abbrev vP:bY:=⟨(.pair (.one yi) (.one yi)),(.pair (.one yi) (.pair (.one yi) (.one yi))),oW,Cn⟩
theorem XU:ai Tryz.prog 95 (ak vP):=ai.tr vP acn (fn:=Tryz.f95) aA AY mixed (by kernel_rfl) (ax.nil _ _) (fun x=>ay.nil) (fun x=>(by kernel_rfl)) fun x Q=>(by kernel_rfl)
def K5:List (Nat×Ev.Spec):=(95,ak vP)::K7
theorem AX:ah Tryz.prog K5:=ah.add (fn:=Tryz.f95) (by kernel_rfl) XU AY
def Vb (x:I2):Bool:=
 (decide ((av (x.1*x.1))<=x.2))
def Xy (_:I2):Prop:=True
def ae7 (x:I2):Tr Bool false:=
 (.ret (decide ((av (x.1*x.1))<=x.2)))
abbrev Ei:bY:=⟨(.pair (.one yi) (.ptr (.int .i64))),(.one Ty.bool),Xy,Vb⟩
theorem abL:ai Tryz.prog 101 (ak Ei):=ai.tr Ei ae7 (fn:=Tryz.f101) aA AX mixed (by kernel_rfl) (ax.nil _ _) (fun x=>ay.nil) (fun x=>(by kernel_rfl)) fun x Q=>(by kernel_rfl)
def Qi:List (Nat×Ev.Spec):=(101,ak Ei)::K5
theorem vF:ah Tryz.prog Qi:=ah.add (fn:=Tryz.f101) (by kernel_rfl) abL AX
def Gz (x:I2):aK:=⟨[],⟨di 26 0 [(1,.v (.one (.iP 101 0 [.elem 0]))),(5,.v (.one (.i .i64))),(6,.v (.one (.i .i64)))],[.row yi 0],0,none,[],[0,3],[1,2],[.i,.i],[.n 0,.l yi [x.2]]⟩,[⟨(.exit 0),.normal,⟨di 26 0 [(5,.v (.one (.i .i64)))],[],0,none,[],[],[0],[.i],[]⟩⟩]⟩
def jr (x:I2) (s:I2):I2⊕Int:=
 (if (s.1<s.2) then
 (aq (Vb ((av (s.1+(av (Int.tdiv (av ((av (s.2- s.1))+1)) 2)))),x.2)) fun y=>
 (if (y=true) then
 (Sum.inl ((av (s.1+(av (Int.tdiv (av ((av (s.2- s.1))+1)) 2)))),s.2)) else
 (Sum.inl (s.1,(av ((av (s.1+(av (Int.tdiv (av ((av (s.2- s.1))+1)) 2))))- 1)))))) else
 (Sum.inr (s.1)))
def vj (x:I2) (s:I2):Prop:=
 True
def Ah (x:I2) (s:I2):Tr (I2⊕Int) false:=
 (.tF (s.1<s.2)
 (.fn0 Ei ((av (s.1+(av (Int.tdiv (w1 (av (s.2- s.1))) 2)))),x.2) trivial fun y=>
 (.qH y
 (.ret (.inl ((av (s.1+(av (Int.tdiv (w1 (av (s.2- s.1))) 2)))),s.2)))
 (.ret (.inl (s.1,(wm (av (s.1+(av (Int.tdiv (w1 (av (s.2- s.1))) 2))))))))))
 (.ret (.inr (s.1))))
def Eh (x:I2):Int:=
 (aq (run (jr x) (0,x.1)) fun r=>
 r)
def vk (x:I2):Prop:=
 (Term (jr x) (vj x) (0,x.1))
def Xn (x:I2):Tr Int true:=
 (aK.lp (Gz x) (Ah x) (z0,x.1) fun r=>
 (.ret r))
abbrev wQ:bY:=⟨(.pair (.one yi) (.iP 101 (.ptr (.int .i64)))),(.one yi),vk,Eh⟩
theorem SM:ai Tryz.prog 100 (ak wQ):=ai.tr wQ Xn (fn:=Tryz.f100) aA vF mixed (by kernel_rfl) (ax.nil _ _) (fun x=>(ay.tr aA (ah.dX vF (ax.nil _ _)) mixed 0 (Gz x) (Ah x) ay.nil (by kernel_rfl) fun g s Q=>(by kernel_rfl))) (fun x=>(by kernel_rfl)) fun x Q=>(by kernel_rfl)
def Hl:List (Nat×Ev.Spec):=(100,ak wQ)::Qi
theorem xK:ah Tryz.prog Hl:=ah.add (fn:=Tryz.f100) (by kernel_rfl) SM vF
def Bh (x:Int):I2:=
 (if (x<0) then
 (0,1) else
 (aq (Eh (3037000499,x)) fun y=>
 (y,0)))
def nX (x:Int):Prop:=
 (¬(x<0)->
 (vk (3037000499,x)))
def afw (x:Int):Tr I2 true:=
 (.FN (x<z0)
 (.ret (z0,z1))
 (.fn wQ (3037000499,x) fun y=>
 (.ret (y,z0))))
abbrev Bi:bY:=⟨(.one yi),(.pair (.one yi) (.one yi)),nX,Bh⟩
theorem acz:ai Tryz.prog 68 (ak Bi):=ai.tr Bi afw (fn:=Tryz.f68) aA xK mixed (by kernel_rfl) (ax.nil _ _) (fun x=>ay.nil) (fun x=>(by kernel_rfl)) fun x Q=>(by kernel_rfl)
def Qq:List (Nat×Ev.Spec):=(68,ak Bi)::Hl
theorem Dj:ah Tryz.prog Qq:=ah.add (fn:=Tryz.f68) (by kernel_rfl) acz xK
def Fp (x:I2):Int:=
 (aq (Cn x) fun y=>
 y.1)
def rQ (x:I2):Prop:=
 (oW x)
def Zd (x:I2):Tr Int true:=
 (.fn vP x fun y=>
 (.ret y.1))
abbrev uh:bY:=⟨(.pair (.one yi) (.one yi)),(.one yi),rQ,Fp⟩
theorem V0:ai Tryz.prog 72 (ak uh):=ai.tr uh Zd (fn:=Tryz.f72) aA Dj mixed (by kernel_rfl) (ax.nil _ _) (fun x=>ay.nil) (fun x=>(by kernel_rfl)) fun x Q=>(by kernel_rfl)
def Kz:List (Nat×Ev.Spec):=(72,ak uh)::Qq
theorem AB:ah Tryz.prog Kz:=ah.add (fn:=Tryz.f72) (by kernel_rfl) V0 Dj
def TL (x:I3):I3:=
 x
def adH (_:I3):Prop:=True
def aja (x:I3):Tr I3 false:=
 (.ret x)
abbrev Cx:bY:=⟨(.agg aM),(.agg aM),adH,TL⟩
theorem agU:ai Tryz.prog 69 (ak Cx):=ai.tr Cx aja (fn:=Tryz.f69) aA AB mixed (by kernel_rfl) (ax.nil _ _) (fun x=>ay.nil) (fun x=>(by kernel_rfl)) fun x Q=>(by kernel_rfl)
def abE:List (Nat×Ev.Spec):=(69,ak Cx)::Kz
theorem KC:ah Tryz.prog abE:=ah.add (fn:=Tryz.f69) (by kernel_rfl) agU AB
def Fv (x:I3):I3:=
 x
def Zn (_:I3):Prop:=True
def agW (x:I3):Tr I3 false:=
 (.ret x)
abbrev x6:bY:=⟨(.agg aM),(.agg aM),Zn,Fv⟩
theorem adL:ai Tryz.prog 73 (ak x6):=ai.tr x6 agW (fn:=Tryz.f73) aA KC mixed (by kernel_rfl) (ax.nil _ _) (fun x=>ay.nil) (fun x=>(by kernel_rfl)) fun x Q=>(by kernel_rfl)
def UN:List (Nat×Ev.Spec):=(73,ak x6)::abE
theorem GR:ah Tryz.prog UN:=ah.add (fn:=Tryz.f73) (by kernel_rfl) adL KC
def Dp (x:I2):Int:=
 (aq (Fp ((av (1048576*x.1)),x.2)) fun y=>
 y)
def nW (x:I2):Prop:=
 (rQ ((av (1048576*x.1)),x.2))
def afe (x:I2):Tr Int true:=
 (.fn uh ((av (1048576*x.1)),x.2) fun y=>
 (.ret y))
abbrev wV:bY:=⟨(.pair (.one yi) (.ptr (.int .i64))),(.one yi),nW,Dp⟩
theorem ab0:ai Tryz.prog 71 (ak wV):=ai.tr wV afe (fn:=Tryz.f71) aA GR mixed (by kernel_rfl) (ax.nil _ _) (fun x=>ay.nil) (fun x=>(by kernel_rfl)) fun x Q=>(by kernel_rfl)
def Qk:List (Nat×Ev.Spec):=(71,ak wV)::UN
theorem vH:ah Tryz.prog Qk:=ah.add (fn:=Tryz.f71) (by kernel_rfl) ab0 GR
def TF (x:(I3×Int)):I3:=
 (aq (Dp (x.1.1,x.2)) fun y=>
 (aq (Dp (x.1.2.1,x.2)) fun aB=>
 (aq (Dp (x.1.2.2,x.2)) fun y_2=>
 (y,aB,y_2))))
def BA (x:(I3×Int)):Prop:=
 ((nW (x.1.1,x.2))/\
 aC (Dp (x.1.1,x.2)) fun y=>
 ((nW (x.1.2.1,x.2))/\
 aC (Dp (x.1.2.1,x.2)) fun aB=>
 (nW (x.1.2.2,x.2))))
def ado (x:(I3×Int)):Tr I3 true:=
 (.fn wV (x.1.1,x.2) fun y=>
 (.fn wV (x.1.2.1,x.2) fun aB=>
 (.fn wV (x.1.2.2,x.2) fun y_2=>
 (.ret (y,aB,y_2)))))
abbrev zi:bY:=⟨(.pair (.agg aM) (.iP 71 (.ptr (.int .i64)))),(.agg aM),BA,TF⟩
theorem N0:ai Tryz.prog 70 (ak zi):=ai.tr zi ado (fn:=Tryz.f70) aA vH mixed (by kernel_rfl) (ax.nil _ _) (fun x=>(ay.nH aA (ah.dX vH (ax.nil _ _)) mixed 0 4 ay.nil (by kernel_rfl))) (fun x=>(by kernel_rfl)) fun x Q=>(by kernel_rfl)
def PK:List (Nat×Ev.Spec):=(70,ak zi)::Qk
theorem C1:ah Tryz.prog PK:=ah.add (fn:=Tryz.f70) (by kernel_rfl) N0 vH
def jE (x:I3):(I3×Int):=
 (aq (QJ (x,x)) fun y=>
 (if ((y.2 !=0)=true) then
 ((0,0,0),y.2) else
 (if ((y.1==0)=true) then
 ((0,0,0),3) else
 (aq (Bh (av (1048576*y.1))) fun aB=>
 (aq (TL x) fun y_2=>
 (aq (TF (y_2,aB.1)) fun bk=>
 (aq (Fv bk) fun bQ=>
 (bQ,aB.2))))))))
def cU (x:I3):Prop:=
 ((oT (x,x))/\
 aC (QJ (x,x)) fun y=>
 (¬((y.2 !=0)=true)->
 (¬((y.1==0)=true)->
 ((nX (av (1048576*y.1)))/\
 aC (Bh (av (1048576*y.1))) fun aB=>
 (aC (TL x) fun y_2=>
 (BA (y_2,aB.1)))))))
def adK (x:I3):Tr (I3×Int) true:=
 (.fn HO (x,x) fun y=>
 (.nM (y.2 !=z0)
 (.ret (bX,y.2))
 (.nM (y.1==z0)
 (.ret (bX,3))
 (.fn Bi (av (1048576*y.1)) fun aB=>
 (.fn0 Cx x trivial fun y_2=>
 (.fn zi (y_2,aB.1) fun bk=>
 (.fn0 x6 bk trivial fun bQ=>
 (.ret (bQ,aB.2)))))))))
abbrev lN:bY:=⟨(.agg aM),(.pair (.agg aM) (.one yi)),cU,jE⟩
theorem Zm:ai Tryz.prog 35 (ak lN):=ai.tr lN adK (fn:=Tryz.f35) aA C1 mixed (by kernel_rfl) (ax.nil _ _) (fun x=>ay.nil) (fun x=>(by kernel_rfl)) fun x Q=>(by kernel_rfl)
def PY:List (Nat×Ev.Spec):=(35,ak lN)::PK
theorem C5:ah Tryz.prog PY:=ah.add (fn:=Tryz.f35) (by kernel_rfl) Zm C1
end Go.Proofs.YtngdehlpoomaiaaGreat
