/- The caster's tree, built when it is asked for first. -/
import Derived.Test.YtngdehlpoomaiaaGreatVa
import Derived.Test.YtngdehlpoomaiaaGreatWb
import Derived.Test.YtngdehlpoomaiaaGreatWc
noncomputable section
set_option linter.unusedSectionVars false
set_option linter.unusedVariables false
set_option linter.unusedSimpArgs false
namespace Go.Proofs.YtngdehlpoomaiaaGreat
open Go Go.Ev Go.Proofs
theorem ado:ah Tryz.prog 142 ldB:=agx aja
theorem Uz:ah Tryz.prog 122 SE:=XE agN
def T9:List (Nat×Ev.Spec):=(142,ldB)::Po
theorem R4:af Tryz.prog T9:=af.add (fn:=Tryz.f142) (by kernel_rfl) ado Pp
def qY:List (Nat×Ev.Spec):=(122,SE)::T9
theorem nx:af Tryz.prog qY:=af.add (fn:=Tryz.f122) (by kernel_rfl) Uz R4
def ep:sX:=⟨Sf,fS,80,kU,fun L=>(iu L).1⟩
def ae1:cX:=uw tt qY cy (fun _=> []) [] Tryz.f139
def L9:List (Nat×cX):= [(143,TM 139 ae1)]
def aeC:List (Nat×cX):=(124,uw tt qY cy (fun _=> []) L9 Tryz.f124)::L9
theorem aa2:fQ Tryz.prog cy 139 ae1:=fQ.fn az nx mixed (fn:=Tryz.f139) (by kernel_rfl) (by kernel_rfl) (av.nil _ _) fun _ _=>ax.nil
theorem Gb:av Tryz.prog cy L9:=av.cons (cr.of (fn:=Tryz.f143) (by kernel_rfl) (by kernel_rfl) (by kernel_rfl)) (OL aa2 fun b off cap w Q h0 h1 f1 hg hQ=>aeV b off _ cap w Q h0 h1 f1 (cr.of (fn:=Tryz.f139) (by kernel_rfl) (by kernel_rfl) (by kernel_rfl)) hg hQ) (av.nil _ _)
theorem Yf:av Tryz.prog cy aeC:=av.cons (cr.of (fn:=Tryz.f124) (by kernel_rfl) (by kernel_rfl) (by kernel_rfl)) (fQ.fn az nx mixed (fn:=Tryz.f124) (by kernel_rfl) (by kernel_rfl) Gb fun _ _=>ax.nil) Gb
theorem ad3 (L:List ep.tv.T) (T z:List ep.tb.T) (dn:Int) (q a b:Value) (aZ:Env):
  HB ⟨tt,qY,cy,[],[],aeC⟩ Tryz.f121 [.v (.one (.ptr 0 0))] (qL ep L T (.int .u32 dn) (.int .i32 0) q a b aZ) (RU ep aZ q a b (fun m=> .v (.one (.full m))) z)=
  (∀aX:Env,cB (!(dn !=0)) (∀jb:Env,ob (decide (dn=0)&&decide ((0:Int)=0)) (∀sO:Env,kU L/\ ∀y,y=iu L->sO=sO/\ (7:Nat)=7/\ jb=jb/\ (6:Nat)=6/\ aX=aX/\ (5:Nat)=5/\
   ((1:Nat)=1/\ (1:Int)=1/\ (0:Int)=0/\ q=q/\ a=a)/\ (b=b/\ (80:Nat)=80/\ AV.v (.one (.full 8))=AV.v (.one (.full 8))/\ (2:Nat)=2)/\ aZ=aZ/\ (3:Nat)=3/\ y.1=z))
   (aX=aX/\ (5:Nat)=5/\ ((1:Nat)=1/\ dn=1/\ (0:Int)=0/\ q=q/\ a=a)/\ (b=b/\ (80:Nat)=80/\ AV.v (.one (.full 2))=AV.v (.one (.full 2))/\ (2:Nat)=2)/\ aZ=aZ/\ (3:Nat)=3/\ T=z)):=by kernel_rfl
theorem UM:ah Tryz.prog 121 (Ds ep):=ah.fnC az nx mixed (fn:=Tryz.f121) (by kernel_rfl) (by kernel_rfl) Yf fun L T dn q a b aZ hd hp=>by
 rw [ad3]
 intro aX
 rcases hd with rfl|rfl
 ·exact fun _ _=>⟨hp rfl,fun y hy=>⟨rfl,rfl,rfl,rfl,rfl,rfl,⟨rfl,rfl,rfl,rfl,rfl⟩,⟨rfl,rfl,rfl,rfl⟩,rfl,rfl,by subst hy;rfl⟩⟩
 ·exact ⟨rfl,rfl,⟨rfl,rfl,rfl,rfl,rfl⟩,⟨rfl,rfl,rfl,rfl⟩,rfl,rfl,rfl⟩
def BR:List (Nat×Ev.Spec):=(121,Ds ep)::qY
theorem Aa:af Tryz.prog BR:=af.add (fn:=Tryz.f121) (by kernel_rfl) UM nx
def cn:ae4:=⟨ep,fun L T x=>rh (T,L,x),fun L T x=>KF (T,L,x)⟩
abbrev ajl (q:Value) (a b A B:Int) (V V':Bool×(Int×Int)) (y z:List fS.T) (aZ:Env):Prop:=((1:Nat)=1/\ (1:Int)=1/\ (0:Int)=0/\ q=q/\ Value.int .i64 a=Value.int .i64 A)/\ (Value.int .i64 b=Value.int .i64 B/\ (80:Nat)=80/\ AV.nC [.one (.raw (.bool V.1)),.one (.raw (.int .i64 V.2.2))]=AV.nC [.one (.raw (.bool V'.1)),.one (.raw (.int .i64 V'.2.2))]/\ (2:Nat)=2)/\ aZ=aZ/\ (3:Nat)=3/\ y=z
theorem XP (L:List cn.base.tv.T) (T z:List cn.base.tb.T) (dn:Int) (q:Value) (a b A B:Int) (V:Bool×(Int×Int)) (x:PtI×PtI) (aZ:Env):
  HB ⟨tt,BR,cy,[],[],[]⟩ Tryz.f96 [.v (.one (.ptr 0 0)),ptA x.1,ptA x.2] (qL cn.base L T (.int .u32 dn) (.int .i32 0) q (.int .i64 a) (.int .i64 b) aZ) (RU cn.base aZ q (.int .i64 A) (.int .i64 B) (fun _=> .nC [.one (.raw (.bool V.1)),.one (.raw (.int .i64 V.2.2))]) z)=
  ob (true&&decide ((0:Int)=0)&&(decide (dn=0)||decide (dn=1))) (xb dn (kU L)/\ ∀y,y=jR dn (iu L).1 T->rh (y,L,x)/\ ∀u,u=KF (y,L,x)->
   cB (u.2.2==0) (True/\ ∀a',a'=IntKind.wrap .i64 (a+1)->True/\ ∀b',b'=IntKind.wrap .i64 (b+u.2.1)->ajl q a' b' A B u V y z aZ) (ajl q a b A B u V y z aZ)):=by kernel_rfl
theorem th:ah Tryz.prog 96 (KY cn):=ah.fnD az Aa mixed (fn:=Tryz.f96) (by kernel_rfl) (by kernel_rfl) fun L T dn q a b x aZ hd hp hp2=>by
 rw [XP]
 refine Oc (by rcases hd with rfl|rfl<;>rfl) ⟨hp,fun y hy=>⟨by subst hy;exact hp2,fun u hu=> ?_⟩⟩
 have hu2:u=cn.ask L (jR dn (cn.base.KX L) T) x:=by subst hu;subst hy;rfl
 rw [<- hu2]
 have hy2:y=jR dn (cn.base.KX L) T:=hy
 cases h:u.2.2==0 with
 |true=>
  have h0:u.2.2=0:=by simpa using h
  exact ⟨trivial,fun a' ha=>⟨trivial,fun b' hb=>⟨⟨rfl,rfl,rfl,rfl,by rw [ha,mZ,if_pos h0]⟩,⟨by rw [hb,mZ,if_pos h0],rfl,rfl,rfl⟩,rfl,rfl,hy2⟩⟩⟩
 |false=>
  have h0: ¬u.2.2=0:=by simpa using h
  exact ⟨⟨rfl,rfl,rfl,rfl,by rw [mZ,if_neg h0]⟩,⟨by rw [mZ,if_neg h0],rfl,rfl,rfl⟩,rfl,rfl,hy2⟩
def ON:List (Nat×Ev.Spec):=(96,KY cn)::BR
theorem uW:af Tryz.prog ON:=af.add (fn:=Tryz.f96) (by kernel_rfl) th Aa
end Go.Proofs.YtngdehlpoomaiaaGreat
namespace Go.Proofs.YtngdehlpoomaiaaGreat
open Go Go.Ev Go.Proofs
def Ut (x:(I3×I3)):aL:=⟨[],⟨dL 33 0 [(6,.v (.one (.ptr 0 0))),(7,.v (.one (.ptr 1 0))),(8,.v (.one (.i .i64))),(19,.v (.one (.i .i64)))],[.cells [.i .i64,.i .i64,.i .i64] 124,.cells [.i .i64,.i .i64,.i .i64] 124],0,none,[],[],[2,3,4,5,6,7,0,1],[.i,.i,.i,.i,.i,.i,.i,.i],[]⟩,[⟨(.exit 0),.normal,⟨dL 33 0 [(8,.v (.one (.i .i64)))],[],0,none,[],[],[0],[.i],[]⟩⟩]⟩
def fZ (x:(I3×I3)) (s:(Int×Int×Int×Int×Int×I3)):(Int×Int×Int×Int×Int×I3)⊕Int:=
 (if (s.2.2.2.2.2.2.2<3) then
 (Sum.inl (s.1,s.2.1,s.2.2.1,s.2.2.2.1,s.2.2.2.2.1,s.2.2.2.2.2.1,(au (s.2.2.2.2.2.2.1+(au ((List.getD [s.1,s.2.1,s.2.2.1] (0+(s.2.2.2.2.2.2.2.toNat*1)) 0)*(List.getD [s.2.2.2.1,s.2.2.2.2.1,s.2.2.2.2.2.1] (0+(s.2.2.2.2.2.2.2.toNat*1)) 0))))),(au (s.2.2.2.2.2.2.2+1)))) else
 (Sum.inr (s.2.2.2.2.2.2.1)))
def C6 (x:(I3×I3)) (s:(Int×Int×Int×Int×Int×I3)):Prop:=
 ((s.2.2.2.2.2.2.2<3)->
 (((0<=s.2.2.2.2.2.2.2)/\ (s.2.2.2.2.2.2.2<3))/\
 ((((0+(s.2.2.2.2.2.2.2.toNat*1))+1)<=3)/\
 (((0<=s.2.2.2.2.2.2.2)/\ (s.2.2.2.2.2.2.2<3))/\
 (((0+(s.2.2.2.2.2.2.2.toNat*1))+1)<=3)))))
def KE (x:(I3×I3)) (s:(Int×Int×Int×Int×Int×I3)):Tr ((Int×Int×Int×Int×Int×I3)⊕Int) true:=
 (.i10 (s.2.2.2.2.2.2.2<3)
 (.oR s.2.2.2.2.2.2.2 3
 (.od (((0+((tN s.2.2.2.2.2.2.2)*1))+1)<=3)
 (.oR s.2.2.2.2.2.2.2 3
 (.od (((0+((tN s.2.2.2.2.2.2.2)*1))+1)<=3)
 (.ret (.inl (s.1,s.2.1,s.2.2.1,s.2.2.2.1,s.2.2.2.2.1,s.2.2.2.2.2.1,(au (s.2.2.2.2.2.2.1+(au ((List.getD [s.1,s.2.1,s.2.2.1] (0+((tN s.2.2.2.2.2.2.2)*1)) z0)*(List.getD [s.2.2.2.1,s.2.2.2.2.1,s.2.2.2.2.2.1] (0+((tN s.2.2.2.2.2.2.2)*1)) z0))))),(w1 s.2.2.2.2.2.2.2))))))))
 (.ret (.inr (s.2.2.2.2.2.2.1))))
def PS (x:(I3×I3)):I2:=
 (aj (LF [x.1,x.2]) fun y=>
 (if ((!y)=true) then
 (0,5) else
 (aj (ga x.1) fun aA=>
 (aj (ga x.2) fun y_2=>
 (aj (run (fZ x) (aA.1,aA.2.1,aA.2.2,y_2.1,y_2.2.1,y_2.2.2,0,0)) fun r=>
 (r,0))))))
def oH (x:(I3×I3)):Prop:=
 ((ou [x.1,x.2])/\
 aB (LF [x.1,x.2]) fun y=>
 (¬((!y)=true)->
 (aB (ga x.1) fun aA=>
 (aB (ga x.2) fun y_2=>
 (Term (fZ x) (C6 x) (aA.1,aA.2.1,aA.2.2,y_2.1,y_2.2.1,y_2.2.2,0,0))))))
def ag3 (x:(I3×I3)):Tr I2 true:=
 (.fn Bq [x.1,x.2] fun y=>
 (.kO (!y)
 (.ret (z0,5))
 (.fn0 gX x.1 trivial fun aA=>
 (.fn0 gX x.2 trivial fun y_2=>
 (aL.lp (Ut x) (KE x) (aA.1,aA.2.1,aA.2.2,y_2.1,y_2.2.1,y_2.2.2,A2) fun r=>
 (.ret (r,z0)))))))
abbrev Hg:cf:=⟨(.pair (.agg aO) (.agg aO)),(.pair (.one yi) (.one yi)),oH,PS⟩
theorem aea:ah Tryz.prog 67 (ak Hg):=ah.tr Hg ag3 (fn:=Tryz.f67) az uW mixed (by kernel_rfl) (av.nil _ _) (fun x=>(ax.tr az (af.eA uW (av.nil _ _)) mixed 0 (Ut x) (KE x) ax.nil (by kernel_rfl) fun g s Q=>(by kernel_rfl))) (fun x=>(by kernel_rfl)) fun x Q=>(by kernel_rfl)
def Ue:List (Nat×Ev.Spec):=(67,ak Hg)::ON
theorem GG:af Tryz.prog Ue:=af.add (fn:=Tryz.f67) (by kernel_rfl) aea uW
def B2 (x:I2):Int:=
 (if ((x.2==0)=true) then
 3 else
 (if ((x.1==(-9223372036854775808))=true) then
 (if ((x.2==(-1))=true) then
 4 else
 0) else
 0))
def Sq (_:I2):Prop:=True
def abw (x:I2):Tr Int false:=
 (.iQ (x.2==z0)
 (.ret 3)
 (.iQ (x.1==(-9223372036854775808))
 (.iQ (x.2==(-1))
 (.ret 4)
 (.ret z0))
 (.ret z0)))
abbrev AT:cf:=⟨(.pair (.one yi) (.one yi)),(.one yi),Sq,B2⟩
theorem Xd:ah Tryz.prog 119 (ak AT):=ah.tr AT abw (fn:=Tryz.f119) az GG mixed (by kernel_rfl) (av.nil _ _) (fun x=>ax.nil) (fun x=>(by kernel_rfl)) fun x Q=>(by kernel_rfl)
def Ku:List (Nat×Ev.Spec):=(119,ak AT)::Ue
theorem AF:af Tryz.prog Ku:=af.add (fn:=Tryz.f119) (by kernel_rfl) Xd GG
def BZ (x:I2):I3:=
 (aj (B2 x) fun y=>
 (if ((y !=0)=true) then
 (0,0,y) else
 (if (((Int.tmod x.1 x.2) !=0)=true) then
 (if ((au (((BitVec.toNat ((BitVec.ofInt 64 (Int.tmod x.1 x.2))^^^(BitVec.ofInt 64 x.2))):Nat):Int))<0) then
 ((au ((au (Int.tdiv x.1 x.2))- 1)),(au ((Int.tmod x.1 x.2)+x.2)),0) else
 ((au (Int.tdiv x.1 x.2)),(Int.tmod x.1 x.2),0)) else
 ((au (Int.tdiv x.1 x.2)),(Int.tmod x.1 x.2),0))))
def oJ (x:I2):Prop:=
 (aB (B2 x) fun y=>
 (¬((y !=0)=true)->
 ((x.2≠0)/\
 (x.2≠0))))
def abo (x:I2):Tr I3 true:=
 (.fn0 AT x trivial fun y=>
 (.kO (y !=z0)
 (.ret (z0,z0,y))
 (.od (x.2≠z0)
 (.od (x.2≠z0)
 (.iQ ((Int.tmod x.1 x.2) !=z0)
 (.oq ((au (((BitVec.toNat ((BitVec.ofInt 64 (Int.tmod x.1 x.2))^^^(BitVec.ofInt 64 x.2))):Nat):Int))<z0)
 (.ret ((wm (au (Int.tdiv x.1 x.2))),(au ((Int.tmod x.1 x.2)+x.2)),z0))
 (.ret ((au (Int.tdiv x.1 x.2)),(Int.tmod x.1 x.2),z0)))
 (.ret ((au (Int.tdiv x.1 x.2)),(Int.tmod x.1 x.2),z0)))))))
abbrev vx:cf:=⟨(.pair (.one yi) (.one yi)),(.pair (.one yi) (.pair (.one yi) (.one yi))),oJ,BZ⟩
theorem Xa:ah Tryz.prog 95 (ak vx):=ah.tr vx abo (fn:=Tryz.f95) az AF mixed (by kernel_rfl) (av.nil _ _) (fun x=>ax.nil) (fun x=>(by kernel_rfl)) fun x Q=>(by kernel_rfl)
def Ks:List (Nat×Ev.Spec):=(95,ak vx)::Ku
theorem AE:af Tryz.prog Ks:=af.add (fn:=Tryz.f95) (by kernel_rfl) Xa AF
def Ul (x:I2):Bool:=
 (decide ((au (x.1*x.1))<=x.2))
def WN (_:I2):Prop:=True
def adX (x:I2):Tr Bool false:=
 (.ret (decide ((au (x.1*x.1))<=x.2)))
abbrev DT:cf:=⟨(.pair (.one yi) (.ptr (.int .i64))),(.one Ty.bool),WN,Ul⟩
theorem aaN:ah Tryz.prog 101 (ak DT):=ah.tr DT adX (fn:=Tryz.f101) az AE mixed (by kernel_rfl) (av.nil _ _) (fun x=>ax.nil) (fun x=>(by kernel_rfl)) fun x Q=>(by kernel_rfl)
def Pf:List (Nat×Ev.Spec):=(101,ak DT)::Ks
theorem vk:af Tryz.prog Pf:=af.add (fn:=Tryz.f101) (by kernel_rfl) aaN AE
def F5 (x:I2):aL:=⟨[],⟨dL 26 0 [(1,.v (.one (.iT 101 0 [.elem 0]))),(5,.v (.one (.i .i64))),(6,.v (.one (.i .i64)))],[.row yi 0],0,none,[],[0,3],[1,2],[.i,.i],[.n 0,.l yi [x.2]]⟩,[⟨(.exit 0),.normal,⟨dL 26 0 [(5,.v (.one (.i .i64)))],[],0,none,[],[],[0],[.i],[]⟩⟩]⟩
def jx (x:I2) (s:I2):I2⊕Int:=
 (if (s.1<s.2) then
 (aj (Ul ((au (s.1+(au (Int.tdiv (au ((au (s.2- s.1))+1)) 2)))),x.2)) fun y=>
 (if (y=true) then
 (Sum.inl ((au (s.1+(au (Int.tdiv (au ((au (s.2- s.1))+1)) 2)))),s.2)) else
 (Sum.inl (s.1,(au ((au (s.1+(au (Int.tdiv (au ((au (s.2- s.1))+1)) 2))))- 1)))))) else
 (Sum.inr (s.1)))
def uR (x:I2) (s:I2):Prop:=
 True
def zW (x:I2) (s:I2):Tr (I2⊕Int) false:=
 (.oq (s.1<s.2)
 (.fn0 DT ((au (s.1+(au (Int.tdiv (w1 (au (s.2- s.1))) 2)))),x.2) trivial fun y=>
 (.iQ y
 (.ret (.inl ((au (s.1+(au (Int.tdiv (w1 (au (s.2- s.1))) 2)))),s.2)))
 (.ret (.inl (s.1,(wm (au (s.1+(au (Int.tdiv (w1 (au (s.2- s.1))) 2))))))))))
 (.ret (.inr (s.1))))
def DS (x:I2):Int:=
 (aj (run (jx x) (0,x.1)) fun r=>
 r)
def uS (x:I2):Prop:=
 (Term (jx x) (uR x) (0,x.1))
def WD (x:I2):Tr Int true:=
 (aL.lp (F5 x) (zW x) (z0,x.1) fun r=>
 (.ret r))
abbrev wA:cf:=⟨(.pair (.one yi) (.iT 101 (.ptr (.int .i64)))),(.one yi),uS,DS⟩
theorem RY:ah Tryz.prog 100 (ak wA):=ah.tr wA WD (fn:=Tryz.f100) az vk mixed (by kernel_rfl) (av.nil _ _) (fun x=>(ax.tr az (af.eA vk (av.nil _ _)) mixed 0 (F5 x) (zW x) ax.nil (by kernel_rfl) fun g s Q=>(by kernel_rfl))) (fun x=>(by kernel_rfl)) fun x Q=>(by kernel_rfl)
def GF:List (Nat×Ev.Spec):=(100,ak wA)::Pf
theorem xq:af Tryz.prog GF:=af.add (fn:=Tryz.f100) (by kernel_rfl) RY vk
def AW (x:Int):I2:=
 (if (x<0) then
 (0,1) else
 (aj (DS (3037000499,x)) fun y=>
 (y,0)))
def nV (x:Int):Prop:=
 (¬(x<0)->
 (uS (3037000499,x)))
def aen (x:Int):Tr I2 true:=
 (.HX (x<z0)
 (.ret (z0,z1))
 (.fn wA (3037000499,x) fun y=>
 (.ret (y,z0))))
abbrev AX:cf:=⟨(.one yi),(.pair (.one yi) (.one yi)),nV,AW⟩
theorem abz:ah Tryz.prog 68 (ak AX):=ah.tr AX aen (fn:=Tryz.f68) az xq mixed (by kernel_rfl) (av.nil _ _) (fun x=>ax.nil) (fun x=>(by kernel_rfl)) fun x Q=>(by kernel_rfl)
def Pq:List (Nat×Ev.Spec):=(68,ak AX)::GF
theorem CX:af Tryz.prog Pq:=af.add (fn:=Tryz.f68) (by kernel_rfl) abz xq
def ES (x:I2):Int:=
 (aj (BZ x) fun y=>
 y.1)
def rL (x:I2):Prop:=
 (oJ x)
def Yt (x:I2):Tr Int true:=
 (.fn vx x fun y=>
 (.ret y.1))
abbrev tL:cf:=⟨(.pair (.one yi) (.one yi)),(.one yi),rL,ES⟩
theorem Vg:ah Tryz.prog 72 (ak tL):=ah.tr tL Yt (fn:=Tryz.f72) az CX mixed (by kernel_rfl) (av.nil _ _) (fun x=>ax.nil) (fun x=>(by kernel_rfl)) fun x Q=>(by kernel_rfl)
def JV:List (Nat×Ev.Spec):=(72,ak tL)::Pq
theorem Aj:af Tryz.prog JV:=af.add (fn:=Tryz.f72) (by kernel_rfl) Vg CX
def SY (x:I3):I3:=
 x
def acA (_:I3):Prop:=True
def ah3 (x:I3):Tr I3 false:=
 (.ret x)
abbrev Cb:cf:=⟨(.agg aO),(.agg aO),acA,SY⟩
theorem afI:ah Tryz.prog 69 (ak Cb):=ah.tr Cb ah3 (fn:=Tryz.f69) az Aj mixed (by kernel_rfl) (av.nil _ _) (fun x=>ax.nil) (fun x=>(by kernel_rfl)) fun x Q=>(by kernel_rfl)
def aaG:List (Nat×Ev.Spec):=(69,ak Cb)::JV
theorem JX:af Tryz.prog aaG:=af.add (fn:=Tryz.f69) (by kernel_rfl) afI Aj
def EX (x:I3):I3:=
 x
def YD (_:I3):Prop:=True
def afK (x:I3):Tr I3 false:=
 (.ret x)
abbrev xP:cf:=⟨(.agg aO),(.agg aO),YD,EX⟩
theorem acE:ah Tryz.prog 73 (ak xP):=ah.tr xP afK (fn:=Tryz.f73) az JX mixed (by kernel_rfl) (av.nil _ _) (fun x=>ax.nil) (fun x=>(by kernel_rfl)) fun x Q=>(by kernel_rfl)
def TV:List (Nat×Ev.Spec):=(73,ak xP)::aaG
theorem Gi:af Tryz.prog TV:=af.add (fn:=Tryz.f73) (by kernel_rfl) acE JX
def C5 (x:I2):Int:=
 (aj (ES ((au (1048576*x.1)),x.2)) fun y=>
 y)
def nU (x:I2):Prop:=
 (rL ((au (1048576*x.1)),x.2))
def ad6 (x:I2):Tr Int true:=
 (.fn tL ((au (1048576*x.1)),x.2) fun y=>
 (.ret y))
abbrev wF:cf:=⟨(.pair (.one yi) (.ptr (.int .i64))),(.one yi),nU,C5⟩
theorem aa4:ah Tryz.prog 71 (ak wF):=ah.tr wF ad6 (fn:=Tryz.f71) az Gi mixed (by kernel_rfl) (av.nil _ _) (fun x=>ax.nil) (fun x=>(by kernel_rfl)) fun x Q=>(by kernel_rfl)
def Ph:List (Nat×Ev.Spec):=(71,ak wF)::TV
theorem vm:af Tryz.prog Ph:=af.add (fn:=Tryz.f71) (by kernel_rfl) aa4 Gi
def SS (x:(I3×Int)):I3:=
 (aj (C5 (x.1.1,x.2)) fun y=>
 (aj (C5 (x.1.2.1,x.2)) fun aA=>
 (aj (C5 (x.1.2.2,x.2)) fun y_2=>
 (y,aA,y_2))))
def Be (x:(I3×Int)):Prop:=
 ((nU (x.1.1,x.2))/\
 aB (C5 (x.1.1,x.2)) fun y=>
 ((nU (x.1.2.1,x.2))/\
 aB (C5 (x.1.2.1,x.2)) fun aA=>
 (nU (x.1.2.2,x.2))))
def acg (x:(I3×Int)):Tr I3 true:=
 (.fn wF (x.1.1,x.2) fun y=>
 (.fn wF (x.1.2.1,x.2) fun aA=>
 (.fn wF (x.1.2.2,x.2) fun y_2=>
 (.ret (y,aA,y_2)))))
abbrev yU:cf:=⟨(.pair (.agg aO) (.iT 71 (.ptr (.int .i64)))),(.agg aO),Be,SS⟩
theorem M3:ah Tryz.prog 70 (ak yU):=ah.tr yU acg (fn:=Tryz.f70) az vm mixed (by kernel_rfl) (av.nil _ _) (fun x=>(ax.nD az (af.eA vm (av.nil _ _)) mixed 0 4 ax.nil (by kernel_rfl))) (fun x=>(by kernel_rfl)) fun x Q=>(by kernel_rfl)
def OR:List (Nat×Ev.Spec):=(70,ak yU)::Ph
theorem CG:af Tryz.prog OR:=af.add (fn:=Tryz.f70) (by kernel_rfl) M3 vm
def jK (x:I3):(I3×Int):=
 (aj (PS (x,x)) fun y=>
 (if ((y.2 !=0)=true) then
 ((0,0,0),y.2) else
 (if ((y.1==0)=true) then
 ((0,0,0),3) else
 (aj (AW (au (1048576*y.1))) fun aA=>
 (aj (SY x) fun y_2=>
 (aj (SS (y_2,aA.1)) fun bg=>
 (aj (EX bg) fun bW=>
 (bW,aA.2))))))))
def c8 (x:I3):Prop:=
 ((oH (x,x))/\
 aB (PS (x,x)) fun y=>
 (¬((y.2 !=0)=true)->
 (¬((y.1==0)=true)->
 ((nV (au (1048576*y.1)))/\
 aB (AW (au (1048576*y.1))) fun aA=>
 (aB (SY x) fun y_2=>
 (Be (y_2,aA.1)))))))
def acD (x:I3):Tr (I3×Int) true:=
 (.fn Hg (x,x) fun y=>
 (.kO (y.2 !=z0)
 (.ret (bH,y.2))
 (.kO (y.1==z0)
 (.ret (bH,3))
 (.fn AX (au (1048576*y.1)) fun aA=>
 (.fn0 Cb x trivial fun y_2=>
 (.fn yU (y_2,aA.1) fun bg=>
 (.fn0 xP bg trivial fun bW=>
 (.ret (bW,aA.2)))))))))
abbrev lK:cf:=⟨(.agg aO),(.pair (.agg aO) (.one yi)),c8,jK⟩
theorem YC:ah Tryz.prog 35 (ak lK):=ah.tr lK acD (fn:=Tryz.f35) az CG mixed (by kernel_rfl) (av.nil _ _) (fun x=>ax.nil) (fun x=>(by kernel_rfl)) fun x Q=>(by kernel_rfl)
def OX:List (Nat×Ev.Spec):=(35,ak lK)::OR
theorem CJ:af Tryz.prog OX:=af.add (fn:=Tryz.f35) (by kernel_rfl) YC CG
end Go.Proofs.YtngdehlpoomaiaaGreat
namespace Go.Proofs.YtngdehlpoomaiaaGreat
open Go Go.Ev Go.Proofs
def Dn (x:Int):Int:=
 (if (x>0) then
 (au (0- x)) else
 x)
def abf (_:Int):Prop:=True
def ag4 (x:Int):Tr Int false:=
 (.oq (x>z0)
 (.ret (au (z0- x)))
 (.ret x))
abbrev Hp:cf:=⟨(.one yi),(.one yi),abf,Dn⟩
theorem aeb:ah Tryz.prog 145 (ak Hp):=ah.tr Hp ag4 (fn:=Tryz.f145) az CJ mixed (by kernel_rfl) (av.nil _ _) (fun x=>ax.nil) (fun x=>(by kernel_rfl)) fun x Q=>(by kernel_rfl)
def Uf:List (Nat×Ev.Spec):=(145,ak Hp)::OX
theorem yp:af Tryz.prog Uf:=af.add (fn:=Tryz.f145) (by kernel_rfl) aeb CJ
def PN (x:I3):aL:=⟨[],⟨dL 23 0 [(3,.v (.one (.ptr 0 0))),(4,.v (.one (.i .i64))),(8,.v (.one (.i .i64)))],[.cells [.i .i64,.i .i64,.i .i64] 124],0,none,[],[],[2,3,4,0,1],[.i,.i,.i,.i,.i],[]⟩,[⟨(.exit 0),.normal,⟨dL 23 0 [(4,.v (.one (.i .i64)))],[],0,none,[],[],[0],[.i],[]⟩⟩]⟩
def fc (x:I3) (s:(Int×Int×I3)):(Int×Int×I3)⊕Int:=
 (if (s.2.2.2.2<3) then
 (aj (Dn (List.getD [s.1,s.2.1,s.2.2.1] (0+(s.2.2.2.2.toNat*1)) 0)) fun y=>
 (aj (Dn (List.getD [s.1,s.2.1,s.2.2.1] (0+(s.2.2.2.1.toNat*1)) 0)) fun aA=>
 (if (y<aA) then
 (Sum.inl (s.1,s.2.1,s.2.2.1,s.2.2.2.2,(au (s.2.2.2.2+1)))) else
 (Sum.inl (s.1,s.2.1,s.2.2.1,s.2.2.2.1,(au (s.2.2.2.2+1))))))) else
 (Sum.inr (s.2.2.2.1)))
def AO (x:I3) (s:(Int×Int×I3)):Prop:=
 ((s.2.2.2.2<3)->
 (((0<=s.2.2.2.2)/\ (s.2.2.2.2<3))/\
 ((((0+(s.2.2.2.2.toNat*1))+1)<=3)/\
 (aB (Dn (List.getD [s.1,s.2.1,s.2.2.1] (0+(s.2.2.2.2.toNat*1)) 0)) fun y=>
 (((0<=s.2.2.2.1)/\ (s.2.2.2.1<3))/\
 (((0+(s.2.2.2.1.toNat*1))+1)<=3))))))
def Hf (x:I3) (s:(Int×Int×I3)):Tr ((Int×Int×I3)⊕Int) true:=
 (.i10 (s.2.2.2.2<3)
 (.oR s.2.2.2.2 3
 (.od (((0+((tN s.2.2.2.2)*1))+1)<=3)
 (.fn0 Hp (List.getD [s.1,s.2.1,s.2.2.1] (0+((tN s.2.2.2.2)*1)) z0) trivial fun y=>
 (.oR s.2.2.2.1 3
 (.od (((0+((tN s.2.2.2.1)*1))+1)<=3)
 (.fn0 Hp (List.getD [s.1,s.2.1,s.2.2.1] (0+((tN s.2.2.2.1)*1)) z0) trivial fun aA=>
 (.oq (y<aA)
 (.ret (.inl (s.1,s.2.1,s.2.2.1,s.2.2.2.2,(w1 s.2.2.2.2))))
 (.ret (.inl (s.1,s.2.1,s.2.2.1,s.2.2.2.1,(w1 s.2.2.2.2)))))))))))
 (.ret (.inr (s.2.2.2.1))))
def PK (x:I3):Int:=
 (aj (ga x) fun y=>
 (aj (run (fc x) (y.1,y.2.1,y.2.2,0,0)) fun r=>
 r))
def wH (x:I3):Prop:=
 (aB (ga x) fun y=>
 (Term (fc x) (AO x) (y.1,y.2.1,y.2.2,0,0)))
def ad9 (x:I3):Tr Int true:=
 (.fn0 gX x trivial fun y=>
 (aL.lp (PN x) (Hf x) (y.1,y.2.1,y.2.2,A2) fun r=>
 (.ret r)))
abbrev DZ:cf:=⟨(.agg aO),(.one yi),wH,PK⟩
theorem abb:ah Tryz.prog 129 (ak DZ):=ah.tr DZ ad9 (fn:=Tryz.f129) az yp mixed (by kernel_rfl) (av.nil _ _) (fun x=>(ax.tr az (af.eA yp (av.nil _ _)) mixed 0 (PN x) (Hf x) ax.nil (by kernel_rfl) fun g s Q=>(by kernel_rfl))) (fun x=>(by kernel_rfl)) fun x Q=>(by kernel_rfl)
def Pj:List (Nat×Ev.Spec):=(129,ak DZ)::Uf
theorem CV:af Tryz.prog Pj:=af.add (fn:=Tryz.f129) (by kernel_rfl) abb yp
def xN (x:Int):Int:=
 (aj (ES (x,1024)) fun y=>
 y)
def oh (x:Int):Prop:=
 (rL (x,1024))
def Yx (x:Int):Tr Int true:=
 (.fn tL (x,1024) fun y=>
 (.ret y))
abbrev qG:cf:=⟨(.one yi),(.one yi),oh,xN⟩
theorem Vk:ah Tryz.prog 147 (ak qG):=ah.tr qG Yx (fn:=Tryz.f147) az CV mixed (by kernel_rfl) (av.nil _ _) (fun x=>ax.nil) (fun x=>(by kernel_rfl)) fun x Q=>(by kernel_rfl)
def JW:List (Nat×Ev.Spec):=(147,ak qG)::Pj
theorem sD:af Tryz.prog JW:=af.add (fn:=Tryz.f147) (by kernel_rfl) Vk CV
def Yj (x:(I3×Bool)):I3:=
 (aj (xN x.1.1) fun y=>
 (aj (xN x.1.2.1) fun aA=>
 (aj (xN x.1.2.2) fun y_2=>
 (y,aA,y_2))))
def Bc (x:(I3×Bool)):Prop:=
 ((oh x.1.1)/\
 aB (xN x.1.1) fun y=>
 ((oh x.1.2.1)/\
 aB (xN x.1.2.1) fun aA=>
 (oh x.1.2.2)))
def acf (x:(I3×Bool)):Tr I3 true:=
 (.fn qG x.1.1 fun y=>
 (.fn qG x.1.2.1 fun aA=>
 (.fn qG x.1.2.2 fun y_2=>
 (.ret (y,aA,y_2)))))
abbrev yS:cf:=⟨(.pair (.agg aO) (.iT 147 .none)),(.agg aO),Bc,Yj⟩
theorem Yk:ah Tryz.prog 70 (ak yS):=ah.tr yS acf (fn:=Tryz.f70) az sD mixed (by kernel_rfl) (av.nil _ _) (fun x=>(ax.nD az (af.eA sD (av.nil _ _)) mixed 0 4 ax.nil (by kernel_rfl))) (fun x=>(by kernel_rfl)) fun x Q=>(by kernel_rfl)
def OQ:List (Nat×Ev.Spec):=(70,vA yS.p (ak yS) (ak yU))::JW
theorem CF:af Tryz.prog OQ:=af.add (fn:=Tryz.f70) (by kernel_rfl) (ry Yk (M3)) sD
def Nf (x:I3):I3:=
 (aj (SY x) fun y=>
 (aj (Yj (y,false)) fun aA=>
 (aj (EX aA) fun y_2=>
 y_2)))
def qH (x:I3):Prop:=
 (aB (SY x) fun y=>
 (Bc (y,false)))
def acz (x:I3):Tr I3 true:=
 (.fn0 Cb x trivial fun y=>
 (.fn yS (y,false) fun aA=>
 (.fn0 xP aA trivial fun y_2=>
 (.ret y_2))))
abbrev y6:cf:=⟨(.agg aO),(.agg aO),qH,Nf⟩
theorem Yy:ah Tryz.prog 131 (ak y6):=ah.tr y6 acz (fn:=Tryz.f131) az CF mixed (by kernel_rfl) (av.nil _ _) (fun x=>ax.nil) (fun x=>(by kernel_rfl)) fun x Q=>(by kernel_rfl)
def OV:List (Nat×Ev.Spec):=(131,ak y6)::OQ
theorem CI:af Tryz.prog OV:=af.add (fn:=Tryz.f131) (by kernel_rfl) Yy CF
def Nh (x:I3):(((I3×I3)×I3)×Int):=
 (aj (jK x) fun y=>
 (if ((y.2 !=0)=true) then
 ((((0,0,0),0,0,0),0,0,0),y.2) else
 (aj (PK y.1) fun aA=>
 (aj (EX ((cond (Nat.beq (0+((Int.toNat (Int.tmod (au (aA+1)) 3))*1)) 0) 1 0),(cond (Nat.beq (0+((Int.toNat (Int.tmod (au (aA+1)) 3))*1)) 1) 1 0),(cond (Nat.beq (0+((Int.toNat (Int.tmod (au (aA+1)) 3))*1)) 2) 1 0))) fun y_2=>
 (aj (o9 (y_2,y.1)) fun bg=>
 (if ((bg.2 !=0)=true) then
 ((((0,0,0),0,0,0),0,0,0),bg.2) else
 (aj (jK bg.1) fun bW=>
 (if ((bW.2 !=0)=true) then
 ((((0,0,0),0,0,0),0,0,0),bW.2) else
 (aj (o9 (y.1,bW.1)) fun cC=>
 (if ((cC.2 !=0)=true) then
 ((((0,0,0),0,0,0),0,0,0),cC.2) else
 (aj (Nf cC.1) fun fP=>
 (((bW.1,fP),y.1),0))))))))))))
def vN (x:I3):Prop:=
 ((c8 x)/\
 aB (jK x) fun y=>
 (¬((y.2 !=0)=true)->
 ((wH y.1)/\
 aB (PK y.1) fun aA=>
 (((0<=(Int.tmod (au (aA+1)) 3))/\ ((Int.tmod (au (aA+1)) 3)<3))/\
 ((((0+((Int.toNat (Int.tmod (au (aA+1)) 3))*1))+1)<=3)/\
 (aB (EX ((cond (Nat.beq (0+((Int.toNat (Int.tmod (au (aA+1)) 3))*1)) 0) 1 0),(cond (Nat.beq (0+((Int.toNat (Int.tmod (au (aA+1)) 3))*1)) 1) 1 0),(cond (Nat.beq (0+((Int.toNat (Int.tmod (au (aA+1)) 3))*1)) 2) 1 0))) fun y_2=>
 ((l5 (y_2,y.1))/\
 aB (o9 (y_2,y.1)) fun bg=>
 (¬((bg.2 !=0)=true)->
 ((c8 bg.1)/\
 aB (jK bg.1) fun bW=>
 (¬((bW.2 !=0)=true)->
 ((l5 (y.1,bW.1))/\
 aB (o9 (y.1,bW.1)) fun cC=>
 (¬((cC.2 !=0)=true)->
 (qH cC.1)))))))))))))
def acB (x:I3):Tr (((I3×I3)×I3)×Int) true:=
 (.fn lK x fun y=>
 (.kO (y.2 !=z0)
 (.ret (((bH,bH),bH),y.2))
 (.fn DZ y.1 fun aA=>
 (.oR (Int.tmod (w1 aA) 3) 3
 (.od (((0+((tN (Int.tmod (w1 aA) 3))*1))+1)<=3)
 (.fn0 xP ((cond (Nat.beq (0+((tN (Int.tmod (w1 aA) 3))*1)) 0) z1 z0),(cond (Nat.beq (0+((tN (Int.tmod (w1 aA) 3))*1)) 1) z1 z0),(cond (Nat.beq (0+((tN (Int.tmod (w1 aA) 3))*1)) 2) z1 z0)) trivial fun y_2=>
 (.fn nJ (y_2,y.1) fun bg=>
 (.kO (bg.2 !=z0)
 (.ret (((bH,bH),bH),bg.2))
 (.fn lK bg.1 fun bW=>
 (.kO (bW.2 !=z0)
 (.ret (((bH,bH),bH),bW.2))
 (.fn nJ (y.1,bW.1) fun cC=>
 (.kO (cC.2 !=z0)
 (.ret (((bH,bH),bH),cC.2))
 (.fn y6 cC.1 fun fP=>
 (.ret (((bW.1,fP),y.1),z0)))))))))))))))
abbrev Dx:cf:=⟨(.agg aO),(.pair (.agg (Ty.prod (Ty.prod aO aO) aO)) (.one yi)),vN,Nh⟩
theorem Yz:ah Tryz.prog 103 (ak Dx):=ah.tr Dx acB (fn:=Tryz.f103) az CI mixed (by kernel_rfl) (av.nil _ _) (fun x=>ax.nil) (fun x=>(by kernel_rfl)) fun x Q=>(by kernel_rfl)
def OW:List (Nat×Ev.Spec):=(103,ak Dx)::OV
theorem u6:af Tryz.prog OW:=af.add (fn:=Tryz.f103) (by kernel_rfl) Yz CI
def fat (x:(((I3×I3)×I3)×I3)):I3:=
 (aj (SY x.1.1.1) fun y=>
 (aj (SY x.1.1.2) fun aA=>
 (aj (SY x.1.2) fun y_2=>
 (aj (EX ((au ((au ((au (y.1*x.2.1))+(au (aA.1*x.2.2.1))))+(au (y_2.1*x.2.2.2)))),(au ((au ((au (y.2.1*x.2.1))+(au (aA.2.1*x.2.2.1))))+(au (y_2.2.1*x.2.2.2)))),(au ((au ((au (y.2.2*x.2.1))+(au (aA.2.2*x.2.2.1))))+(au (y_2.2.2*x.2.2.2)))))) fun bg=>
 (aj (Nf bg) fun bW=>
 bW)))))
def Dv (x:(((I3×I3)×I3)×I3)):Prop:=
 (aB (SY x.1.1.1) fun y=>
 (aB (SY x.1.1.2) fun aA=>
 (aB (SY x.1.2) fun y_2=>
 (aB (EX ((au ((au ((au (y.1*x.2.1))+(au (aA.1*x.2.2.1))))+(au (y_2.1*x.2.2.2)))),(au ((au ((au (y.2.1*x.2.1))+(au (aA.2.1*x.2.2.1))))+(au (y_2.2.1*x.2.2.2)))),(au ((au ((au (y.2.2*x.2.1))+(au (aA.2.2*x.2.2.1))))+(au (y_2.2.2*x.2.2.2)))))) fun bg=>
 (qH bg)))))
def ah0 (x:(((I3×I3)×I3)×I3)):Tr I3 true:=
 (.fn0 Cb x.1.1.1 trivial fun y=>
 (.fn0 Cb x.1.1.2 trivial fun aA=>
 (.fn0 Cb x.1.2 trivial fun y_2=>
 (.fn0 xP ((au ((au ((au (y.1*x.2.1))+(au (aA.1*x.2.2.1))))+(au (y_2.1*x.2.2.2)))),(au ((au ((au (y.2.1*x.2.1))+(au (aA.2.1*x.2.2.1))))+(au (y_2.2.1*x.2.2.2)))),(au ((au ((au (y.2.2*x.2.1))+(au (aA.2.2*x.2.2.1))))+(au (y_2.2.2*x.2.2.2))))) trivial fun bg=>
 (.fn y6 bg fun bW=>
 (.ret bW))))))
abbrev SX:cf:=⟨(.pair (.agg (Ty.prod (Ty.prod aO aO) aO)) (.pair (.one yi) (.pair (.one yi) (.one yi)))),(.agg aO),Dv,fat⟩
theorem afG:ah Tryz.prog 104 (ak SX):=ah.tr SX ah0 (fn:=Tryz.f104) az u6 mixed (by kernel_rfl) (av.nil _ _) (fun x=>(ax.nD az (af.eA u6 (av.nil _ _)) mixed 0 4 ax.nil (by kernel_rfl))) (fun x=>(by kernel_rfl)) fun x Q=>(by kernel_rfl)
def aaF:List (Nat×Ev.Spec):=(104,ak SX)::OW
theorem JU:af Tryz.prog aaF:=af.add (fn:=Tryz.f104) (by kernel_rfl) afG u6
def yW (x:(I3×I2)):(I3×Int):=
 (aj (Nh x.1) fun y=>
 (if ((y.2 !=0)=true) then
 ((0,0,0),y.2) else
 (if ((aY x.2.1 x.2.2)<(-1024)) then
 ((0,0,0),1) else
 (if ((aT x.2.1 x.2.2)>1024) then
 ((0,0,0),1) else
 (aj (AW (aT (au ((au (1048576- (au (x.2.1*x.2.1))))- (au (x.2.2*x.2.2)))) 0)) fun aA=>
 (aj (fat (y.1,x.2.1,x.2.2,aA.1)) fun y_2=>
 (y_2,aA.2)))))))
def pg (x:(I3×I2)):Prop:=
 ((vN x.1)/\
 aB (Nh x.1) fun y=>
 (¬((y.2 !=0)=true)->
 (¬((aY x.2.1 x.2.2)<(-1024))->
 (¬((aT x.2.1 x.2.2)>1024)->
 ((nV (aT (au ((au (1048576- (au (x.2.1*x.2.1))))- (au (x.2.2*x.2.2)))) 0))/\
 aB (AW (aT (au ((au (1048576- (au (x.2.1*x.2.1))))- (au (x.2.2*x.2.2)))) 0)) fun aA=>
 (Dv (y.1,x.2.1,x.2.2,aA.1)))))))
def Ve (x:(I3×I2)):Tr (I3×Int) true:=
 (.fn Dx x.1 fun y=>
 (.kO (y.2 !=z0)
 (.ret (bH,y.2))
 (.HX ((aY x.2.1 x.2.2)<(-1024))
 (.ret (bH,z1))
 (.HX ((aT x.2.1 x.2.2)>1024)
 (.ret (bH,z1))
 (.fn AX (aT (au ((au (1048576- (au (x.2.1*x.2.1))))- (au (x.2.2*x.2.2)))) z0) fun aA=>
 (.fn SX (y.1,x.2.1,x.2.2,aA.1) fun y_2=>
 (.ret (y_2,aA.2))))))))
abbrev vK:cf:=⟨(.pair (.agg aO) (.agg gZ)),(.pair (.agg aO) (.one yi)),pg,yW⟩
theorem Qw:ah Tryz.prog 76 (ak vK):=ah.tr vK Ve (fn:=Tryz.f76) az JU mixed (by kernel_rfl) (av.nil _ _) (fun x=>ax.nil) (fun x=>(by kernel_rfl)) fun x Q=>(by kernel_rfl)
def Gh:List (Nat×Ev.Spec):=(76,ak vK)::aaF
theorem xh:af Tryz.prog Gh:=af.add (fn:=Tryz.f76) (by kernel_rfl) Qw JU
def tQ (x:(I3×I3)):I2:=
 (if ((aY (aY (aY (aY (aY x.1.1 x.1.2.1) x.1.2.2) x.2.1) x.2.2.1) x.2.2.2)<(-2048)) then
 (0,5) else
 (if ((aT (aT (aT (aT (aT x.1.1 x.1.2.1) x.1.2.2) x.2.1) x.2.2.1) x.2.2.2)>2048) then
 (0,5) else
 (aj (PS x) fun y=>
 ((aY (au (Int.tdiv (aT y.1 0) 1024)) 1024),y.2))))
def ke (x:(I3×I3)):Prop:=
 (¬((aY (aY (aY (aY (aY x.1.1 x.1.2.1) x.1.2.2) x.2.1) x.2.2.1) x.2.2.2)<(-2048))->
 (¬((aT (aT (aT (aT (aT x.1.1 x.1.2.1) x.1.2.2) x.2.1) x.2.2.1) x.2.2.2)>2048)->
 (oH x)))
def Qz (x:(I3×I3)):Tr I2 true:=
 (.HX ((aY (aY (aY (aY (aY x.1.1 x.1.2.1) x.1.2.2) x.2.1) x.2.2.1) x.2.2.2)<(-2048))
 (.ret (z0,5))
 (.HX ((aT (aT (aT (aT (aT x.1.1 x.1.2.1) x.1.2.2) x.2.1) x.2.2.1) x.2.2.2)>2048)
 (.ret (z0,5))
 (.fn Hg x fun y=>
 (.ret ((aY (au (Int.tdiv (aT y.1 z0) 1024)) 1024),y.2)))))
abbrev oe:cf:=⟨(.pair (.agg aO) (.agg aO)),(.pair (.one yi) (.one yi)),ke,tQ⟩
theorem Nd:ah Tryz.prog 37 (ak oe):=ah.tr oe Qz (fn:=Tryz.f37) az xh mixed (by kernel_rfl) (av.nil _ _) (fun x=>ax.nil) (fun x=>(by kernel_rfl)) fun x Q=>(by kernel_rfl)
def CH:List (Nat×Ev.Spec):=(37,ak oe)::Gh
theorem u5:af Tryz.prog CH:=af.add (fn:=Tryz.f37) (by kernel_rfl) Nd xh
def kp (x:I2):Bool:=
 (if (x.1>=0) then
 (decide (x.1<=x.2)) else
 false)
def Ns (_:I2):Prop:=True
def Vr (x:I2):Tr Bool false:=
 (.oq (x.1>=z0)
 (.ret (decide (x.1<=x.2)))
 (.ret false))
abbrev lf:cf:=⟨(.pair (.one yi) (.one yi)),(.one Ty.bool),Ns,kp⟩
theorem QF:ah Tryz.prog 50 (ak lf):=ah.tr lf Vr (fn:=Tryz.f50) az u5 mixed (by kernel_rfl) (av.nil _ _) (fun x=>ax.nil) (fun x=>(by kernel_rfl)) fun x Q=>(by kernel_rfl)
def Gl:List (Nat×Ev.Spec):=(50,ak lf)::CH
theorem xl:af Tryz.prog Gl:=af.add (fn:=Tryz.f50) (by kernel_rfl) QF u5
def om (x:Int):Bool:=
 (if ((x !=0)=true) then
 default else
 false)
def gN (x:Int):Prop:=
 (((x !=0)=true)->
 False)
def acI (x:Int):Tr Bool true:=
 (.Db (x !=z0)
 (.og false False False.elim (.ret default))
 (.ret false))
abbrev ko:cf:=⟨(.one yi),.none,gN,om⟩
theorem YI:ah Tryz.prog 41 (ak ko):=ah.tr ko acI (fn:=Tryz.f41) az xl mixed (by kernel_rfl) (av.nil _ _) (fun x=>ax.nil) (fun x=>(by kernel_rfl)) fun x Q=>(by kernel_rfl)
def O0:List (Nat×Ev.Spec):=(41,ak ko)::Gl
theorem CL:af Tryz.prog O0:=af.add (fn:=Tryz.f41) (by kernel_rfl) YI xl
def acH (x:I9):I3:=
 (aj (r8 x) fun y=>
 (aj (om y.2) fun aA=>
 (if ((!(((au (Int.tdiv y.1.1 16384))==0)&&(((au (Int.tdiv y.1.2.1 16384))==0)&&(((au (Int.tdiv y.1.2.2 16384))==0)&&true))))=true) then
 ((au (Int.tdiv y.1.1 16384)),(au (Int.tdiv y.1.2.1 16384)),(au (Int.tdiv y.1.2.2 16384))) else
 y.1)))
def Nl (x:I9):Prop:=
 ((my x)/\
 aB (r8 x) fun y=>
 (gN y.2))
def Vp (x:I9):Tr I3 true:=
 (.fn qS x fun y=>
 (.fn ko y.2 fun aA=>
 (.iQ (!(((au (Int.tdiv y.1.1 16384))==z0)&&(((au (Int.tdiv y.1.2.1 16384))==z0)&&(((au (Int.tdiv y.1.2.2 16384))==z0)&&true))))
 (.ret ((au (Int.tdiv y.1.1 16384)),(au (Int.tdiv y.1.2.1 16384)),(au (Int.tdiv y.1.2.2 16384))))
 (.ret y.1))))
abbrev Bk:cf:=⟨(.agg ff),(.agg aO),Nl,acH⟩
theorem QE:ah Tryz.prog 42 (ak Bk):=ah.tr Bk Vp (fn:=Tryz.f42) az CL mixed (by kernel_rfl) (av.nil _ _) (fun x=>ax.nil) (fun x=>(by kernel_rfl)) fun x Q=>(by kernel_rfl)
def Gk:List (Nat×Ev.Spec):=(42,ak Bk)::O0
theorem xk:af Tryz.prog Gk:=af.add (fn:=Tryz.f42) (by kernel_rfl) QE CL
def Cc (x:I2):Int:=
 (aj (BZ ((au (x.1*x.2)),1024)) fun y=>
 (aj (om y.2.2) fun aA=>
 y.1))
def nO (x:I2):Prop:=
 ((oJ ((au (x.1*x.2)),1024))/\
 aB (BZ ((au (x.1*x.2)),1024)) fun y=>
 (gN y.2.2))
def acF (x:I2):Tr Int true:=
 (.fn vx ((au (x.1*x.2)),1024) fun y=>
 (.fn ko y.2.2 fun aA=>
 (.ret y.1)))
abbrev vO:cf:=⟨(.pair (.one yi) (.ptr (.int .i64))),(.one yi),nO,Cc⟩
theorem YE:ah Tryz.prog 94 (ak vO):=ah.tr vO acF (fn:=Tryz.f94) az xk mixed (by kernel_rfl) (av.nil _ _) (fun x=>ax.nil) (fun x=>(by kernel_rfl)) fun x Q=>(by kernel_rfl)
def OZ:List (Nat×Ev.Spec):=(94,ak vO)::Gk
theorem CK:af Tryz.prog OZ:=af.add (fn:=Tryz.f94) (by kernel_rfl) YE xk
def vP (x:(I3×I3×Int)):I3:=
 (aj (Cc (x.2.1.1,x.2.2)) fun y=>
 (aj (Cc (x.2.1.2.1,x.2.2)) fun aA=>
 (aj (Cc (x.2.1.2.2,x.2.2)) fun y_2=>
 ((au (x.1.1+y)),(au (x.1.2.1+aA)),(au (x.1.2.2+y_2))))))
def l6 (x:(I3×I3×Int)):Prop:=
 ((nO (x.2.1.1,x.2.2))/\
 aB (Cc (x.2.1.1,x.2.2)) fun y=>
 ((nO (x.2.1.2.1,x.2.2))/\
 aB (Cc (x.2.1.2.1,x.2.2)) fun aA=>
 (nO (x.2.1.2.2,x.2.2))))
def Vo (x:(I3×I3×Int)):Tr I3 true:=
 (.fn vO (x.2.1.1,x.2.2) fun y=>
 (.fn vO (x.2.1.2.1,x.2.2) fun aA=>
 (.fn vO (x.2.1.2.2,x.2.2) fun y_2=>
 (.ret ((au (x.1.1+y)),(au (x.1.2.1+aA)),(au (x.1.2.2+y_2)))))))
abbrev qI:cf:=⟨(.pair (.agg aO) (.pair (.agg aO) (.one yi))),(.agg aO),l6,vP⟩
theorem QC:ah Tryz.prog 60 (ak qI):=ah.tr qI Vo (fn:=Tryz.f60) az CK mixed (by kernel_rfl) (av.nil _ _) (fun x=>ax.nil) (fun x=>(by kernel_rfl)) fun x Q=>(by kernel_rfl)
def Gj:List (Nat×Ev.Spec):=(60,ak qI)::OZ
theorem xj:af Tryz.prog Gj:=af.add (fn:=Tryz.f60) (by kernel_rfl) QC CK
end Go.Proofs.YtngdehlpoomaiaaGreat
