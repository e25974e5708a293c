/- The caster's tree, built when it is asked for first. -/
import Derived.Test.YtlkgabjhkfhgaaaGreatWb
import Derived.Test.YtlkgabjhkfhgaaaGreatWc
noncomputable section
set_option linter.unusedSectionVars false
set_option linter.unusedVariables false
set_option linter.unusedSimpArgs false
namespace Go.Proofs.YtlkgabjhkfhgaaaGreat
open Go Go.Ev Go.Proofs
theorem Ur:ak Tryz.prog 99 ldB:=Xg Zs
theorem Rp:ak Tryz.prog 40 Up:=Uq UG
theorem Nj:ak Tryz.prog 39 LK:=PF Xs
def MT:List (Nat×Ev.Spec):=(99,ldB)::JC
theorem Ln:ah Tryz.prog MT:=ah.add (fn:=Tryz.f99) (by kernel_rfl) Ur JD
def Jl:List (Nat×Ev.Spec):=(40,Up)::MT
theorem Jm:ah Tryz.prog Jl:=ah.add (fn:=Tryz.f40) (by kernel_rfl) Rp Ln
def oW:List (Nat×Ev.Spec):=(39,LK)::Jl
theorem mq:ah Tryz.prog oW:=ah.add (fn:=Tryz.f39) (by kernel_rfl) Nj Jm
def pC:Au:=⟨XK,zP,90,fF,fun L=>(bY L).1⟩
def Wb:eV:=Un tt oW lQ (fun _=> []) [] Tryz.f66
def GQ:List (Nat×eV):= [(100,Sw 66 Wb)]
def VP:List (Nat×eV):=(65,Un tt oW lQ (fun _=> []) GQ Tryz.f65)::GQ
theorem SR:jq Tryz.prog lQ 66 Wb:=jq.fn aC mq mixed (fn:=Tryz.f66) (by kernel_rfl) (by kernel_rfl) (aA.nil _ _) fun _ _=>aB.nil
theorem Cu:aA Tryz.prog lQ GQ:=aA.cons (lM.of (fn:=Tryz.f100) (by kernel_rfl) (by kernel_rfl) (by kernel_rfl)) (Sx SR fun b off cap w Q h0 h1 f1 hg hQ=>Zu b off _ cap w Q h0 h1 f1 (lM.of (fn:=Tryz.f66) (by kernel_rfl) (by kernel_rfl) (by kernel_rfl)) hg hQ) (aA.nil _ _)
theorem Qe:aA Tryz.prog lQ VP:=aA.cons (lM.of (fn:=Tryz.f65) (by kernel_rfl) (by kernel_rfl) (by kernel_rfl)) (jq.fn aC mq mixed (fn:=Tryz.f65) (by kernel_rfl) (by kernel_rfl) Cu fun _ _=>aB.nil) Cu
theorem Vt (L:List pC.tv.T) (T z:List pC.tb.T) (dn:Int) (q a b:Value) (b8:Env):
  H6 ⟨tt,oW,lQ,[],[],VP⟩ Tryz.f38 [.v (.one (.ptr 0 0))] (oO pC L T (.int .u32 dn) (.int .i32 0) q a b b8) (Lj pC b8 q a b (fun m=> .v (.one (.full m))) z)=
  (∀bh:Env,cB (!(dn !=0)) (∀ni:Env,ob (decide (dn=0)&&decide ((0:Int)=0)) (∀xB:Env,fF L/\ ∀y,y=bY L->xB=xB/\ (7:Nat)=7/\ ni=ni/\ (6:Nat)=6/\ bh=bh/\ (5:Nat)=5/\
   ((1:Nat)=1/\ (1:Int)=1/\ (0:Int)=0/\ q=q/\ a=a)/\ (b=b/\ (90:Nat)=90/\ AV.v (.one (.full 8))=AV.v (.one (.full 8))/\ (2:Nat)=2)/\ b8=b8/\ (3:Nat)=3/\ y.1=z))
   (bh=bh/\ (5:Nat)=5/\ ((1:Nat)=1/\ dn=1/\ (0:Int)=0/\ q=q/\ a=a)/\ (b=b/\ (90:Nat)=90/\ AV.v (.one (.full 2))=AV.v (.one (.full 2))/\ (2:Nat)=2)/\ b8=b8/\ (3:Nat)=3/\ T=z)):=by kernel_rfl
theorem Nq:ak Tryz.prog 38 (zQ pC):=ak.fnC aC mq mixed (fn:=Tryz.f38) (by kernel_rfl) (by kernel_rfl) Qe fun L T dn q a b b8 hd hp=>by
 rw [Vt]
 intro bh
 rcases hd with rfl|rfl
 ·exact fun _ _=>⟨hp rfl,fun y hy=>⟨rfl,rfl,rfl,rfl,rfl,rfl,⟨rfl,rfl,rfl,rfl,rfl⟩,⟨rfl,rfl,rfl,rfl⟩,rfl,rfl,by subst hy;rfl⟩⟩
 ·exact ⟨rfl,rfl,⟨rfl,rfl,rfl,rfl,rfl⟩,⟨rfl,rfl,rfl,rfl⟩,rfl,rfl,rfl⟩
def tp:List (Nat×Ev.Spec):=(38,zQ pC)::oW
theorem qf:ah Tryz.prog tp:=ah.add (fn:=Tryz.f38) (by kernel_rfl) Nq mq
def aK:Wd:=⟨pC,fun L T x=>jm (T,(L,x)),fun L T x=>xx (T,(L,x))⟩
abbrev ZE (q:Value) (a b A B:Int) (V V':Bool×(Int×Int)) (y z:List zP.T) (b8:Env):Prop:=((1:Nat)=1/\ (1:Int)=1/\ (0:Int)=0/\ q=q/\ Value.int .i64 a=Value.int .i64 A)/\ (Value.int .i64 b=Value.int .i64 B/\ (90:Nat)=90/\ AV.oG [.one (.raw (.bool V.1)),.one (.raw (.int .i64 V.2.2))]=AV.oG [.one (.raw (.bool V'.1)),.one (.raw (.int .i64 V'.2.2))]/\ (2:Nat)=2)/\ b8=b8/\ (3:Nat)=3/\ y=z
theorem PT (L:List aK.base.tv.T) (T z:List aK.base.tb.T) (dn:Int) (q:Value) (a b A B:Int) (V:Bool×(Int×Int)) (x:Tm×Tm) (b8:Env):
  H6 ⟨tt,tp,lQ,[],[],[]⟩ Tryz.f16 [.v (.one (.ptr 0 0)),XB x.1,XB x.2] (oO aK.base L T (.int .u32 dn) (.int .i32 0) q (.int .i64 a) (.int .i64 b) b8) (Lj aK.base b8 q (.int .i64 A) (.int .i64 B) (fun _=> .oG [.one (.raw (.bool V.1)),.one (.raw (.int .i64 V.2.2))]) z)=
  ob (true&&decide ((0:Int)=0)&&(decide (dn=0)||decide (dn=1))) (jV dn (fF L)/\ ∀y,y=c5 dn (bY L).1 T->jm (y,(L,x))/\ ∀u,u=xx (y,(L,x))->
   cB (u.2.2==0) (True/\ ∀a',a'=IntKind.wrap .i64 (a+1)->True/\ ∀b',b'=IntKind.wrap .i64 (b+u.2.1)->ZE q a' b' A B u V y z b8) (ZE q a b A B u V y z b8)):=by kernel_rfl
theorem qJ:ak Tryz.prog 16 (FQ aK):=ak.fnD aC qf mixed (fn:=Tryz.f16) (by kernel_rfl) (by kernel_rfl) fun L T dn q a b x b8 hd hp hp2=>by
 rw [PT]
 refine OM (by rcases hd with rfl|rfl<;>rfl) ⟨hp,fun y hy=>⟨by subst hy;exact hp2,fun u hu=> ?_⟩⟩
 have hu2:u=aK.ask L (c5 dn (aK.base.qI L) T) x:=by subst hu;subst hy;rfl
 rw [<- hu2]
 have hy2:y=c5 dn (aK.base.qI L) T:=hy
 cases h:u.2.2==0 with
 |true=>
  have h0:u.2.2=0:=by simpa using h
  exact ⟨trivial,fun a' ha=>⟨trivial,fun b' hb=>⟨⟨rfl,rfl,rfl,rfl,by rw [ha,dB,if_pos h0]⟩,⟨by rw [hb,dB,if_pos h0],rfl,rfl,rfl⟩,rfl,rfl,hy2⟩⟩⟩
 |false=>
  have h0: ¬u.2.2=0:=by simpa using h
  exact ⟨⟨rfl,rfl,rfl,rfl,by rw [dB,if_neg h0]⟩,⟨by rw [dB,if_neg h0],rfl,rfl,rfl⟩,rfl,rfl,hy2⟩
def Jb:List (Nat×Ev.Spec):=(16,FQ aK)::tp
theorem zj:ah Tryz.prog Jb:=ah.add (fn:=Tryz.f16) (by kernel_rfl) qJ qf
end Go.Proofs.YtlkgabjhkfhgaaaGreat
namespace Go.Proofs.YtlkgabjhkfhgaaaGreat
open Go Go.Ev Go.Proofs
def Yo (x:I9):Bool:=
 (ai (cJ [x.1,x.2.1,x.2.2]) fun y=>
 (!y))
def HW (x:I9):Prop:=
 (b9 [x.1,x.2.1,x.2.2])
def WA (x:I9):Tr Bool true:=
 (.fn dg [x.1,x.2.1,x.2.2] fun y=>
 (.ret (!y)))
abbrev F7:dS:=⟨(.agg bP),(.one Ty.bool),HW,Yo⟩
theorem TK:ak Tryz.prog 28 (av F7):=ak.tr F7 WA (fn:=Tryz.f28) aC zj mixed (by kernel_rfl) (aA.nil _ _) (fun x=>aB.nil) (fun x=>(by kernel_rfl)) fun x Q=>(by kernel_rfl)
def ML:List (Nat×Ev.Spec):=(28,av F7)::Jb
theorem uS:ah Tryz.prog ML:=ah.add (fn:=Tryz.f28) (by kernel_rfl) TK zj
def Eo (x:((List I9)×Bool)):aI:=⟨[],⟨cA 19 0 [(0,.v (.one (.full 0))),(1,.v (.one (.jS 28 0 []))),(7,.v (.one (.i .i64))),(8,.v (.one (.i .i64)))],[.row bP 0],0,none,[],[0,2],[1],[.i],[.i (x.1.length:Int),.l bP x.1]⟩,[⟨.ret,.ret,⟨cA 19 0 [(4,.v (.one (.i .i64)))],[],0,none,[],[],[0],[.i],[]⟩⟩,⟨(.exit 0),.normal,⟨cA 19 0 [],[],0,none,[],[],[],[],[]⟩⟩]⟩
def rD (x:((List I9)×Bool)) (s:Int):Int⊕(Int⊕Unit):=
 (if (s<(x.1.length:Int)) then
 (ai (Yo (List.getD x.1 (Int.toNat s) (((0:Int),((0:Int),(0:Int))),(((0:Int),((0:Int),(0:Int))),((0:Int),((0:Int),(0:Int))))))) fun y=>
 (if (y=true) then
 (Sum.inr (Sum.inl s)) else
 (Sum.inl (ae (s+(1:Int)))))) else
 (Sum.inr (Sum.inr (()))))
def DD (x:((List I9)×Bool)) (s:Int):Prop:=
 ((s<(x.1.length:Int))->
 ((((0:Int)<=s)/\ (s<(x.1.length:Int)))/\
 (((Int.toNat s)<(List.length x.1))/\
 (((Int.toNat s)<(List.length x.1))/\
 (HW (List.getD x.1 (Int.toNat s) (((0:Int),((0:Int),(0:Int))),(((0:Int),((0:Int),(0:Int))),((0:Int),((0:Int),(0:Int)))))))))))
def yO (x:((List I9)×Bool)) (s:Int):Tr (Int⊕(Int⊕Unit)) true:=
 (.i10 (s<(nL x.1))
 (.bO s x.1
 (.fn F7 (gT x.1 s G5) fun y=>
 (.fu y
 (.ret (.inr (Sum.inl s)))
 (.ret (.inl (w1 s))))))
 (.ret (.inr (Sum.inr (())))))
def Q5 (x:((List I9)×Bool)):Int:=
 (ai (run (rD x) (0:Int)) fun r=>
 (Sum.elim (fun a=>
 a) (fun b=>
 (-1:Int)) r))
def Br (x:((List I9)×Bool)):Prop:=
 (Term (rD x) (DD x) (0:Int))
def Q6 (x:((List I9)×Bool)):Tr Int true:=
 (aI.lp (Eo x) (yO x) z0 fun r=>
 (.Hj r (fun a=>
 (.ret a)) (fun b=>
 (.ret (-1:Int)))))
abbrev rC:dS:=⟨(.pair (.one (Ty.sl bP)) (.jS 28 .none)),(.one yi),Br,Q5⟩
theorem N9:ak Tryz.prog 51 (av rC):=ak.tr rC Q6 (fn:=Tryz.f51) aC uS mixed (by kernel_rfl) (aA.nil _ _) (fun x=>(aB.tr aC (ah.c8 uS (aA.nil _ _)) mixed 0 (Eo x) (yO x) aB.nil (by kernel_rfl) fun g s Q=>(by kernel_rfl))) (fun x=>(by kernel_rfl)) fun x Q=>(by kernel_rfl)
def Fg:List (Nat×Ev.Spec):=(51,vj rC.p (av rC) (av rB))::ML
theorem wX:ah Tryz.prog Fg:=ah.add (fn:=Tryz.f51) (by kernel_rfl) (uc N9 (En)) uS
def bZ (x:((List I9)×Bool)):Bool:=
 (ai (Q5 (x.1,false)) fun y=>
 (decide (y>=(0:Int))))
def gg (x:((List I9)×Bool)):Prop:=
 (Br (x.1,false))
def HK (x:((List I9)×Bool)):Tr Bool true:=
 (.fn rC (x.1,false) fun y=>
 (.ret (decide (y>=z0))))
abbrev fC:dS:=⟨(.pair (.one (Ty.sl bP)) (.jS 28 .none)),(.one Ty.bool),gg,bZ⟩
theorem FY:ak Tryz.prog 29 (av fC):=ak.tr fC HK (fn:=Tryz.f29) aC wX mixed (by kernel_rfl) (aA.nil _ _) (fun x=>aB.nil) (fun x=>(by kernel_rfl)) fun x Q=>(by kernel_rfl)
def wQ:List (Nat×Ev.Spec):=(29,vj fC.p (av fC) (av kY))::Fg
theorem qw:ah Tryz.prog wQ:=ah.add (fn:=Tryz.f29) (by kernel_rfl) (uc FY (vn)) wX
def mJ (x:(List I9)):(List I9):=
 ((List.replicate 0 (((0:Int),((0:Int),(0:Int))),(((0:Int),((0:Int),(0:Int))),((0:Int),((0:Int),(0:Int))))))++x)
def iW (x:(List I9)):Prop:=
 (∀b:Bool,((0<(List.length x))->(b=false))->(((if (b=true) then
 [] else
 ((List.replicate 0 (((0:Int),((0:Int),(0:Int))),(((0:Int),((0:Int),(0:Int))),((0:Int),((0:Int),(0:Int))))))++x))=((List.replicate 0 (((0:Int),((0:Int),(0:Int))),(((0:Int),((0:Int),(0:Int))),((0:Int),((0:Int),(0:Int))))))++x))/\ (¬(b=true)->
 ((0+(List.length x))<1099511627776))))
def P8 (x:(List I9)):Tr (List I9) true:=
 (.nil (fun b=>((0<(List.length x))->(b=false))) fun b=>
 (.nY b
 (.ret [])
 (.od ((0+(List.length x))<1099511627776)
 (.ret ((List.replicate 0 G5)++x)))))
abbrev mK:dS:=⟨(.one (Ty.sl bP)),(.one (Ty.sl bP)),iW,mJ⟩
theorem Nt:ak Tryz.prog 30 (av mK):=ak.tr mK P8 (fn:=Tryz.f30) aC qw mixed (by kernel_rfl) (aA.dead 30 (fn:=Tryz.f30) (by kernel_rfl)) (fun x=>aB.nil) (fun x=>(by kernel_rfl)) fun x Q=>(by kernel_rfl)
def E8:List (Nat×Ev.Spec):=(30,av mK)::wQ
theorem mw:ah Tryz.prog E8:=ah.add (fn:=Tryz.f30) (by kernel_rfl) Nt qw
def IE:Hp Tryz.prog:=⟨_,(aA.walk aC mw mixed 12 (fn:=Tryz.f12) (by kernel_rfl) (aA.nil _ _) fun ys hy=>aB.nil)⟩
def IF (x:((List I9)×(I3×(List I3)))):aI:=⟨[],⟨cA 54 0 [(4,.v (.one (.ptr 0 0))),(8,.v (.one (.ptr 1 0))),(10,.v (.one (.i .i64))),(32,.v (.one (.full 4))),(33,.v (.one (.i .i64))),(34,.v (.one (.i .i64)))],[.cells [.i .i64,.i .i64,.i .i64] 39,.cells [.full 2,.i IntKind.u32,.i IntKind.i32,.i IntKind.u32,.full 3,.i .i64,.i .i64] 90,.row bP 2,.row (Ty.prod (Ty.prod bz bz) (Ty.prod yi (Ty.prod yi (Ty.sl yi)))) 2,.row bz 0],0,none,[],[1,3,4,5,7,8,13],[11,6,12,9,10,0,2],[(.l bP),.i,(.l (Ty.prod (Ty.prod bz bz) (Ty.prod yi (Ty.prod yi (Ty.sl yi))))),.i,.i,.i,.i],[.i (x.2.2.length:Int),.i x.2.1.1,.i x.2.1.2.1,.i x.2.1.2.2,.i (0:Int),.i (0:Int),.l bz x.2.2]⟩,[⟨.ret,.ret,⟨cA 54 0 [(6,.v (.one (.i .i64))),(7,.v (.one (.i .i64)))],[],0,none,[],[0],[1],[.i],[.i (0:Int)]⟩⟩,⟨(.exit 0),.normal,⟨cA 54 0 [(10,.v (.one (.i .i64)))],[],0,none,[],[],[0],[.i],[]⟩⟩]⟩
def iL (x:((List I9)×(I3×(List I3)))) (s:((List I9)×(Int×((List ((I3×I3)×(Int×(Int×(List Int)))))×(Int×I3))))):((List I9)×(Int×((List ((I3×I3)×(Int×(Int×(List Int)))))×(Int×I3))))⊕(Int⊕Int):=
 (if (s.2.2.2.2.2.2<(x.2.2.length:Int)) then
 (ai (c5 s.2.1 (aK.base.qI s.1) s.2.2.1) fun y=>
 (ai (aK.ask s.1 y (x.2.1,(List.getD x.2.2 (Int.toNat s.2.2.2.2.2.2) ((0:Int),((0:Int),(0:Int)))))) fun aq=>
 (ai (dB aq s.2.2.2.1 (1:Int)) fun y_2=>
 (ai (dB aq s.2.2.2.2.1 aq.2.1) fun au=>
 (if ((aq.2.2 !=(0:Int))=true) then
 (Sum.inr (Sum.inl aq.2.2)) else
 (if ((!aq.1)=true) then
 (Sum.inl (s.1,((1:Int),(y,(y_2,(au,((ae (s.2.2.2.2.2.1+(1:Int))),(ae (s.2.2.2.2.2.2+(1:Int)))))))))) else
 (Sum.inl (s.1,((1:Int),(y,(y_2,(au,(s.2.2.2.2.2.1,(ae (s.2.2.2.2.2.2+(1:Int)))))))))))))))) else
 (Sum.inr (Sum.inr (s.2.2.2.2.2.1))))
def me (x:((List I9)×(I3×(List I3)))) (s:((List I9)×(Int×((List ((I3×I3)×(Int×(Int×(List Int)))))×(Int×I3))))):Prop:=
 ((s.2.2.2.2.2.2<(x.2.2.length:Int))->
 ((((0:Int)<=s.2.2.2.2.2.2)/\ (s.2.2.2.2.2.2<(x.2.2.length:Int)))/\
 (((Int.toNat s.2.2.2.2.2.2)<(List.length x.2.2))/\
 (((Int.toNat s.2.2.2.2.2.2)<(List.length x.2.2))/\
 ((((decide (s.2.1=(0:Int)))||(decide (s.2.1=(1:Int))))=true)/\
 ((jV s.2.1 (aK.base.pre s.1))/\
 az (c5 s.2.1 (aK.base.qI s.1) s.2.2.1) fun y=>
 (aK.wh s.1 y (x.2.1,(List.getD x.2.2 (Int.toNat s.2.2.2.2.2.2) ((0:Int),((0:Int),(0:Int))))))))))))
def BT (x:((List I9)×(I3×(List I3)))) (s:((List I9)×(Int×((List ((I3×I3)×(Int×(Int×(List Int)))))×(Int×I3))))):Tr (((List I9)×(Int×((List ((I3×I3)×(Int×(Int×(List Int)))))×(Int×I3))))⊕(Int⊕Int)) true:=
 (.i10 (s.2.2.2.2.2.2<(nL x.2.2))
 (.bO s.2.2.2.2.2.2 x.2.2
 (.og (true&&((decide (s.2.1=z0))||(decide (s.2.1=z1)))) (((decide (s.2.1=z0))||(decide (s.2.1=z1)))=true) (fun h=>(c7 rfl h))
 (.call (jV s.2.1 (aK.base.pre s.1)) (c5 s.2.1 (aK.base.qI s.1) s.2.2.1) fun y=>
 (.call (aK.wh s.1 y (x.2.1,(gT x.2.2 s.2.2.2.2.2.2 eE))) (aK.ask s.1 y (x.2.1,(gT x.2.2 s.2.2.2.2.2.2 eE))) fun aq=>
 (.lt (dB aq s.2.2.2.1 z1) fun y_2=>
 (.lt (dB aq s.2.2.2.2.1 aq.2.1) fun au=>
 (.fu (aq.2.2 !=z0)
 (.ret (.inr (Sum.inl aq.2.2)))
 (.fu (!aq.1)
 (.ret (.inl (s.1,(z1,(y,(y_2,(au,((w1 s.2.2.2.2.2.1),(w1 s.2.2.2.2.2.2)))))))))
 (.ret (.inl (s.1,(z1,(y,(y_2,(au,(s.2.2.2.2.2.1,(w1 s.2.2.2.2.2.2)))))))))))))))))
 (.ret (.inr (Sum.inr (s.2.2.2.2.2.1)))))
def iK (x:((List I9)×(I3×(List I3)))):I2:=
 (if ((x.1.length:Int)>(500:Int)) then
 ((0:Int),(2:Int)) else
 (ai (bZ (x.1,false)) fun y=>
 (if (y=true) then
 ((0:Int),(5:Int)) else
 (ai (mJ x.1) fun aq=>
 (ai (cJ [x.2.1]) fun y_2=>
 (if ((!y_2)=true) then
 ((0:Int),(5:Int)) else
 (ai (cJ x.2.2) fun au=>
 (if ((!au)=true) then
 ((0:Int),(5:Int)) else
 (ai (run (iL x) (aq,((0:Int),([],((0:Int),((0:Int),((0:Int),(0:Int)))))))) fun r=>
 (Sum.elim (fun a=>
 ((0:Int),a)) (fun b=>
 (b,(0:Int))) r))))))))))
def fg (x:((List I9)×(I3×(List I3)))):Prop:=
 (¬((x.1.length:Int)>(500:Int))->
 ((gg (x.1,false))/\
 az (bZ (x.1,false)) fun y=>
 (¬(y=true)->
 ((iW x.1)/\
 az (mJ x.1) fun aq=>
 ((b9 [x.2.1])/\
 az (cJ [x.2.1]) fun y_2=>
 (¬((!y_2)=true)->
 ((b9 x.2.2)/\
 az (cJ x.2.2) fun au=>
 (¬((!au)=true)->
 (Term (iL x) (me x) (aq,((0:Int),([],((0:Int),((0:Int),((0:Int),(0:Int))))))))))))))))
def UP (x:((List I9)×(I3×(List I3)))):Tr I2 true:=
 (.Dp
 (.Di ((nL x.1)>(500:Int))
 (.pn 0 3
 (.ret (z0,(2:Int))))
 (.fn fC (x.1,false) fun y=>
 (.nY y
 (.pn 0 3
 (.ret (z0,(5:Int))))
 (.fn mK x.1 fun aq=>
 (.pn 0 3
 (.fn dg [x.2.1] fun y_2=>
 (.nY (!y_2)
 (.ret (z0,(5:Int)))
 (.fn dg x.2.2 fun au=>
 (.nY (!au)
 (.ret (z0,(5:Int)))
 (aI.lp (IF x) (BT x) (aq,(z0,([],(z0,eE)))) fun r=>
 (.Hj r (fun a=>
 (.ret (z0,a))) (fun b=>
 (.ret (b,z0)))))))))))))))
abbrev jF:dS:=⟨(.pair (.one (Ty.sl bP)) (.pair (.agg bz) (.one (Ty.sl bz)))),(.pair (.one yi) (.one yi)),fg,iK⟩
theorem RQ:ak Tryz.prog 19 (av jF):=ak.tr jF UP (fn:=Tryz.f19) aC mw mixed (by kernel_rfl) IE.ok (fun x=>(aB.tr aC (ah.c8 mw IE.ok) mixed 0 (IF x) (BT x) aB.nil (by kernel_rfl) fun g s Q=>(by kernel_rfl))) (fun x=>(by kernel_rfl)) fun x Q=>(by kernel_rfl)
def Js:List (Nat×Ev.Spec):=(19,av jF)::E8
theorem nS:ah Tryz.prog Js:=ah.add (fn:=Tryz.f19) (by kernel_rfl) RQ mw
end Go.Proofs.YtlkgabjhkfhgaaaGreat
namespace Go.Proofs.YtlkgabjhkfhgaaaGreat
open Go Go.Ev Go.Proofs
def Hx:Hp Tryz.prog:=⟨_,(aA.walk aC nS mixed 12 (fn:=Tryz.f12) (by kernel_rfl) (aA.nil _ _) fun ys hy=>aB.nil)⟩
def Hy:Hp Tryz.prog:=⟨_,(aA.walk aC nS mixed 18 (fn:=Tryz.f18) (by kernel_rfl) Hx.ok fun ys hy=>aB.nil)⟩
def cU (x:Bool):Bool:=
 (ai (bZ ([(((0:Int),((0:Int),(0:Int))),(((4:Int),((0:Int),(0:Int))),((0:Int),((4:Int),(0:Int)))))],false)) fun y=>
 (if (y=true) then
 false else
 (ai (mJ [(((0:Int),((0:Int),(0:Int))),(((4:Int),((0:Int),(0:Int))),((0:Int),((4:Int),(0:Int)))))]) fun aq=>
 (ai (c5 (0:Int) (aK.base.qI aq) []) fun y_2=>
 (ai (aK.ask aq y_2 (((1:Int),((1:Int),(-1:Int))),((1:Int),((1:Int),(1:Int))))) fun au=>
 (ai (dB au (0:Int) (1:Int)) fun aG=>
 (ai (dB au (0:Int) au.2.1) fun cu=>
 (ai (c5 (1:Int) (aK.base.qI aq) y_2) fun qD=>
 (ai (aK.ask aq qD (((1:Int),((1:Int),(-1:Int))),((1:Int),((1:Int),(-2:Int))))) fun oE=>
 (ai (dB oE aG (1:Int)) fun Ta=>
 (ai (dB oE cu oE.2.1) fun XS=>
 (ai (iK ([(((0:Int),((0:Int),(0:Int))),(((4:Int),((0:Int),(0:Int))),((0:Int),((4:Int),(0:Int)))))],(((1:Int),((1:Int),(-1:Int))),[((1:Int),((1:Int),(1:Int))),((1:Int),((1:Int),(-1:Int)))]))) fun yq=>
 (ai (iK ([(((0:Int),((0:Int),(0:Int))),(((4:Int),((0:Int),(0:Int))),((0:Int),((4:Int),(0:Int)))))],(((16385:Int),((0:Int),(0:Int))),[]))) fun yu=>
 (if (au.1=true) then
 (if ((au.2.2==(0:Int))=true) then
 (if ((!oE.1)=true) then
 (if ((oE.2.2==(0:Int))=true) then
 (if ((Ta==(2:Int))=true) then
 (if ((XS==(2:Int))=true) then
 (if ((yq.1==(1:Int))=true) then
 (if ((yq.2==(0:Int))=true) then
 (yu.2==(5:Int)) else
 false) else
 false) else
 false) else
 false) else
 false) else
 false) else
 false) else
 false))))))))))))))
def bE (x:Bool):Prop:=
 ((gg ([(((0:Int),((0:Int),(0:Int))),(((4:Int),((0:Int),(0:Int))),((0:Int),((4:Int),(0:Int)))))],false))/\
 az (bZ ([(((0:Int),((0:Int),(0:Int))),(((4:Int),((0:Int),(0:Int))),((0:Int),((4:Int),(0:Int)))))],false)) fun y=>
 (¬(y=true)->
 ((iW [(((0:Int),((0:Int),(0:Int))),(((4:Int),((0:Int),(0:Int))),((0:Int),((4:Int),(0:Int)))))])/\
 az (mJ [(((0:Int),((0:Int),(0:Int))),(((4:Int),((0:Int),(0:Int))),((0:Int),((4:Int),(0:Int)))))]) fun aq=>
 ((jV (0:Int) (aK.base.pre aq))/\
 az (c5 (0:Int) (aK.base.qI aq) []) fun y_2=>
 ((aK.wh aq y_2 (((1:Int),((1:Int),(-1:Int))),((1:Int),((1:Int),(1:Int)))))/\
 az (aK.ask aq y_2 (((1:Int),((1:Int),(-1:Int))),((1:Int),((1:Int),(1:Int))))) fun au=>
 (az (dB au (0:Int) (1:Int)) fun aG=>
 (az (dB au (0:Int) au.2.1) fun cu=>
 ((jV (1:Int) (aK.base.pre aq))/\
 az (c5 (1:Int) (aK.base.qI aq) y_2) fun qD=>
 ((aK.wh aq qD (((1:Int),((1:Int),(-1:Int))),((1:Int),((1:Int),(-2:Int)))))/\
 az (aK.ask aq qD (((1:Int),((1:Int),(-1:Int))),((1:Int),((1:Int),(-2:Int))))) fun oE=>
 (az (dB oE aG (1:Int)) fun Ta=>
 (az (dB oE cu oE.2.1) fun XS=>
 ((fg ([(((0:Int),((0:Int),(0:Int))),(((4:Int),((0:Int),(0:Int))),((0:Int),((4:Int),(0:Int)))))],(((1:Int),((1:Int),(-1:Int))),[((1:Int),((1:Int),(1:Int))),((1:Int),((1:Int),(-1:Int)))])))/\
 az (iK ([(((0:Int),((0:Int),(0:Int))),(((4:Int),((0:Int),(0:Int))),((0:Int),((4:Int),(0:Int)))))],(((1:Int),((1:Int),(-1:Int))),[((1:Int),((1:Int),(1:Int))),((1:Int),((1:Int),(-1:Int)))]))) fun yq=>
 (fg ([(((0:Int),((0:Int),(0:Int))),(((4:Int),((0:Int),(0:Int))),((0:Int),((4:Int),(0:Int)))))],(((16385:Int),((0:Int),(0:Int))),[])))))))))))))))
def J1 (x:Bool):Tr Bool true:=
 (.Dp
 (.fn fC ([(eE,(((4:Int),Tj),(z0,((4:Int),z0))))],false) fun y=>
 (.nY y
 (.pn 0 1
 (.ret false))
 (.fn mK [(eE,(((4:Int),Tj),(z0,((4:Int),z0))))] fun aq=>
 (.pn 0 1
 (.call (jV z0 (aK.base.pre aq)) (c5 z0 (aK.base.qI aq) []) fun y_2=>
 (.call (aK.wh aq y_2 ((z1,(z1,(-1:Int))),(z1,(z1,z1)))) (aK.ask aq y_2 ((z1,(z1,(-1:Int))),(z1,(z1,z1)))) fun au=>
 (.lt (dB au z0 z1) fun aG=>
 (.lt (dB au z0 au.2.1) fun cu=>
 (.call (jV z1 (aK.base.pre aq)) (c5 z1 (aK.base.qI aq) y_2) fun qD=>
 (.call (aK.wh aq qD ((z1,(z1,(-1:Int))),(z1,(z1,(-2:Int))))) (aK.ask aq qD ((z1,(z1,(-1:Int))),(z1,(z1,(-2:Int))))) fun oE=>
 (.lt (dB oE aG z1) fun Ta=>
 (.lt (dB oE cu oE.2.1) fun XS=>
 (.Dp
 (.pn 1 7
 (.fn jF ([(eE,(((4:Int),Tj),(z0,((4:Int),z0))))],((z1,(z1,(-1:Int))),[(z1,(z1,z1)),(z1,(z1,(-1:Int)))])) fun yq=>
 (.fn jF ([(eE,(((4:Int),Tj),(z0,((4:Int),z0))))],(((16385:Int),Tj),[])) fun yu=>
 (.fu au.1
 (.fu (au.2.2==z0)
 (.fu (!oE.1)
 (.fu (oE.2.2==z0)
 (.fu (Ta==(2:Int))
 (.fu (XS==(2:Int))
 (.fu (yq.1==z1)
 (.fu (yq.2==z0)
 (.ret (yu.2==(5:Int)))
 (.ret false))
 (.ret false))
 (.ret false))
 (.ret false))
 (.ret false))
 (.ret false))
 (.ret false))
 (.ret false)))))))))))))))))))
abbrev b6:dS:=⟨.none,(.one Ty.bool),bE,cU⟩
theorem yA:ak Tryz.prog 21 (av b6):=ak.tr b6 J1 (fn:=Tryz.f21) aC nS mixed (by kernel_rfl) Hy.ok (fun x=>aB.nil) (fun x=>(by kernel_rfl)) fun x Q=>(by kernel_rfl)
def zk:List (Nat×Ev.Spec):=(21,av b6)::Js
theorem dh:ah Tryz.prog zk:=ah.add (fn:=Tryz.f21) (by kernel_rfl) yA nS
end Go.Proofs.YtlkgabjhkfhgaaaGreat
