/- Models of halton's functions. -/
import Derived.Test.YtngdehlpoomaiaaGreatWe
noncomputable section
set_option linter.unusedSectionVars false
set_option linter.unusedVariables false
set_option linter.unusedSimpArgs false
namespace Go.Proofs.YtngdehlpoomaiaaGreat
open Go Go.Ev Go.Proofs
theorem adV:Xt Tryz.prog 143:=fun g hg b off cap w Q h0 h1 f1 hc hQ=>aeV b off g cap w Q h0 h1 f1 hg hc hQ
def fG (x:I2) (g0:Loop) (g1:Env) (s:I3):AS:=⟨[.v (.one (.HA 6)),.v (.one (.ptr 5 0)),.v (.one (.ptr 4 0)),D,D,D,D,D,D,D,D,D,D,D,D],[.cells [ci x.1] 3,.cells [ci 0,ci 0] 159,.cells [ci s.1,ci s.2.1] 159,.gone,.cells [ci x.1] 3,.cells [ci s.2.2] 3,.loop g0 LoopState.ready Option.none,.cw g1 7]⟩
def mK (x:I2) (g0:Loop) (g1:Env) (r:I3) (K:Exit->AS->Prop):Prop:=K .normal ⟨[D,D,D,D,D,D,D,D,D,D,D,D,D,D,D],[.cells [ci x.1] 3,.cells [ci 0,ci 0] 159,.cells [ci r.1,ci r.2.1] 159,.gone,.cells [ci x.1] 3,.cells [ci r.2.2] 3,.loop g0 LoopState.ready Option.none,.cw g1 7]⟩
def da (x:I2) (t:Unit) (s:I3):I3⊕I3:=
 (if (s.2.2>0) then
 (Sum.inl ((au ((au (s.1*x.1))+(Int.tmod s.2.2 x.1))),(au (s.2.1*x.1)),(au (Int.tdiv s.2.2 x.1)))) else
 (Sum.inr ((s.1,s.2.1,s.2.2))))
def gl (x:I2) (t:Unit) (s:I3):Prop:=
 ((s.2.2>0)->
 ((x.1≠0)/\
 (x.1≠0)))
def oo (x:I2) (g0:Loop) (g1:Env) (t:Unit):bC:=Rq (fG x g0 g1) (da x t) (gl x t) (mK x g0 g1)
def jM (x:I2) (ys:List (Nat×Ev.Spec)):List (Nat×bC):= []
def pC (x:I2) (ys:List (Nat×Ev.Spec)):List (Nat×bC):=(0,XH [(8,En 6 fun g0=>MK 7 fun g1=>aez ⟨tt,bT,cy,jM x ys,ys,((163,uw tt bT cy (fun ys=> []) [] Tryz.f163):: [])⟩ (.loop (cI (blk 0 (aG Tryz.f185)))) 0 fun (q:Unit×(Nat->AV))=>oo x g0 g1 q.1)])::jM x ys
def Bo (x:I2):Ctx:=⟨tt,bT,cy,[],[],((185,uw tt bT cy (pC x) ((163,uw tt bT cy (fun ys=> []) [] Tryz.f163):: []) Tryz.f185)::((163,uw tt bT cy (fun ys=> []) [] Tryz.f163):: []))⟩
theorem Fa (x:I2) (g0:Loop) (g1:Env) (t:Unit) (d:Nat->AV) (s:I3) (K:Exit->AS->Prop) (KN:AS->Prop):cJ ⟨tt,bT,cy,(jM x (ysE 6 ((d 0)::(d 1):: .v (.one (.ptr 0 0))::(d 3)::(d 4)::(d 5):: .v (.one (.ptr 2 0))::(d 7)::(d 8)::(d 9)::(d 10)::(d 11)::(d 12)::(d 13)::(d 14)::(d 15)::(d 16)::(d 17)::(d 18)::(d 19)::(d 20)::(d 21)::(d 22)::(d 23)::(d 24)::(d 25)::(d 26)::(d 27)::(d 28)::(d 29)::(d 30)::(d 31)::(d 32)::(d 33)::(d 34)::(d 35)::(d 36)::(d 37)::(d 38)::(d 39)::(d 40):: []) g0 g1 [27] (Bo x) Tryz.f144)),(ysE 6 ((d 0)::(d 1):: .v (.one (.ptr 0 0))::(d 3)::(d 4)::(d 5):: .v (.one (.ptr 2 0))::(d 7)::(d 8)::(d 9)::(d 10)::(d 11)::(d 12)::(d 13)::(d 14)::(d 15)::(d 16)::(d 17)::(d 18)::(d 19)::(d 20)::(d 21)::(d 22)::(d 23)::(d 24)::(d 25)::(d 26)::(d 27)::(d 28)::(d 29)::(d 30)::(d 31)::(d 32)::(d 33)::(d 34)::(d 35)::(d 36)::(d 37)::(d 38)::(d 39)::(d 40):: []) g0 g1 [27] (Bo x) Tryz.f144),((163,uw tt bT cy (fun ys=> []) [] Tryz.f163):: [])⟩ (cI (blk 0 (aG Tryz.f185))) (fG x g0 g1 s) (KB 0 K KN)=
 (cB (decide (s.2.2>(0:Int)))
 (ob (decide (x.1≠(0:Int)))
 ((cy=cy)/\
 ((g1=g1)/\
 ((7=7)/\
 ((g0=g0)/\
 (∀aX:Env,
 ((aX=aX)/\
 ((8=8)/\
 ((g0=g0)/\
 ((g0=g0)/\
 ((aX=aX)/\
 ((8=8)/\
 (ob (decide (x.1≠(0:Int)))
 (KB 0 K KN .normal ⟨[.v (.one (.HA 6)),.v (.one (.ptr 5 0)),.v (.one (.ptr 4 0)),D,vi s.2.2,vb (decide (s.2.2>(0:Int))),vi s.2.2,vi x.1,vi (au (Int.tdiv s.2.2 x.1)),.v (.one (.HA 6)),vi s.2.2,vi x.1,vi (Int.tmod s.2.2 x.1),vb true,vb false],[.cells [ci x.1] 3,.cells [ci (0:Int),ci (0:Int)] 159,.cells [ci (au ((au (s.1*x.1))+(Int.tmod s.2.2 x.1))),ci (au (s.2.1*x.1))] 159,.gone,.cells [ci x.1] 3,.cells [ci (au (Int.tdiv s.2.2 x.1))] 3,.loop g0 LoopState.ready Option.none,.cw g1 7,.gone]⟩))))))))))))))
 (KB 0 K KN (.exit 0) ⟨[.v (.one (.HA 6)),.v (.one (.ptr 5 0)),.v (.one (.ptr 4 0)),D,vi s.2.2,vb (decide (s.2.2>(0:Int))),D,D,D,D,D,D,D,D,D],[.cells [ci x.1] 3,.cells [ci (0:Int),ci (0:Int)] 159,.cells [ci s.1,ci s.2.1] 159,.gone,.cells [ci x.1] 3,.cells [ci s.2.2] 3,.loop g0 LoopState.ready Option.none,.cw g1 7]⟩)):=by kernel_rfl
theorem E9 (x:I2) (g0:Loop) (g1:Env) (t:Unit) (d:Nat->AV):KK ⟨tt,bT,cy,(jM x (ysE 6 ((d 0)::(d 1):: .v (.one (.ptr 0 0))::(d 3)::(d 4)::(d 5):: .v (.one (.ptr 2 0))::(d 7)::(d 8)::(d 9)::(d 10)::(d 11)::(d 12)::(d 13)::(d 14)::(d 15)::(d 16)::(d 17)::(d 18)::(d 19)::(d 20)::(d 21)::(d 22)::(d 23)::(d 24)::(d 25)::(d 26)::(d 27)::(d 28)::(d 29)::(d 30)::(d 31)::(d 32)::(d 33)::(d 34)::(d 35)::(d 36)::(d 37)::(d 38)::(d 39)::(d 40):: []) g0 g1 [27] (Bo x) Tryz.f144)),(ysE 6 ((d 0)::(d 1):: .v (.one (.ptr 0 0))::(d 3)::(d 4)::(d 5):: .v (.one (.ptr 2 0))::(d 7)::(d 8)::(d 9)::(d 10)::(d 11)::(d 12)::(d 13)::(d 14)::(d 15)::(d 16)::(d 17)::(d 18)::(d 19)::(d 20)::(d 21)::(d 22)::(d 23)::(d 24)::(d 25)::(d 26)::(d 27)::(d 28)::(d 29)::(d 30)::(d 31)::(d 32)::(d 33)::(d 34)::(d 35)::(d 36)::(d 37)::(d 38)::(d 39)::(d 40):: []) g0 g1 [27] (Bo x) Tryz.f144),((163,uw tt bT cy (fun ys=> []) [] Tryz.f163):: [])⟩ (.loop (cI (blk 0 (aG Tryz.f185)))) 0 (oo x g0 g1 t):=Ea.afv fun st K hk=>Rr (fun s K KN hp hq=> .eq (Fa x g0 g1 t d s K KN) (have hp:=Eq.mp (gl.eq_1 x t s) hp;have hq:=Eq.mp (congrArg (Uo (fG x g0 g1) (mK x g0 g1) K KN) (da.eq_1 x t s)) hq;
 (UK (Q:=(Uo (fG x g0 g1) (mK x g0 g1) K KN)) hq (fun c hq=>have hp:=(hp c);(Oc (decide_eq_true hp.1) (have hp:=hp.2;(And.intro rfl (And.intro rfl (And.intro rfl (And.intro rfl (fun aX=>(And.intro rfl (And.intro rfl (And.intro rfl (And.intro rfl (And.intro rfl (And.intro rfl (Oc (decide_eq_true hp) (Exists.intro (fG x g0 g1 ((au ((au (s.1*x.1))+(Int.tmod s.2.2 x.1))),(au (s.2.1*x.1)),(au (Int.tdiv s.2.2 x.1)))) (And.intro (RQ (π:= [.same 0,.same 1,.same 2,.same 3,.same 4,.same 5,.same 6,.same 7]) (And.intro rfl (And.intro rfl (And.intro rfl trivial))) (And.intro (cu rfl rfl) (And.intro (cu rfl rfl) (And.intro (cu rfl rfl) (And.intro (cu rfl rfl) (And.intro (cu rfl rfl) (And.intro (cu rfl rfl) (And.intro (cu rfl rfl) trivial))))))) rfl) hq))))))))))))))))) (fun c hq=>(Exists.intro ⟨[D,D,D,D,D,D,D,D,D,D,D,D,D,D,D],[.cells [ci x.1] 3,.cells [ci (0:Int),ci (0:Int)] 159,.cells [ci s.1,ci s.2.1] 159,.gone,.cells [ci x.1] 3,.cells [ci s.2.2] 3,.loop g0 LoopState.ready Option.none,.cw g1 7]⟩ (And.intro (RQ (π:= [.same 0,.same 1,.same 2,.same 3,.same 4,.same 5,.same 6,.same 7]) trivial (And.intro (cu rfl rfl) (And.intro (cu rfl rfl) (And.intro (cu rfl rfl) (And.intro (cu rfl rfl) (And.intro (cu rfl rfl) (And.intro (cu rfl rfl) (And.intro (cu rfl rfl) trivial))))))) rfl) hq)))))) st K hk
theorem Fb (x:I2): ∀ys,nW Tryz.prog ys->ax Tryz.prog cy (aG Tryz.f185) (jM x ys):=fun ys hy=>ax.nil
theorem Fc (x:I2): ∀ys,nW Tryz.prog ys->ax Tryz.prog cy (aG Tryz.f185) (pC x ys):=fun ys hy=>ax.ahR az ⟨fY,hy,(av.cons (cr.of (fn:=Tryz.f163) (by kernel_rfl) (by kernel_rfl) (by kernel_rfl)) (fQ.fn az fY mixed (fn:=Tryz.f163) (by kernel_rfl) (by kernel_rfl) (av.nil _ _) (fun ys hy=>ax.nil)) (av.nil _ _))⟩ mixed (Fb x ys hy) (by kernel_rfl) (by kernel_rfl) (Ea.cons (Ea.En fun g0=>Ea.MK fun g1=>Ea.cert) Ea.nil)
def hinv (x:I2):(I2×Int):=
 (if (x.1<2) then
 ((0,0),1) else
 (if (x.1>16) then
 ((0,0),1) else
 (if (x.2<0) then
 ((0,0),1) else
 (if (x.2>65535) then
 ((0,0),1) else
 (aj (run (da x ()) (0,1,x.2)) fun r_1=>
 ((r_1.1,r_1.2.1),0))))))
def l9 (x:I2):Prop:=
 (¬(x.1<2)->
 (¬(x.1>16)->
 (¬(x.2<0)->
 (¬(x.2>65535)->
 (Term (da x ()) (gl x ()) (0,1,x.2))))))
theorem acU (x:I2) (Q:(I2×Int)->Prop):HB ⟨tt,bT,cy,[],[],((185,uw tt bT cy (pC x) ((163,uw tt bT cy (fun ys=> []) [] Tryz.f163):: []) Tryz.f185)::((163,uw tt bT cy (fun ys=> []) [] Tryz.f163):: []))⟩ Tryz.f144 (cY (.pair (.one yi) (.one yi)) x) (dz (.pair (.one yi) (.one yi)) x) (qk (.pair (.agg gZ) (.one yi)) Q)=
 (cB (decide (x.1<(2:Int)))
 (Q (A2,(1:Int)))
 (cB (decide (x.1>(16:Int)))
 (Q (A2,(1:Int)))
 (cB (decide (x.2<(0:Int)))
 (Q (A2,(1:Int)))
 (cB (decide (x.2>(65535:Int)))
 (Q (A2,(1:Int)))
 (∀aX:Env,
 ((aX=aX)/\
 ((3=3)/\
 (∀r:Loop,
 (∀aZ:Env,
 (Exists fun tq:Unit×(Nat->AV)=>KK ⟨tt,bT,cy,(jM x (ysE 6 (vi x.1::vi x.2:: .v (.one (.ptr 0 0))::ck:: .v (.one (.ptr 1 0))::vi (0:Int):: .v (.one (.ptr 2 0))::ck::vi x.1::vb (decide (x.1<(2:Int)))::vb false::vi x.1::vb (decide (x.1>(16:Int)))::vb (decide (x.1>(16:Int)))::vb false::vi x.2::vb (decide (x.2<(0:Int)))::vb (decide (x.2<(0:Int)))::vb false::vi x.2::vb (decide (x.2>(65535:Int)))::vb (decide (x.2>(65535:Int)))::ck:: .v (.agg [ci (0:Int),ci (1:Int)])::vi x.1::vi x.2:: .v (.one (.iT (Fn.func 185) [] [(Ref.loc 5 0),(Ref.loc 4 0)]))::ck::ck::ck::ck::ck::ck::ck::ck::ck::ck::ck::ck::ck::ck:: []) r aZ [27] (Bo x) Tryz.f144)),(ysE 6 (vi x.1::vi x.2:: .v (.one (.ptr 0 0))::ck:: .v (.one (.ptr 1 0))::vi (0:Int):: .v (.one (.ptr 2 0))::ck::vi x.1::vb (decide (x.1<(2:Int)))::vb false::vi x.1::vb (decide (x.1>(16:Int)))::vb (decide (x.1>(16:Int)))::vb false::vi x.2::vb (decide (x.2<(0:Int)))::vb (decide (x.2<(0:Int)))::vb false::vi x.2::vb (decide (x.2>(65535:Int)))::vb (decide (x.2>(65535:Int)))::ck:: .v (.agg [ci (0:Int),ci (1:Int)])::vi x.1::vi x.2:: .v (.one (.iT (Fn.func 185) [] [(Ref.loc 5 0),(Ref.loc 4 0)]))::ck::ck::ck::ck::ck::ck::ck::ck::ck::ck::ck::ck::ck::ck:: []) r aZ [27] (Bo x) Tryz.f144),((163,uw tt bT cy (fun ys=> []) [] Tryz.f163):: [])⟩ (.loop (cI (blk 0 (aG Tryz.f185)))) 0 (oo x r aZ tq.1)/\ (Exists fun s0:I3=>rq ⟨[.v (.one (.HA 6)),.v (.one (.ptr 5 0)),.v (.one (.ptr 4 0)),ck,ck,ck,ck,ck,ck,ck,ck,ck,ck,ck,ck],[.cells [ci x.1] 3,.cells [ci (0:Int),ci (0:Int)] 159,.cells [ci (0:Int),ci (1:Int)] 159,.gone,.cells [ci x.1] 3,.cells [ci x.2] 3,.loop r LoopState.ready Option.none,.cw aZ 7]⟩ (fG x r aZ s0)/\ Term (da x tq.1) (gl x tq.1) s0/\ ∀r_1:I3,r_1=run (da x tq.1) s0->
 ((aZ=aZ)/\
 ((7=7)/\
 (Q ((r_1.1,r_1.2.1),(0:Int)))))))))))))))):=by kernel_rfl
theorem acS (x:I2) (Q:(I2×Int)->Prop) (hp:l9 x) (hq:Q (hinv x)):Vc (HB ⟨tt,bT,cy,[],[],((185,uw tt bT cy (pC x) ((163,uw tt bT cy (fun ys=> []) [] Tryz.f163):: []) Tryz.f185)::((163,uw tt bT cy (fun ys=> []) [] Tryz.f163):: []))⟩ Tryz.f144 (cY (.pair (.one yi) (.one yi)) x) (dz (.pair (.one yi) (.one yi)) x) (qk (.pair (.agg gZ) (.one yi)) Q)):= .eq (acU x Q) (have hp:=Eq.mp (l9.eq_1 x) hp;have hq:=Eq.mp (congrArg Q (hinv.eq_1 x)) hq;
 (UK (Q:=Q) hq (fun c hq=>hq) (fun c hq=>have hp:=(hp c);(UK (Q:=Q) hq (fun c hq=>hq) (fun c hq=>have hp:=(hp c);(UK (Q:=Q) hq (fun c hq=>hq) (fun c hq=>have hp:=(hp c);(UK (Q:=Q) hq (fun c hq=>hq) (fun c hq=>have hp:=(hp c);(fun aX=>(And.intro rfl (And.intro rfl (fun r=>(fun aZ=>(Exists.intro ((),(cz (vi x.1::vi x.2:: .v (.one (.ptr 0 0))::ck:: .v (.one (.ptr 1 0))::vi (0:Int):: .v (.one (.ptr 2 0))::ck::vi x.1::vb (decide (x.1<(2:Int)))::vb false::vi x.1::vb (decide (x.1>(16:Int)))::vb (decide (x.1>(16:Int)))::vb false::vi x.2::vb (decide (x.2<(0:Int)))::vb (decide (x.2<(0:Int)))::vb false::vi x.2::vb (decide (x.2>(65535:Int)))::vb (decide (x.2>(65535:Int)))::ck:: .v (.agg [ci (0:Int),ci (1:Int)])::vi x.1::vi x.2:: .v (.one (.iT (Fn.func 185) [] [(Ref.loc 5 0),(Ref.loc 4 0)]))::ck::ck::ck::ck::ck::ck::ck::ck::ck::ck::ck::ck::ck::ck:: []))) (And.intro (E9 x r aZ () (cz (vi x.1::vi x.2:: .v (.one (.ptr 0 0))::ck:: .v (.one (.ptr 1 0))::vi (0:Int):: .v (.one (.ptr 2 0))::ck::vi x.1::vb (decide (x.1<(2:Int)))::vb false::vi x.1::vb (decide (x.1>(16:Int)))::vb (decide (x.1>(16:Int)))::vb false::vi x.2::vb (decide (x.2<(0:Int)))::vb (decide (x.2<(0:Int)))::vb false::vi x.2::vb (decide (x.2>(65535:Int)))::vb (decide (x.2>(65535:Int)))::ck:: .v (.agg [ci (0:Int),ci (1:Int)])::vi x.1::vi x.2:: .v (.one (.iT (Fn.func 185) [] [(Ref.loc 5 0),(Ref.loc 4 0)]))::ck::ck::ck::ck::ck::ck::ck::ck::ck::ck::ck::ck::ck::ck:: []))) (Exists.intro ((0:Int),(1:Int),x.2) (And.intro (RQ (π:= [.same 0,.same 1,.same 2,.same 3,.same 4,.same 5,.same 6,.same 7]) (And.intro rfl (And.intro rfl (And.intro rfl trivial))) (And.intro (cu rfl rfl) (And.intro (cu rfl rfl) (And.intro (cu rfl rfl) (And.intro (cu rfl rfl) (And.intro (cu rfl rfl) (And.intro (cu rfl rfl) (And.intro (cu rfl rfl) trivial))))))) rfl) (And.intro hp (ai2 (Q:=Q) hq fun r_1 hq=>(And.intro rfl (And.intro rfl hq))))))))))))))))))))))
abbrev Ls:cf:=⟨(.pair (.one yi) (.one yi)),(.pair (.agg gZ) (.one yi)),l9,hinv⟩
theorem acT:ah Tryz.prog 144 (ak Ls):=ah.akp (fn:=Tryz.f144) az fY mixed (by kernel_rfl) (by kernel_rfl) (.pair (.one yi) (.one yi)) (.pair (.agg gZ) (.one yi)) l9 hinv (by kernel_rfl) fun x hp=>⟨_,_,(av.cons (cr.of (fn:=Tryz.f185) (by kernel_rfl) (by kernel_rfl) (by kernel_rfl)) (fQ.fn az fY mixed (fn:=Tryz.f185) (by kernel_rfl) (by kernel_rfl) (av.cons (cr.of (fn:=Tryz.f163) (by kernel_rfl) (by kernel_rfl) (by kernel_rfl)) (fQ.fn az fY mixed (fn:=Tryz.f163) (by kernel_rfl) (by kernel_rfl) (av.nil _ _) (fun ys hy=>ax.nil)) (av.nil _ _)) (Fc x)) (av.cons (cr.of (fn:=Tryz.f163) (by kernel_rfl) (by kernel_rfl) (by kernel_rfl)) (fQ.fn az fY mixed (fn:=Tryz.f163) (by kernel_rfl) (by kernel_rfl) (av.nil _ _) (fun ys hy=>ax.nil)) (av.nil _ _))),ax.nil,acS x (fun y=>y=hinv x) hp rfl⟩
def T5:List (Nat×Ev.Spec):=(144,ak Ls)::bT
theorem Gq:af Tryz.prog T5:=af.add (fn:=Tryz.f144) (by kernel_rfl) acT fY
def Fh (x:Int):(I2×Int):=
 (aj (hinv (2,x)) fun y=>
 (if ((y.2 !=0)=true) then
 ((0,0),y.2) else
 (aj (hinv (3,x)) fun aA=>
 (((au (Int.tdiv (au (65536*y.1.1)) y.1.2)),(au (Int.tdiv (au (65536*aA.1.1)) aA.1.2))),aA.2))))
def rR (x:Int):Prop:=
 ((l9 (2,x))/\
 aB (hinv (2,x)) fun y=>
 (¬((y.2 !=0)=true)->
 ((l9 (3,x))/\
 aB (hinv (3,x)) fun aA=>
 ((y.1.2≠0)/\
 (aA.1.2≠0)))))
def Ze (x:Int):Tr (I2×Int) true:=
 (.fn Ls (2,x) fun y=>
 (.kO (y.2 !=z0)
 (.ret (A2,y.2))
 (.fn Ls (3,x) fun aA=>
 (.od (y.1.2≠z0)
 (.od (aA.1.2≠z0)
 (.ret (((au (Int.tdiv (au (65536*y.1.1)) y.1.2)),(au (Int.tdiv (au (65536*aA.1.1)) aA.1.2))),aA.2)))))))
abbrev zh:cf:=⟨(.one yi),(.pair (.agg gZ) (.one yi)),rR,Fh⟩
theorem Vz:ah Tryz.prog 126 (ak zh):=ah.tr zh Ze (fn:=Tryz.f126) az Gq mixed (by kernel_rfl) (av.nil _ _) (fun x=>ax.nil) (fun x=>(by kernel_rfl)) fun x Q=>(by kernel_rfl)
def J2:List (Nat×Ev.Spec):=(126,ak zh)::T5
theorem iZ:af Tryz.prog J2:=af.add (fn:=Tryz.f126) (by kernel_rfl) Vz Gq
def za (x:Int):aL:=⟨[.env,.env,.env,.env],⟨dL 41 0 [(0,.v (.one (.ptr 2 0))),(1,.v (.one (.ptr 3 0))),(2,.v (.one (.i .i64)))],[.cells [.i IntKind.u32,.i IntKind.i32,.i IntKind.u32,.full 7] 147,.cw 1,.cells [.ptr 0 0] 176,.cells [.i .i64] 3,.cw 4,.cw 5,.cw 6,.row gZ 2],7,none,[4,6,7,8],[1,2,3,5],[9,0],[(.l gZ),.i],[.i 0,.i 1,.i 0,.i x]⟩,[⟨(.exit 0),.normal,⟨dL 41 0 [],[.cells [.i IntKind.u32,.i IntKind.i32,.i IntKind.u32,.full 7] 147,.cw 1,.cells [.ptr 0 0] 176,.cells [.i .i64] 3,.cw 4,.cw 5,.cw 6,.row gZ 2],7,none,[3,5,6,7],[0,1,2,4],[8],[(.l gZ)],[.i 0,.i 1,.i 0,.i x]⟩⟩]⟩
def eU (x:Int) (s:(List I2×Int)):(List I2×Int)⊕(List I2):=
 (if (s.2<=65535) then
 (if ((s.1.length:Int)<x) then
 (aj (Fh s.2) fun y=>
 (aj (zg y.1) fun aA=>
 (if (aA=true) then
 (aj (rQ y.1.1) fun y_2=>
 (aj (rQ y.1.2) fun bg=>
 (Sum.inl ((s.1++ [(y_2,bg)]),(au (s.2+1)))))) else
 (Sum.inl (s.1,(au (s.2+1))))))) else
 (Sum.inr (s.1))) else
 (Sum.inr (s.1)))
def iX (x:Int) (s:(List I2×Int)):Prop:=
 ((s.2<=65535)->
 (((s.1.length:Int)<x)->
 ((rR s.2)/\
 aB (Fh s.2) fun y=>
 (aB (zg y.1) fun aA=>
 ((aA=true)->
 (aB (rQ y.1.1) fun y_2=>
 (aB (rQ y.1.2) fun bg=>
 ((s.1.length+1)<1099511627776))))))))
def tY (x:Int) (s:(List I2×Int)):Tr ((List I2×Int)⊕(List I2)) true:=
 (.i10 (s.2<=65535)
 (.i10 ((nL s.1)<x)
 (.fn zh s.2 fun y=>
 (.fn0 vX y.1 trivial fun aA=>
 (.Db aA
 (.fn0 uh y.1.1 trivial fun y_2=>
 (.fn0 uh y.1.2 trivial fun bg=>
 (.od ((s.1.length+1)<1099511627776)
 (.ret (.inl ((s.1++ [(y_2,bg)]),(w1 s.2)))))))
 (.ret (.inl (s.1,(w1 s.2)))))))
 (.ret (.inr (s.1))))
 (.ret (.inr (s.1))))
def YW (x:Int):HF Tryz.prog:=⟨_,(av.walk az iZ mixed 125 (fn:=Tryz.f125) (by kernel_rfl) (av.nil _ _) fun ys hy=>(ax.tr az ⟨iZ,hy,(av.nil _ _)⟩ mixed 0 (za x) (tY x) ax.nil (by kernel_rfl) fun g s Q=>(by kernel_rfl)))⟩
def YX (x:Int):HF Tryz.prog:=⟨_,(av.alK 143 125 (fn:=Tryz.f143) (fg:=Tryz.f125) (by kernel_rfl) (by kernel_rfl) adV (YW x).ok)⟩
def YY (x:Int):HF Tryz.prog:=⟨_,(av.walk az iZ mixed 124 (fn:=Tryz.f124) (by kernel_rfl) (YX x).ok fun ys hy=>ax.nil)⟩
def YZ (x:Int):HF Tryz.prog:=⟨_,(av.walk az iZ mixed 102 (fn:=Tryz.f102) (by kernel_rfl) (YY x).ok fun ys hy=>ax.nil)⟩
def Nv (x:Int):(List I2×Int):=
 (if (x<0) then
 ([],1) else
 (if (x>256) then
 ([],1) else
 (aj (run (eU x) ([],1)) fun r=>
 (r,0))))
def vV (x:Int):Prop:=
 (¬(x<0)->
 (¬(x>256)->
 (Term (eU x) (iX x) ([],1))))
def acO (x:Int):Tr (List I2×Int) true:=
 (.HX (x<z0)
 (.ret ([],z1))
 (.HX (x>256)
 (.ret ([],z1))
 (.qz
 (.qz
 (.qz
 (.qz
 (aL.lp (za x) (tY x) ([],z1) fun r=>
 (.pn 3 6
 (.pn 2 5
 (.pn 1 4
 (.pn 0 1
 (.ret (r,z0)))))))))))))
abbrev DB:cf:=⟨(.one yi),(.pair (.one (Ty.sl gZ)) (.one yi)),vV,Nv⟩
theorem Y0:ah Tryz.prog 75 (ak DB):=ah.trX DB acO (fn:=Tryz.f75) az iZ mixed (by kernel_rfl) (fun x=>(YZ x).ok) (fun x=>ax.nil) (fun x=>(by kernel_rfl)) fun x Q=>(by kernel_rfl)
def mD:List (Nat×Ev.Spec):=(75,ak DB)::J2
theorem u9:af Tryz.prog mD:=af.add (fn:=Tryz.f75) (by kernel_rfl) Y0 iZ
end Go.Proofs.YtngdehlpoomaiaaGreat
