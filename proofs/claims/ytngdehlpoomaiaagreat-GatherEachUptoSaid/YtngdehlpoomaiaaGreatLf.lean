/- Models of halton's functions. -/
import Derived.Test.YtngdehlpoomaiaaGreatWe
noncomputable section
set_option linter.unusedSectionVars false
set_option linter.unusedVariables false
set_option linter.unusedSimpArgs false
namespace Go.Proofs.YtngdehlpoomaiaaGreat
open Go Go.Ev Go.Proofs
theorem ae5:Yd Tryz.prog 143:=fun g hg b off cap w Q h0 h1 f1 hc hQ=>af4 b off g cap w Q h0 h1 f1 hg hc hQ
def fy (x:I2) (g0:Loop) (g1:Env) (s:I3):AS:=⟨[.v (.one (.Ic 6)),.v (.one (.ptr 5 0)),.v (.one (.ptr 4 0)),D,D,D,D,D,D,D,D,D,D,D,D],[.cells [ci x.1] 3,.cells [ci 0,ci 0] 159,.cells [ci s.1,ci s.2.1] 159,.gone,.cells [ci x.1] 3,.cells [ci s.2.2] 3,.loop g0 LoopState.ready Option.none,.bT g1 7]⟩
def mI (x:I2) (g0:Loop) (g1:Env) (r:I3) (K:Exit->AS->Prop):Prop:=K .normal ⟨[D,D,D,D,D,D,D,D,D,D,D,D,D,D,D],[.cells [ci x.1] 3,.cells [ci 0,ci 0] 159,.cells [ci r.1,ci r.2.1] 159,.gone,.cells [ci x.1] 3,.cells [ci r.2.2] 3,.loop g0 LoopState.ready Option.none,.bT g1 7]⟩
def cX (x:I2) (t:Unit) (s:I3):I3⊕I3:=
 (if (s.2.2>0) then
 (Sum.inl ((av ((av (s.1*x.1))+(Int.tmod s.2.2 x.1))),(av (s.2.1*x.1)),(av (Int.tdiv s.2.2 x.1)))) else
 (Sum.inr ((s.1,s.2.1,s.2.2))))
def ga (x:I2) (t:Unit) (s:I3):Prop:=
 ((s.2.2>0)->
 ((x.1≠0)/\
 (x.1≠0)))
def oA (x:I2) (g0:Loop) (g1:Env) (t:Unit):bw:=Sd (fy x g0 g1) (cX x t) (ga x t) (mI x g0 g1)
def jG (x:I2) (ys:List (Nat×Ev.Spec)):List (Nat×bw):= []
def pP (x:I2) (ys:List (Nat×Ev.Spec)):List (Nat×bw):=(0,Yt [(8,EP 6 fun g0=>NC 7 fun g1=>afH ⟨tt,bN,cf,jG x ys,ys,((163,uP tt bN cf (fun ys=> []) [] Tryz.f163):: [])⟩ (.loop (cI (blk 0 (aD Tryz.f185)))) 0 fun (q:Unit×(Nat->AV))=>oA x g0 g1 q.1)])::jG x ys
def BM (x:I2):Ctx:=⟨tt,bN,cf,[],[],((185,uP tt bN cf (pP x) ((163,uP tt bN cf (fun ys=> []) [] Tryz.f163):: []) Tryz.f185)::((163,uP tt bN cf (fun ys=> []) [] Tryz.f163):: []))⟩
theorem FH (x:I2) (g0:Loop) (g1:Env) (t:Unit) (d:Nat->AV) (s:I3) (K:Exit->AS->Prop) (KN:AS->Prop):cz ⟨tt,bN,cf,(jG x (ysE 6 ((d 0)::(d 1):: .v (.one (.ptr 0 0))::(d 3)::(d 4)::(d 5):: .v (.one (.ptr 2 0))::(d 7)::(d 8)::(d 9)::(d 10)::(d 11)::(d 12)::(d 13)::(d 14)::(d 15)::(d 16)::(d 17)::(d 18)::(d 19)::(d 20)::(d 21)::(d 22)::(d 23)::(d 24)::(d 25)::(d 26)::(d 27)::(d 28)::(d 29)::(d 30)::(d 31)::(d 32)::(d 33)::(d 34)::(d 35)::(d 36)::(d 37)::(d 38)::(d 39)::(d 40):: []) g0 g1 [27] (BM x) Tryz.f144)),(ysE 6 ((d 0)::(d 1):: .v (.one (.ptr 0 0))::(d 3)::(d 4)::(d 5):: .v (.one (.ptr 2 0))::(d 7)::(d 8)::(d 9)::(d 10)::(d 11)::(d 12)::(d 13)::(d 14)::(d 15)::(d 16)::(d 17)::(d 18)::(d 19)::(d 20)::(d 21)::(d 22)::(d 23)::(d 24)::(d 25)::(d 26)::(d 27)::(d 28)::(d 29)::(d 30)::(d 31)::(d 32)::(d 33)::(d 34)::(d 35)::(d 36)::(d 37)::(d 38)::(d 39)::(d 40):: []) g0 g1 [27] (BM x) Tryz.f144),((163,uP tt bN cf (fun ys=> []) [] Tryz.f163):: [])⟩ (cI (blk 0 (aD Tryz.f185))) (fy x g0 g1 s) (KB 0 K KN)=
 (cB (decide (s.2.2>(0:Int)))
 (ob (decide (x.1≠(0:Int)))
 ((cf=cf)/\
 ((g1=g1)/\
 ((7=7)/\
 ((g0=g0)/\
 (∀aQ:Env,
 ((aQ=aQ)/\
 ((8=8)/\
 ((g0=g0)/\
 ((g0=g0)/\
 ((aQ=aQ)/\
 ((8=8)/\
 (ob (decide (x.1≠(0:Int)))
 (KB 0 K KN .normal ⟨[.v (.one (.Ic 6)),.v (.one (.ptr 5 0)),.v (.one (.ptr 4 0)),D,vi s.2.2,vb (decide (s.2.2>(0:Int))),vi s.2.2,vi x.1,vi (av (Int.tdiv s.2.2 x.1)),.v (.one (.Ic 6)),vi s.2.2,vi x.1,vi (Int.tmod s.2.2 x.1),vb true,vb false],[.cells [ci x.1] 3,.cells [ci (0:Int),ci (0:Int)] 159,.cells [ci (av ((av (s.1*x.1))+(Int.tmod s.2.2 x.1))),ci (av (s.2.1*x.1))] 159,.gone,.cells [ci x.1] 3,.cells [ci (av (Int.tdiv s.2.2 x.1))] 3,.loop g0 LoopState.ready Option.none,.bT g1 7,.gone]⟩))))))))))))))
 (KB 0 K KN (.exit 0) ⟨[.v (.one (.Ic 6)),.v (.one (.ptr 5 0)),.v (.one (.ptr 4 0)),D,vi s.2.2,vb (decide (s.2.2>(0:Int))),D,D,D,D,D,D,D,D,D],[.cells [ci x.1] 3,.cells [ci (0:Int),ci (0:Int)] 159,.cells [ci s.1,ci s.2.1] 159,.gone,.cells [ci x.1] 3,.cells [ci s.2.2] 3,.loop g0 LoopState.ready Option.none,.bT g1 7]⟩)):=by kernel_rfl
theorem FG (x:I2) (g0:Loop) (g1:Env) (t:Unit) (d:Nat->AV):Ln ⟨tt,bN,cf,(jG x (ysE 6 ((d 0)::(d 1):: .v (.one (.ptr 0 0))::(d 3)::(d 4)::(d 5):: .v (.one (.ptr 2 0))::(d 7)::(d 8)::(d 9)::(d 10)::(d 11)::(d 12)::(d 13)::(d 14)::(d 15)::(d 16)::(d 17)::(d 18)::(d 19)::(d 20)::(d 21)::(d 22)::(d 23)::(d 24)::(d 25)::(d 26)::(d 27)::(d 28)::(d 29)::(d 30)::(d 31)::(d 32)::(d 33)::(d 34)::(d 35)::(d 36)::(d 37)::(d 38)::(d 39)::(d 40):: []) g0 g1 [27] (BM x) Tryz.f144)),(ysE 6 ((d 0)::(d 1):: .v (.one (.ptr 0 0))::(d 3)::(d 4)::(d 5):: .v (.one (.ptr 2 0))::(d 7)::(d 8)::(d 9)::(d 10)::(d 11)::(d 12)::(d 13)::(d 14)::(d 15)::(d 16)::(d 17)::(d 18)::(d 19)::(d 20)::(d 21)::(d 22)::(d 23)::(d 24)::(d 25)::(d 26)::(d 27)::(d 28)::(d 29)::(d 30)::(d 31)::(d 32)::(d 33)::(d 34)::(d 35)::(d 36)::(d 37)::(d 38)::(d 39)::(d 40):: []) g0 g1 [27] (BM x) Tryz.f144),((163,uP tt bN cf (fun ys=> []) [] Tryz.f163):: [])⟩ (.loop (cI (blk 0 (aD Tryz.f185)))) 0 (oA x g0 g1 t):=Ex.agH fun st K hk=>Se (fun s K KN hp hq=> .eq (FH x g0 g1 t d s K KN) (have hp:=Eq.mp (ga.eq_1 x t s) hp;have hq:=Eq.mp (congrArg (Ve (fy x g0 g1) (mI x g0 g1) K KN) (cX.eq_1 x t s)) hq;
 (Vy (Q:=(Ve (fy x g0 g1) (mI x g0 g1) K KN)) hq (fun c hq=>have hp:=(hp c);(O6 (decide_eq_true hp.1) (have hp:=hp.2;(And.intro rfl (And.intro rfl (And.intro rfl (And.intro rfl (fun aQ=>(And.intro rfl (And.intro rfl (And.intro rfl (And.intro rfl (And.intro rfl (And.intro rfl (O6 (decide_eq_true hp) (Exists.intro (fy x g0 g1 ((av ((av (s.1*x.1))+(Int.tmod s.2.2 x.1))),(av (s.2.1*x.1)),(av (Int.tdiv s.2.2 x.1)))) (And.intro (SE (π:= [.same 0,.same 1,.same 2,.same 3,.same 4,.same 5,.same 6,.same 7]) (And.intro rfl (And.intro rfl (And.intro rfl trivial))) (And.intro (cn rfl rfl) (And.intro (cn rfl rfl) (And.intro (cn rfl rfl) (And.intro (cn rfl rfl) (And.intro (cn rfl rfl) (And.intro (cn rfl rfl) (And.intro (cn rfl rfl) trivial))))))) rfl) hq))))))))))))))))) (fun c hq=>(Exists.intro ⟨[D,D,D,D,D,D,D,D,D,D,D,D,D,D,D],[.cells [ci x.1] 3,.cells [ci (0:Int),ci (0:Int)] 159,.cells [ci s.1,ci s.2.1] 159,.gone,.cells [ci x.1] 3,.cells [ci s.2.2] 3,.loop g0 LoopState.ready Option.none,.bT g1 7]⟩ (And.intro (SE (π:= [.same 0,.same 1,.same 2,.same 3,.same 4,.same 5,.same 6,.same 7]) trivial (And.intro (cn rfl rfl) (And.intro (cn rfl rfl) (And.intro (cn rfl rfl) (And.intro (cn rfl rfl) (And.intro (cn rfl rfl) (And.intro (cn rfl rfl) (And.intro (cn rfl rfl) trivial))))))) rfl) hq)))))) st K hk
theorem FI (x:I2): ∀ys,mU Tryz.prog ys->ay Tryz.prog cf (aD Tryz.f185) (jG x ys):=fun ys hy=>ay.nil
theorem FJ (x:I2): ∀ys,mU Tryz.prog ys->ay Tryz.prog cf (aD Tryz.f185) (pP x ys):=fun ys hy=>ay.aiX aA ⟨fS,hy,(ax.cons (bS.of (fn:=Tryz.f163) (by kernel_rfl) (by kernel_rfl) (by kernel_rfl)) (fJ.fn aA fS mixed (fn:=Tryz.f163) (by kernel_rfl) (by kernel_rfl) (ax.nil _ _) (fun ys hy=>ay.nil)) (ax.nil _ _))⟩ mixed (FI x ys hy) (by kernel_rfl) (by kernel_rfl) (Ex.cons (Ex.EP fun g0=>Ex.NC fun g1=>Ex.cert) Ex.nil)
def hinv (x:I2):(I2×Int):=
 (if (x.1<2) then
 ((0,0),1) else
 (if (x.1>16) then
 ((0,0),1) else
 (if (x.2<0) then
 ((0,0),1) else
 (if (x.2>65535) then
 ((0,0),1) else
 (aq (run (cX x ()) (0,1,x.2)) fun r_1=>
 ((r_1.1,r_1.2.1),0))))))
def me (x:I2):Prop:=
 (¬(x.1<2)->
 (¬(x.1>16)->
 (¬(x.2<0)->
 (¬(x.2>65535)->
 (Term (cX x ()) (ga x ()) (0,1,x.2))))))
theorem ad6 (x:I2) (Q:(I2×Int)->Prop):Ie ⟨tt,bN,cf,[],[],((185,uP tt bN cf (pP x) ((163,uP tt bN cf (fun ys=> []) [] Tryz.f163):: []) Tryz.f185)::((163,uP tt bN cf (fun ys=> []) [] Tryz.f163):: []))⟩ Tryz.f144 (cq (.pair (.one yi) (.one yi)) x) (c9 (.pair (.one yi) (.one yi)) x) (lE (.pair (.agg fX) (.one yi)) Q)=
 (cB (decide (x.1<(2:Int)))
 (Q (Cq,(1:Int)))
 (cB (decide (x.1>(16:Int)))
 (Q (Cq,(1:Int)))
 (cB (decide (x.2<(0:Int)))
 (Q (Cq,(1:Int)))
 (cB (decide (x.2>(65535:Int)))
 (Q (Cq,(1:Int)))
 (∀aQ:Env,
 ((aQ=aQ)/\
 ((3=3)/\
 (∀r:Loop,
 (∀aV:Env,
 (Exists fun tq:Unit×(Nat->AV)=>Ln ⟨tt,bN,cf,(jG x (ysE 6 (vi x.1::vi x.2:: .v (.one (.ptr 0 0))::bU:: .v (.one (.ptr 1 0))::vi (0:Int):: .v (.one (.ptr 2 0))::bU::vi x.1::vb (decide (x.1<(2:Int)))::vb false::vi x.1::vb (decide (x.1>(16:Int)))::vb (decide (x.1>(16:Int)))::vb false::vi x.2::vb (decide (x.2<(0:Int)))::vb (decide (x.2<(0:Int)))::vb false::vi x.2::vb (decide (x.2>(65535:Int)))::vb (decide (x.2>(65535:Int)))::bU:: .v (.agg [ci (0:Int),ci (1:Int)])::vi x.1::vi x.2:: .v (.one (.iP (Fn.func 185) [] [(Ref.loc 5 0),(Ref.loc 4 0)]))::bU::bU::bU::bU::bU::bU::bU::bU::bU::bU::bU::bU::bU::bU:: []) r aV [27] (BM x) Tryz.f144)),(ysE 6 (vi x.1::vi x.2:: .v (.one (.ptr 0 0))::bU:: .v (.one (.ptr 1 0))::vi (0:Int):: .v (.one (.ptr 2 0))::bU::vi x.1::vb (decide (x.1<(2:Int)))::vb false::vi x.1::vb (decide (x.1>(16:Int)))::vb (decide (x.1>(16:Int)))::vb false::vi x.2::vb (decide (x.2<(0:Int)))::vb (decide (x.2<(0:Int)))::vb false::vi x.2::vb (decide (x.2>(65535:Int)))::vb (decide (x.2>(65535:Int)))::bU:: .v (.agg [ci (0:Int),ci (1:Int)])::vi x.1::vi x.2:: .v (.one (.iP (Fn.func 185) [] [(Ref.loc 5 0),(Ref.loc 4 0)]))::bU::bU::bU::bU::bU::bU::bU::bU::bU::bU::bU::bU::bU::bU:: []) r aV [27] (BM x) Tryz.f144),((163,uP tt bN cf (fun ys=> []) [] Tryz.f163):: [])⟩ (.loop (cI (blk 0 (aD Tryz.f185)))) 0 (oA x r aV tq.1)/\ (Exists fun s0:I3=>rF ⟨[.v (.one (.Ic 6)),.v (.one (.ptr 5 0)),.v (.one (.ptr 4 0)),bU,bU,bU,bU,bU,bU,bU,bU,bU,bU,bU,bU],[.cells [ci x.1] 3,.cells [ci (0:Int),ci (0:Int)] 159,.cells [ci (0:Int),ci (1:Int)] 159,.gone,.cells [ci x.1] 3,.cells [ci x.2] 3,.loop r LoopState.ready Option.none,.bT aV 7]⟩ (fy x r aV s0)/\ Term (cX x tq.1) (ga x tq.1) s0/\ ∀r_1:I3,r_1=run (cX x tq.1) s0->
 ((aV=aV)/\
 ((7=7)/\
 (Q ((r_1.1,r_1.2.1),(0:Int)))))))))))))))):=by kernel_rfl
theorem ad4 (x:I2) (Q:(I2×Int)->Prop) (hp:me x) (hq:Q (hinv x)):Vc (Ie ⟨tt,bN,cf,[],[],((185,uP tt bN cf (pP x) ((163,uP tt bN cf (fun ys=> []) [] Tryz.f163):: []) Tryz.f185)::((163,uP tt bN cf (fun ys=> []) [] Tryz.f163):: []))⟩ Tryz.f144 (cq (.pair (.one yi) (.one yi)) x) (c9 (.pair (.one yi) (.one yi)) x) (lE (.pair (.agg fX) (.one yi)) Q)):= .eq (ad6 x Q) (have hp:=Eq.mp (me.eq_1 x) hp;have hq:=Eq.mp (congrArg Q (hinv.eq_1 x)) hq;
 (Vy (Q:=Q) hq (fun c hq=>hq) (fun c hq=>have hp:=(hp c);(Vy (Q:=Q) hq (fun c hq=>hq) (fun c hq=>have hp:=(hp c);(Vy (Q:=Q) hq (fun c hq=>hq) (fun c hq=>have hp:=(hp c);(Vy (Q:=Q) hq (fun c hq=>hq) (fun c hq=>have hp:=(hp c);(fun aQ=>(And.intro rfl (And.intro rfl (fun r=>(fun aV=>(Exists.intro ((),(bP (vi x.1::vi x.2:: .v (.one (.ptr 0 0))::bU:: .v (.one (.ptr 1 0))::vi (0:Int):: .v (.one (.ptr 2 0))::bU::vi x.1::vb (decide (x.1<(2:Int)))::vb false::vi x.1::vb (decide (x.1>(16:Int)))::vb (decide (x.1>(16:Int)))::vb false::vi x.2::vb (decide (x.2<(0:Int)))::vb (decide (x.2<(0:Int)))::vb false::vi x.2::vb (decide (x.2>(65535:Int)))::vb (decide (x.2>(65535:Int)))::bU:: .v (.agg [ci (0:Int),ci (1:Int)])::vi x.1::vi x.2:: .v (.one (.iP (Fn.func 185) [] [(Ref.loc 5 0),(Ref.loc 4 0)]))::bU::bU::bU::bU::bU::bU::bU::bU::bU::bU::bU::bU::bU::bU:: []))) (And.intro (FG x r aV () (bP (vi x.1::vi x.2:: .v (.one (.ptr 0 0))::bU:: .v (.one (.ptr 1 0))::vi (0:Int):: .v (.one (.ptr 2 0))::bU::vi x.1::vb (decide (x.1<(2:Int)))::vb false::vi x.1::vb (decide (x.1>(16:Int)))::vb (decide (x.1>(16:Int)))::vb false::vi x.2::vb (decide (x.2<(0:Int)))::vb (decide (x.2<(0:Int)))::vb false::vi x.2::vb (decide (x.2>(65535:Int)))::vb (decide (x.2>(65535:Int)))::bU:: .v (.agg [ci (0:Int),ci (1:Int)])::vi x.1::vi x.2:: .v (.one (.iP (Fn.func 185) [] [(Ref.loc 5 0),(Ref.loc 4 0)]))::bU::bU::bU::bU::bU::bU::bU::bU::bU::bU::bU::bU::bU::bU:: []))) (Exists.intro ((0:Int),(1:Int),x.2) (And.intro (SE (π:= [.same 0,.same 1,.same 2,.same 3,.same 4,.same 5,.same 6,.same 7]) (And.intro rfl (And.intro rfl (And.intro rfl trivial))) (And.intro (cn rfl rfl) (And.intro (cn rfl rfl) (And.intro (cn rfl rfl) (And.intro (cn rfl rfl) (And.intro (cn rfl rfl) (And.intro (cn rfl rfl) (And.intro (cn rfl rfl) trivial))))))) rfl) (And.intro hp (akd (Q:=Q) hq fun r_1 hq=>(And.intro rfl (And.intro rfl hq))))))))))))))))))))))
abbrev L9:bY:=⟨(.pair (.one yi) (.one yi)),(.pair (.agg fX) (.one yi)),me,hinv⟩
theorem ad5:ai Tryz.prog 144 (ak L9):=ai.alC (fn:=Tryz.f144) aA fS mixed (by kernel_rfl) (by kernel_rfl) (.pair (.one yi) (.one yi)) (.pair (.agg fX) (.one yi)) me hinv (by kernel_rfl) fun x hp=>⟨_,_,(ax.cons (bS.of (fn:=Tryz.f185) (by kernel_rfl) (by kernel_rfl) (by kernel_rfl)) (fJ.fn aA fS mixed (fn:=Tryz.f185) (by kernel_rfl) (by kernel_rfl) (ax.cons (bS.of (fn:=Tryz.f163) (by kernel_rfl) (by kernel_rfl) (by kernel_rfl)) (fJ.fn aA fS mixed (fn:=Tryz.f163) (by kernel_rfl) (by kernel_rfl) (ax.nil _ _) (fun ys hy=>ay.nil)) (ax.nil _ _)) (FJ x)) (ax.cons (bS.of (fn:=Tryz.f163) (by kernel_rfl) (by kernel_rfl) (by kernel_rfl)) (fJ.fn aA fS mixed (fn:=Tryz.f163) (by kernel_rfl) (by kernel_rfl) (ax.nil _ _) (fun ys hy=>ay.nil)) (ax.nil _ _))),ay.nil,ad4 x (fun y=>y=hinv x) hp rfl⟩
def UR:List (Nat×Ev.Spec):=(144,ak L9)::bN
theorem G3:ah Tryz.prog UR:=ah.add (fn:=Tryz.f144) (by kernel_rfl) ad5 fS
def FM (x:Int):(I2×Int):=
 (aq (hinv (2,x)) fun y=>
 (if ((y.2 !=0)=true) then
 ((0,0),y.2) else
 (aq (hinv (3,x)) fun aB=>
 (((av (Int.tdiv (av (65536*y.1.1)) y.1.2)),(av (Int.tdiv (av (65536*aB.1.1)) aB.1.2))),aB.2))))
def rY (x:Int):Prop:=
 ((me (2,x))/\
 aC (hinv (2,x)) fun y=>
 (¬((y.2 !=0)=true)->
 ((me (3,x))/\
 aC (hinv (3,x)) fun aB=>
 ((y.1.2≠0)/\
 (aB.1.2≠0)))))
def Z0 (x:Int):Tr (I2×Int) true:=
 (.fn L9 (2,x) fun y=>
 (.nM (y.2 !=z0)
 (.ret (Cq,y.2))
 (.fn L9 (3,x) fun aB=>
 (.od (y.1.2≠z0)
 (.od (aB.1.2≠z0)
 (.ret (((av (Int.tdiv (av (65536*y.1.1)) y.1.2)),(av (Int.tdiv (av (65536*aB.1.1)) aB.1.2))),aB.2)))))))
abbrev zA:bY:=⟨(.one yi),(.pair (.agg fX) (.one yi)),rY,FM⟩
theorem Wm:ai Tryz.prog 126 (ak zA):=ai.tr zA Z0 (fn:=Tryz.f126) aA G3 mixed (by kernel_rfl) (ax.nil _ _) (fun x=>ay.nil) (fun x=>(by kernel_rfl)) fun x Q=>(by kernel_rfl)
def KH:List (Nat×Ev.Spec):=(126,ak zA)::UR
theorem iW:ah Tryz.prog KH:=ah.add (fn:=Tryz.f126) (by kernel_rfl) Wm G3
def zw (x:Int):aK:=⟨[.env,.env,.env,.env],⟨di 41 0 [(0,.v (.one (.ptr 2 0))),(1,.v (.one (.ptr 3 0))),(2,.v (.one (.i .i64)))],[.cells [.i IntKind.u32,.i IntKind.i32,.i IntKind.u32,.full 7] 147,.bT 1,.cells [.ptr 0 0] 176,.cells [.i .i64] 3,.bT 4,.bT 5,.bT 6,.row fX 2],7,none,[4,6,7,8],[1,2,3,5],[9,0],[(.l fX),.i],[.i 0,.i 1,.i 0,.i x]⟩,[⟨(.exit 0),.normal,⟨di 41 0 [],[.cells [.i IntKind.u32,.i IntKind.i32,.i IntKind.u32,.full 7] 147,.bT 1,.cells [.ptr 0 0] 176,.cells [.i .i64] 3,.bT 4,.bT 5,.bT 6,.row fX 2],7,none,[3,5,6,7],[0,1,2,4],[8],[(.l fX)],[.i 0,.i 1,.i 0,.i x]⟩⟩]⟩
def eJ (x:Int) (s:(List I2×Int)):(List I2×Int)⊕(List I2):=
 (if (s.2<=65535) then
 (if ((s.1.length:Int)<x) then
 (aq (FM s.2) fun y=>
 (aq (zz y.1) fun aB=>
 (if (aB=true) then
 (aq (rX y.1.1) fun y_2=>
 (aq (rX y.1.2) fun bk=>
 (Sum.inl ((s.1++ [(y_2,bk)]),(av (s.2+1)))))) else
 (Sum.inl (s.1,(av (s.2+1))))))) else
 (Sum.inr (s.1))) else
 (Sum.inr (s.1)))
def iT (x:Int) (s:(List I2×Int)):Prop:=
 ((s.2<=65535)->
 (((s.1.length:Int)<x)->
 ((rY s.2)/\
 aC (FM s.2) fun y=>
 (aC (zz y.1) fun aB=>
 ((aB=true)->
 (aC (rX y.1.1) fun y_2=>
 (aC (rX y.1.2) fun bk=>
 ((s.1.length+1)<1099511627776))))))))
def uz (x:Int) (s:(List I2×Int)):Tr ((List I2×Int)⊕(List I2)) true:=
 (.i10 (s.2<=65535)
 (.i10 ((nL s.1)<x)
 (.fn zA s.2 fun y=>
 (.fn0 wB y.1 trivial fun aB=>
 (.Dw aB
 (.fn0 uG y.1.1 trivial fun y_2=>
 (.fn0 uG y.1.2 trivial fun bk=>
 (.od ((s.1.length+1)<1099511627776)
 (.ret (.inl ((s.1++ [(y_2,bk)]),(w1 s.2)))))))
 (.ret (.inl (s.1,(w1 s.2)))))))
 (.ret (.inr (s.1))))
 (.ret (.inr (s.1))))
def ZG (x:Int):Lr Tryz.prog:=⟨_,(ax.walk aA iW mixed 125 (fn:=Tryz.f125) (by kernel_rfl) (ax.nil _ _) fun ys hy=>(ay.tr aA ⟨iW,hy,(ax.nil _ _)⟩ mixed 0 (zw x) (uz x) ay.nil (by kernel_rfl) fun g s Q=>(by kernel_rfl)))⟩
def ZH (x:Int):Lr Tryz.prog:=⟨_,(ax.amR 143 125 (fn:=Tryz.f143) (fg:=Tryz.f125) (by kernel_rfl) (by kernel_rfl) ae5 (ZG x).ok)⟩
def ZI (x:Int):Lr Tryz.prog:=⟨_,(ax.walk aA iW mixed 124 (fn:=Tryz.f124) (by kernel_rfl) (ZH x).ok fun ys hy=>ay.nil)⟩
def ZJ (x:Int):Lr Tryz.prog:=⟨_,(ax.walk aA iW mixed 102 (fn:=Tryz.f102) (by kernel_rfl) (ZI x).ok fun ys hy=>ay.nil)⟩
def Ou (x:Int):(List I2×Int):=
 (if (x<0) then
 ([],1) else
 (if (x>256) then
 ([],1) else
 (aq (run (eJ x) ([],1)) fun r=>
 (r,0))))
def wv (x:Int):Prop:=
 (¬(x<0)->
 (¬(x>256)->
 (Term (eJ x) (iT x) ([],1))))
def adY (x:Int):Tr (List I2×Int) true:=
 (.FN (x<z0)
 (.ret ([],z1))
 (.FN (x>256)
 (.ret ([],z1))
 (.Bq
 (.Bq
 (.Bq
 (.Bq
 (aK.lp (zw x) (uz x) ([],z1) fun r=>
 (.pn 3 6
 (.pn 2 5
 (.pn 1 4
 (.pn 0 1
 (.ret (r,z0)))))))))))))
abbrev D0:bY:=⟨(.one yi),(.pair (.one (Ty.sl fX)) (.one yi)),wv,Ou⟩
theorem ZK:ai Tryz.prog 75 (ak D0):=ai.trX D0 adY (fn:=Tryz.f75) aA iW mixed (by kernel_rfl) (fun x=>(ZJ x).ok) (fun x=>ay.nil) (fun x=>(by kernel_rfl)) fun x Q=>(by kernel_rfl)
def mD:List (Nat×Ev.Spec):=(75,ak D0)::KH
theorem vz:ah Tryz.prog mD:=ah.add (fn:=Tryz.f75) (by kernel_rfl) ZK iW
end Go.Proofs.YtngdehlpoomaiaaGreat
