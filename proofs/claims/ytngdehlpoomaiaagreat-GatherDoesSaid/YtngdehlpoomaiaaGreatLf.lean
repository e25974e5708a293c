/- Models of halton's functions. -/
import Derived.Test.YtngdehlpoomaiaaGreatWe
noncomputable section
set_option linter.unusedSectionVars false
set_option linter.unusedVariables false
set_option linter.unusedSimpArgs false
namespace Go.Proofs.YtngdehlpoomaiaaGreat
open Go Go.Ev Go.Proofs
theorem anw:agC Tryz.prog 143:=fun g hg b off cap w Q h0 h1 f1 hc hQ=>aox b off g cap w Q h0 h1 f1 hg hc hQ
def gh (x:I2) (g0:Loop) (g1:Env) (s:I3):AS:=⟨[.v (.one (.N8 6)),.v (.one (.ptr 5 0)),.v (.one (.ptr 4 0)),D,D,D,D,D,D,D,D,D,D,D,D],[.cells [ci x.1] 3,.cells [ci 0,ci 0] 159,.cells [ci s.1,ci s.2.1] 159,.gone,.cells [ci x.1] 3,.cells [ci s.2.2] 3,.loop g0 LoopState.ready Option.none,.cg g1 7]⟩
def oK (x:I2) (g0:Loop) (g1:Env) (r:I3) (K:Exit->AS->Prop):Prop:=K .normal ⟨[D,D,D,D,D,D,D,D,D,D,D,D,D,D,D],[.cells [ci x.1] 3,.cells [ci 0,ci 0] 159,.cells [ci r.1,ci r.2.1] 159,.gone,.cells [ci x.1] 3,.cells [ci r.2.2] 3,.loop g0 LoopState.ready Option.none,.cg g1 7]⟩
def dw (x:I2) (t:Unit) (s:I3):I3⊕I3:=
 (if (s.2.2>0) then
 (Sum.inl ((au ((au (s.1*x.1))+(Int.tmod s.2.2 x.1))),(au (s.2.1*x.1)),(au (Int.tdiv s.2.2 x.1)))) else
 (Sum.inr ((s.1,s.2.1,s.2.2))))
def iy (x:I2) (t:Unit) (s:I3):Prop:=
 ((s.2.2>0)->
 ((x.1≠0)/\
 (x.1≠0)))
def qC (x:I2) (g0:Loop) (g1:Env) (t:Unit):br:=ZR (gh x g0 g1) (dw x t) (iy x t) (oK x g0 g1)
def k9 (x:I2) (ys:List (Nat×Ev.Spec)):List (Nat×br):= []
def rR (x:I2) (ys:List (Nat×Ev.Spec)):List (Nat×br):=(0,agT [(8,KF 6 fun g0=>UY 7 fun g1=>an8 ⟨tt,bU,cf,k9 x ys,ys,((163,x5 tt bU cf (fun ys=> []) [] Tryz.f163):: [])⟩ (.loop (cI (blk 0 (aC Tryz.f185)))) 0 fun (q:Unit×(Nat->AV))=>qC x g0 g1 q.1)])::k9 x ys
def Gg (x:I2):Ctx:=⟨tt,bU,cf,[],[],((185,x5 tt bU cf (rR x) ((163,x5 tt bU cf (fun ys=> []) [] Tryz.f163):: []) Tryz.f185)::((163,x5 tt bU cf (fun ys=> []) [] Tryz.f163):: []))⟩
theorem Ls (x:I2) (g0:Loop) (g1:Env) (t:Unit) (d:Nat->AV) (s:I3) (K:Exit->AS->Prop) (KN:AS->Prop):cJ ⟨tt,bU,cf,(k9 x (ysE 6 ((d 0)::(d 1):: .v (.one (.ptr 0 0))::(d 3)::(d 4)::(d 5):: .v (.one (.ptr 2 0))::(d 7)::(d 8)::(d 9)::(d 10)::(d 11)::(d 12)::(d 13)::(d 14)::(d 15)::(d 16)::(d 17)::(d 18)::(d 19)::(d 20)::(d 21)::(d 22)::(d 23)::(d 24)::(d 25)::(d 26)::(d 27)::(d 28)::(d 29)::(d 30)::(d 31)::(d 32)::(d 33)::(d 34)::(d 35)::(d 36)::(d 37)::(d 38)::(d 39)::(d 40):: []) g0 g1 [27] (Gg x) Tryz.f144)),(ysE 6 ((d 0)::(d 1):: .v (.one (.ptr 0 0))::(d 3)::(d 4)::(d 5):: .v (.one (.ptr 2 0))::(d 7)::(d 8)::(d 9)::(d 10)::(d 11)::(d 12)::(d 13)::(d 14)::(d 15)::(d 16)::(d 17)::(d 18)::(d 19)::(d 20)::(d 21)::(d 22)::(d 23)::(d 24)::(d 25)::(d 26)::(d 27)::(d 28)::(d 29)::(d 30)::(d 31)::(d 32)::(d 33)::(d 34)::(d 35)::(d 36)::(d 37)::(d 38)::(d 39)::(d 40):: []) g0 g1 [27] (Gg x) Tryz.f144),((163,x5 tt bU cf (fun ys=> []) [] Tryz.f163):: [])⟩ (cI (blk 0 (aC Tryz.f185))) (gh x g0 g1 s) (KB 0 K KN)=
 (cB (decide (s.2.2>(0:Int)))
 (ob (decide (x.1≠(0:Int)))
 ((cf=cf)/\
 ((g1=g1)/\
 ((7=7)/\
 ((g0=g0)/\
 (∀aR:Env,
 ((aR=aR)/\
 ((8=8)/\
 ((g0=g0)/\
 ((g0=g0)/\
 ((aR=aR)/\
 ((8=8)/\
 (ob (decide (x.1≠(0:Int)))
 (KB 0 K KN .normal ⟨[.v (.one (.N8 6)),.v (.one (.ptr 5 0)),.v (.one (.ptr 4 0)),D,vi s.2.2,vb (decide (s.2.2>(0:Int))),vi s.2.2,vi x.1,vi (au (Int.tdiv s.2.2 x.1)),.v (.one (.N8 6)),vi s.2.2,vi x.1,vi (Int.tmod s.2.2 x.1),vb true,vb false],[.cells [ci x.1] 3,.cells [ci (0:Int),ci (0:Int)] 159,.cells [ci (au ((au (s.1*x.1))+(Int.tmod s.2.2 x.1))),ci (au (s.2.1*x.1))] 159,.gone,.cells [ci x.1] 3,.cells [ci (au (Int.tdiv s.2.2 x.1))] 3,.loop g0 LoopState.ready Option.none,.cg g1 7,.gone]⟩))))))))))))))
 (KB 0 K KN (.exit 0) ⟨[.v (.one (.N8 6)),.v (.one (.ptr 5 0)),.v (.one (.ptr 4 0)),D,vi s.2.2,vb (decide (s.2.2>(0:Int))),D,D,D,D,D,D,D,D,D],[.cells [ci x.1] 3,.cells [ci (0:Int),ci (0:Int)] 159,.cells [ci s.1,ci s.2.1] 159,.gone,.cells [ci x.1] 3,.cells [ci s.2.2] 3,.loop g0 LoopState.ready Option.none,.cg g1 7]⟩)):=by kernel_rfl
theorem Lr (x:I2) (g0:Loop) (g1:Env) (t:Unit) (d:Nat->AV):RW ⟨tt,bU,cf,(k9 x (ysE 6 ((d 0)::(d 1):: .v (.one (.ptr 0 0))::(d 3)::(d 4)::(d 5):: .v (.one (.ptr 2 0))::(d 7)::(d 8)::(d 9)::(d 10)::(d 11)::(d 12)::(d 13)::(d 14)::(d 15)::(d 16)::(d 17)::(d 18)::(d 19)::(d 20)::(d 21)::(d 22)::(d 23)::(d 24)::(d 25)::(d 26)::(d 27)::(d 28)::(d 29)::(d 30)::(d 31)::(d 32)::(d 33)::(d 34)::(d 35)::(d 36)::(d 37)::(d 38)::(d 39)::(d 40):: []) g0 g1 [27] (Gg x) Tryz.f144)),(ysE 6 ((d 0)::(d 1):: .v (.one (.ptr 0 0))::(d 3)::(d 4)::(d 5):: .v (.one (.ptr 2 0))::(d 7)::(d 8)::(d 9)::(d 10)::(d 11)::(d 12)::(d 13)::(d 14)::(d 15)::(d 16)::(d 17)::(d 18)::(d 19)::(d 20)::(d 21)::(d 22)::(d 23)::(d 24)::(d 25)::(d 26)::(d 27)::(d 28)::(d 29)::(d 30)::(d 31)::(d 32)::(d 33)::(d 34)::(d 35)::(d 36)::(d 37)::(d 38)::(d 39)::(d 40):: []) g0 g1 [27] (Gg x) Tryz.f144),((163,x5 tt bU cf (fun ys=> []) [] Tryz.f163):: [])⟩ (.loop (cI (blk 0 (aC Tryz.f185)))) 0 (qC x g0 g1 t):=Kk.ao4 fun st K hk=>ZS (fun s K KN hp hq=> .eq (Ls x g0 g1 t d s K KN) (have hp:=Eq.mp (iy.eq_1 x t s) hp;have hq:=Eq.mp (congrArg (adr (gh x g0 g1) (oK x g0 g1) K KN) (dw.eq_1 x t s)) hq;
 (adL (Q:=(adr (gh x g0 g1) (oK x g0 g1) K KN)) hq (fun c hq=>have hp:=(hp c);(Wj (decide_eq_true hp.1) (have hp:=hp.2;(And.intro rfl (And.intro rfl (And.intro rfl (And.intro rfl (fun aR=>(And.intro rfl (And.intro rfl (And.intro rfl (And.intro rfl (And.intro rfl (And.intro rfl (Wj (decide_eq_true hp) (Exists.intro (gh x g0 g1 ((au ((au (s.1*x.1))+(Int.tmod s.2.2 x.1))),(au (s.2.1*x.1)),(au (Int.tdiv s.2.2 x.1)))) (And.intro (aaS (π:= [.same 0,.same 1,.same 2,.same 3,.same 4,.same 5,.same 6,.same 7]) (And.intro rfl (And.intro rfl (And.intro rfl trivial))) (And.intro (cD rfl rfl) (And.intro (cD rfl rfl) (And.intro (cD rfl rfl) (And.intro (cD rfl rfl) (And.intro (cD rfl rfl) (And.intro (cD rfl rfl) (And.intro (cD rfl rfl) trivial))))))) rfl) hq))))))))))))))))) (fun c hq=>(Exists.intro ⟨[D,D,D,D,D,D,D,D,D,D,D,D,D,D,D],[.cells [ci x.1] 3,.cells [ci (0:Int),ci (0:Int)] 159,.cells [ci s.1,ci s.2.1] 159,.gone,.cells [ci x.1] 3,.cells [ci s.2.2] 3,.loop g0 LoopState.ready Option.none,.cg g1 7]⟩ (And.intro (aaS (π:= [.same 0,.same 1,.same 2,.same 3,.same 4,.same 5,.same 6,.same 7]) trivial (And.intro (cD rfl rfl) (And.intro (cD rfl rfl) (And.intro (cD rfl rfl) (And.intro (cD rfl rfl) (And.intro (cD rfl rfl) (And.intro (cD rfl rfl) (And.intro (cD rfl rfl) trivial))))))) rfl) hq)))))) st K hk
theorem Lu (x:I2): ∀ys,o9 Tryz.prog ys->aK Tryz.prog cf (aC Tryz.f185) (k9 x ys):=fun ys hy=>aK.nil
theorem Lv (x:I2): ∀ys,o9 Tryz.prog ys->aK Tryz.prog cf (aC Tryz.f185) (rR x ys):=fun ys hy=>aK.aru bt ⟨hY,hy,(aH.cons (b9.of (fn:=Tryz.f163) (by kernel_rfl) (by kernel_rfl) (by kernel_rfl)) (gM.fn bt hY mixed (fn:=Tryz.f163) (by kernel_rfl) (by kernel_rfl) (aH.nil _ _) (fun ys hy=>aK.nil)) (aH.nil _ _))⟩ mixed (Lu x ys hy) (by kernel_rfl) (by kernel_rfl) (Kk.cons (Kk.KF fun g0=>Kk.UY fun g1=>Kk.cert) Kk.nil)
def hinv (x:I2):(I2×Int):=
 (if (x.1<2) then
 ((0,0),1) else
 (if (x.1>16) then
 ((0,0),1) else
 (if (x.2<0) then
 ((0,0),1) else
 (if (x.2>65535) then
 ((0,0),1) else
 (ak (run (dw x ()) (0,1,x.2)) fun r_1=>
 ((r_1.1,r_1.2.1),0))))))
def tX (x:I2):Prop:=
 (¬(x.1<2)->
 (¬(x.1>16)->
 (¬(x.2<0)->
 (¬(x.2>65535)->
 (Term (dw x ()) (iy x ()) (0,1,x.2))))))
theorem amt (x:I2) (Q:(I2×Int)->Prop):JD ⟨tt,bU,cf,[],[],((185,x5 tt bU cf (rR x) ((163,x5 tt bU cf (fun ys=> []) [] Tryz.f163):: []) Tryz.f185)::((163,x5 tt bU cf (fun ys=> []) [] Tryz.f163):: []))⟩ Tryz.f144 (cy (.pair (.one yi) (.one yi)) x) (da (.pair (.one yi) (.one yi)) x) (l9 (.pair (.agg dh) (.one yi)) Q)=
 (cB (decide (x.1<(2:Int)))
 (Q (uQ,(1:Int)))
 (cB (decide (x.1>(16:Int)))
 (Q (uQ,(1:Int)))
 (cB (decide (x.2<(0:Int)))
 (Q (uQ,(1:Int)))
 (cB (decide (x.2>(65535:Int)))
 (Q (uQ,(1:Int)))
 (∀aR:Env,
 ((aR=aR)/\
 ((3=3)/\
 (∀r:Loop,
 (∀aW:Env,
 (Exists fun tq:Unit×(Nat->AV)=>RW ⟨tt,bU,cf,(k9 x (ysE 6 (vi x.1::vi x.2:: .v (.one (.ptr 0 0))::ck:: .v (.one (.ptr 1 0))::vi (0:Int):: .v (.one (.ptr 2 0))::ck::vi x.1::vb (decide (x.1<(2:Int)))::vb false::vi x.1::vb (decide (x.1>(16:Int)))::vb (decide (x.1>(16:Int)))::vb false::vi x.2::vb (decide (x.2<(0:Int)))::vb (decide (x.2<(0:Int)))::vb false::vi x.2::vb (decide (x.2>(65535:Int)))::vb (decide (x.2>(65535:Int)))::ck:: .v (.agg [ci (0:Int),ci (1:Int)])::vi x.1::vi x.2:: .v (.one (.jO (Fn.func 185) [] [(Ref.loc 5 0),(Ref.loc 4 0)]))::ck::ck::ck::ck::ck::ck::ck::ck::ck::ck::ck::ck::ck::ck:: []) r aW [27] (Gg x) Tryz.f144)),(ysE 6 (vi x.1::vi x.2:: .v (.one (.ptr 0 0))::ck:: .v (.one (.ptr 1 0))::vi (0:Int):: .v (.one (.ptr 2 0))::ck::vi x.1::vb (decide (x.1<(2:Int)))::vb false::vi x.1::vb (decide (x.1>(16:Int)))::vb (decide (x.1>(16:Int)))::vb false::vi x.2::vb (decide (x.2<(0:Int)))::vb (decide (x.2<(0:Int)))::vb false::vi x.2::vb (decide (x.2>(65535:Int)))::vb (decide (x.2>(65535:Int)))::ck:: .v (.agg [ci (0:Int),ci (1:Int)])::vi x.1::vi x.2:: .v (.one (.jO (Fn.func 185) [] [(Ref.loc 5 0),(Ref.loc 4 0)]))::ck::ck::ck::ck::ck::ck::ck::ck::ck::ck::ck::ck::ck::ck:: []) r aW [27] (Gg x) Tryz.f144),((163,x5 tt bU cf (fun ys=> []) [] Tryz.f163):: [])⟩ (.loop (cI (blk 0 (aC Tryz.f185)))) 0 (qC x r aW tq.1)/\ (Exists fun s0:I3=>uS ⟨[.v (.one (.N8 6)),.v (.one (.ptr 5 0)),.v (.one (.ptr 4 0)),ck,ck,ck,ck,ck,ck,ck,ck,ck,ck,ck,ck],[.cells [ci x.1] 3,.cells [ci (0:Int),ci (0:Int)] 159,.cells [ci (0:Int),ci (1:Int)] 159,.gone,.cells [ci x.1] 3,.cells [ci x.2] 3,.loop r LoopState.ready Option.none,.cg aW 7]⟩ (gh x r aW s0)/\ Term (dw x tq.1) (iy x tq.1) s0/\ ∀r_1:I3,r_1=run (dw x tq.1) s0->
 ((aW=aW)/\
 ((7=7)/\
 (Q ((r_1.1,r_1.2.1),(0:Int)))))))))))))))):=by kernel_rfl
theorem amr (x:I2) (Q:(I2×Int)->Prop) (hp:tX x) (hq:Q (hinv x)):Vc (JD ⟨tt,bU,cf,[],[],((185,x5 tt bU cf (rR x) ((163,x5 tt bU cf (fun ys=> []) [] Tryz.f163):: []) Tryz.f185)::((163,x5 tt bU cf (fun ys=> []) [] Tryz.f163):: []))⟩ Tryz.f144 (cy (.pair (.one yi) (.one yi)) x) (da (.pair (.one yi) (.one yi)) x) (l9 (.pair (.agg dh) (.one yi)) Q)):= .eq (amt x Q) (have hp:=Eq.mp (tX.eq_1 x) hp;have hq:=Eq.mp (congrArg Q (hinv.eq_1 x)) hq;
 (adL (Q:=Q) hq (fun c hq=>hq) (fun c hq=>have hp:=(hp c);(adL (Q:=Q) hq (fun c hq=>hq) (fun c hq=>have hp:=(hp c);(adL (Q:=Q) hq (fun c hq=>hq) (fun c hq=>have hp:=(hp c);(adL (Q:=Q) hq (fun c hq=>hq) (fun c hq=>have hp:=(hp c);(fun aR=>(And.intro rfl (And.intro rfl (fun r=>(fun aW=>(Exists.intro ((),(bY (vi x.1::vi x.2:: .v (.one (.ptr 0 0))::ck:: .v (.one (.ptr 1 0))::vi (0:Int):: .v (.one (.ptr 2 0))::ck::vi x.1::vb (decide (x.1<(2:Int)))::vb false::vi x.1::vb (decide (x.1>(16:Int)))::vb (decide (x.1>(16:Int)))::vb false::vi x.2::vb (decide (x.2<(0:Int)))::vb (decide (x.2<(0:Int)))::vb false::vi x.2::vb (decide (x.2>(65535:Int)))::vb (decide (x.2>(65535:Int)))::ck:: .v (.agg [ci (0:Int),ci (1:Int)])::vi x.1::vi x.2:: .v (.one (.jO (Fn.func 185) [] [(Ref.loc 5 0),(Ref.loc 4 0)]))::ck::ck::ck::ck::ck::ck::ck::ck::ck::ck::ck::ck::ck::ck:: []))) (And.intro (Lr x r aW () (bY (vi x.1::vi x.2:: .v (.one (.ptr 0 0))::ck:: .v (.one (.ptr 1 0))::vi (0:Int):: .v (.one (.ptr 2 0))::ck::vi x.1::vb (decide (x.1<(2:Int)))::vb false::vi x.1::vb (decide (x.1>(16:Int)))::vb (decide (x.1>(16:Int)))::vb false::vi x.2::vb (decide (x.2<(0:Int)))::vb (decide (x.2<(0:Int)))::vb false::vi x.2::vb (decide (x.2>(65535:Int)))::vb (decide (x.2>(65535:Int)))::ck:: .v (.agg [ci (0:Int),ci (1:Int)])::vi x.1::vi x.2:: .v (.one (.jO (Fn.func 185) [] [(Ref.loc 5 0),(Ref.loc 4 0)]))::ck::ck::ck::ck::ck::ck::ck::ck::ck::ck::ck::ck::ck::ck:: []))) (Exists.intro ((0:Int),(1:Int),x.2) (And.intro (aaS (π:= [.same 0,.same 1,.same 2,.same 3,.same 4,.same 5,.same 6,.same 7]) (And.intro rfl (And.intro rfl (And.intro rfl trivial))) (And.intro (cD rfl rfl) (And.intro (cD rfl rfl) (And.intro (cD rfl rfl) (And.intro (cD rfl rfl) (And.intro (cD rfl rfl) (And.intro (cD rfl rfl) (And.intro (cD rfl rfl) trivial))))))) rfl) (And.intro hp (asI (Q:=Q) hq fun r_1 hq=>(And.intro rfl (And.intro rfl hq))))))))))))))))))))))
abbrev SN:bF:=⟨(.pair (.one yi) (.one yi)),(.pair (.agg dh) (.one yi)),tX,hinv⟩
theorem ams:aq Tryz.prog 144 (ah SN):=aq.aub (fn:=Tryz.f144) bt hY mixed (by kernel_rfl) (by kernel_rfl) (.pair (.one yi) (.one yi)) (.pair (.agg dh) (.one yi)) tX hinv (by kernel_rfl) fun x hp=>⟨_,_,(aH.cons (b9.of (fn:=Tryz.f185) (by kernel_rfl) (by kernel_rfl) (by kernel_rfl)) (gM.fn bt hY mixed (fn:=Tryz.f185) (by kernel_rfl) (by kernel_rfl) (aH.cons (b9.of (fn:=Tryz.f163) (by kernel_rfl) (by kernel_rfl) (by kernel_rfl)) (gM.fn bt hY mixed (fn:=Tryz.f163) (by kernel_rfl) (by kernel_rfl) (aH.nil _ _) (fun ys hy=>aK.nil)) (aH.nil _ _)) (Lv x)) (aH.cons (b9.of (fn:=Tryz.f163) (by kernel_rfl) (by kernel_rfl) (by kernel_rfl)) (gM.fn bt hY mixed (fn:=Tryz.f163) (by kernel_rfl) (by kernel_rfl) (aH.nil _ _) (fun ys hy=>aK.nil)) (aH.nil _ _))),aK.nil,amr x (fun y=>y=hinv x) hp rfl⟩
def ac6:List (Nat×Ev.Spec):=(144,ah SN)::bU
theorem MV:aj Tryz.prog ac6:=aA (fn:=Tryz.f144) ams hY
def Dq (x:Int):Tr (I2×Int) true:=
 (.fn SN (2,x) fun y=>
 (.gG (y.2 !=0)
 (.ret (uQ,y.2))
 (.fn SN (3,x) fun aB=>
 (.od (y.1.2≠0)
 (.od (aB.1.2≠0)
 (.ret (((au (Int.tdiv (au (65536*y.1.1)) y.1.2)),(au (Int.tdiv (au (65536*aB.1.1)) aB.1.2))),aB.2)))))))
def Zp (x:Int):(I2×Int):=(Dq x).val
def B7 (x:Int):Prop:=(Dq x).pre
abbrev Dp:bF:=⟨(.one yi),(.pair (.agg dh) (.one yi)),B7,Zp⟩
theorem aev:aq Tryz.prog 126 (ah Dp):=aM Dp Dq (fn:=Tryz.f126) MV
def QZ:List (Nat×Ev.Spec):=(126,ah Dp)::ac6
theorem jX:aj Tryz.prog QZ:=aA (fn:=Tryz.f126) aev MV
def Dl (x:Int):aI:=⟨[.env,.env,.env,.env],⟨cj 41 0 [(0,.v (.one (.ptr 2 0))),(1,.v (.one (.ptr 3 0))),(2,.v (.one (.i .i64)))],[.cells [.i IntKind.u32,.i IntKind.i32,.i IntKind.u32,.full 7] 147,.cg 1,.cells [.ptr 0 0] 176,.cells [.i .i64] 3,.cg 4,.cg 5,.cg 6,.row dh 2],7,none,[4,6,7,8],[1,2,3,5],[9,0],[(.l dh),.i],[.i 0,.i 1,.i 0,.i x]⟩,[⟨(.exit 0),.normal,⟨cj 41 0 [],[.cells [.i IntKind.u32,.i IntKind.i32,.i IntKind.u32,.full 7] 147,.cg 1,.cells [.ptr 0 0] 176,.cells [.i .i64] 3,.cg 4,.cg 5,.cg 6,.row dh 2],7,none,[3,5,6,7],[0,1,2,4],[8],[(.l dh)],[.i 0,.i 1,.i 0,.i x]⟩⟩]⟩
def gg (x:Int) (s:(List I2×Int)):Tr ((List I2×Int)⊕(List I2)) true:=
 (.i10 (s.2<=65535)
 (.i10 ((s.1.length:Int)<x)
 (.fn Dp s.2 fun y=>
 (.fn0 Ac y.1 trivial fun aB=>
 (.BQ aB
 (.fn0 xT y.1.1 trivial fun y_2=>
 (.fn0 xT y.1.2 trivial fun bI=>
 (.od ((s.1.length+1)<1099511627776)
 (.ret (.inl ((s.1++ [(y_2,bI)]),(au (s.2+1))))))))
 (.ret (.inl (s.1,(au (s.2+1))))))))
 (.ret (.inr (s.1))))
 (.ret (.inr (s.1))))
abbrev fe (x:Int) (s:(List I2×Int)):(List I2×Int)⊕(List I2):=(gg x s).val
abbrev jQ (x:Int) (s:(List I2×Int)):Prop:=(gg x s).pre
def ah8 (x:Int):Od Tryz.prog:=⟨_,(aH.walk bt jX mixed 125 (fn:=Tryz.f125) (by kernel_rfl) (aH.nil _ _) fun ys hy=>(aK.tr bt ⟨jX,hy,(aH.nil _ _)⟩ mixed 0 (Dl x) (gg x) aK.nil (by kernel_rfl) fun g s Q=>(by kernel_rfl)))⟩
def ah9 (x:Int):Od Tryz.prog:=⟨_,(aH.avp 143 125 (fn:=Tryz.f143) (fg:=Tryz.f125) (by kernel_rfl) (by kernel_rfl) anw (ah8 x).ok)⟩
def aia (x:Int):Od Tryz.prog:=⟨_,(aH.walk bt jX mixed 124 (fn:=Tryz.f124) (by kernel_rfl) (ah9 x).ok fun ys hy=>aK.nil)⟩
def aib (x:Int):Od Tryz.prog:=⟨_,(aH.walk bt jX mixed 102 (fn:=Tryz.f102) (by kernel_rfl) (aia x).ok fun ys hy=>aK.nil)⟩
def VI (x:Int):(List I2×Int):=
 (if (x<0) then
 ([],1) else
 (if (x>256) then
 ([],1) else
 (ak (run (fe x) ([],1)) fun r=>
 (r,0))))
def z7 (x:Int):Prop:=
 (¬(x<0)->
 (¬(x>256)->
 (Term (fe x) (jQ x) ([],1))))
def amo (x:Int):Tr (List I2×Int) true:=
 (.wY (x<z0)
 (.ret ([],z1))
 (.wY (x>256)
 (.ret ([],z1))
 (.CX
 (.CX
 (.CX
 (.CX
 (aI.lp (Dl x) (gg x) ([],z1) fun r=>
 (.pn 3 6
 (.pn 2 5
 (.pn 1 4
 (.pn 0 1
 (.ret (r,z0)))))))))))))
abbrev JK:bF:=⟨(.one yi),(.pair (.one (Ty.sl dh)) (.one yi)),z7,VI⟩
theorem aic:aq Tryz.prog 75 (ah JK):=aq.trX JK amo (fn:=Tryz.f75) bt jX mixed (by kernel_rfl) (fun x=>(aib x).ok) (fun x=>aK.nil) (fun x=>(by kernel_rfl)) fun x Q=>(by kernel_rfl)
def oF:List (Nat×Ev.Spec):=(75,ah JK)::QZ
theorem yZ:aj Tryz.prog oF:=aA (fn:=Tryz.f75) aic jX
end Go.Proofs.YtngdehlpoomaiaaGreat
