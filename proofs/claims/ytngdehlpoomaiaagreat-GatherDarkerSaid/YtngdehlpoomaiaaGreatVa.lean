/- Models of functions of layer 22: a walk. -/
import Derived.Test.YtngdehlpoomaiaaGreatSb
import Derived.Test.YtngdehlpoomaiaaGreatTq
import Derived.Test.YtngdehlpoomaiaaGreatTp
noncomputable section
set_option linter.unusedSectionVars false
set_option linter.unusedVariables false
set_option linter.unusedSimpArgs false
namespace Go.Proofs.YtngdehlpoomaiaaGreat
open Go Go.Ev Go.Proofs
abbrev ajv:Ty:= .prod (.sl (.prod (.prod (.prod (.int .i64) (.prod (.int .i64) (.int .i64))) (.prod (.int .i64) (.prod (.int .i64) (.int .i64)))) (.prod (.int .i64) (.prod (.int .i64) (.sl (.int .i64)))))) (.prod (.sl (.prod (.prod (.int .i64) (.prod (.int .i64) (.int .i64))) (.prod (.prod (.int .i64) (.prod (.int .i64) (.int .i64))) (.prod (.int .i64) (.prod (.int .i64) (.int .i64)))))) (.prod (.prod (.int .i64) (.prod (.int .i64) (.int .i64))) (.prod (.int .i64) (.prod (.int .i64) (.int .i64)))))
def IU (x:((List ((I3×I3)×Int×Int×List Int)×List I9×I3×I3)×Int)):Bool:=
 (aj (Y8 (x.1.2.2.1,x.1.2.2.2,(x.1.2.1.getD x.2.toNat ((0,0,0),(0,0,0),0,0,0)))) fun y=>
 y.1)
def vW (x:((List ((I3×I3)×Int×Int×List Int)×List I9×I3×I3)×Int)):Prop:=
 (((0<=x.2)/\ (x.2<(x.1.2.1.length:Int)))/\
 ((x.2.toNat<x.1.2.1.length)/\
 ((x.2.toNat<x.1.2.1.length)/\
 (zc (x.1.2.2.1,x.1.2.2.2,(x.1.2.1.getD x.2.toNat ((0,0,0),(0,0,0),0,0,0)))))))
def acY (x:((List ((I3×I3)×Int×Int×List Int)×List I9×I3×I3)×Int)):Tr Bool true:=
 (.nc x.2 x.1.2.1
 (.fn Lu (x.1.2.2.1,x.1.2.2.2,(gT x.1.2.1 x.2 My)) fun y=>
 (.ret y.1)))
abbrev DD:cf:=⟨(.pair (.agg (Ty.prod (Ty.sl (Ty.prod (Ty.prod aO aO) (Ty.prod yi (Ty.prod yi (Ty.sl yi))))) (Ty.prod (Ty.sl ff) (Ty.prod aO aO)))) (.one yi)),(.one Ty.bool),vW,IU⟩
theorem Za:ah Tryz.prog 153 (ak DD):=ah.tr DD acY (fn:=Tryz.f153) az Gr mixed (by kernel_rfl) (av.nil _ _) (fun x=>ax.nil) (fun x=>(by kernel_rfl)) fun x Q=>(by kernel_rfl)
def O4:List (Nat×Ev.Spec):=(153,ak DD)::T6
theorem vf:af Tryz.prog O4:=af.add (fn:=Tryz.f153) (by kernel_rfl) Za Gr
def I7 (x:(List Int×List ((I3×I3)×Int×Int×List Int)×List I9×I3×I3)):aL:=⟨[],⟨dL 19 0 [(0,.v (.one (.full 0))),(1,.v (.one (.mv 153 true [.full 1,.full 2,.ext,.ext,.ext,.ext,.ext,.ext]))),(7,.v (.one (.i .i64))),(8,.v (.one (.i .i64)))],[.row yi 0,.row (Ty.prod (Ty.prod aO aO) (Ty.prod yi (Ty.prod yi (Ty.sl yi)))) 0,.row ff 0],0,none,[],[0,1,2,3,4,5,6,8,9,10],[7],[.i],[.v (.int .i64 x.2.2.2.1.1),.v (.int .i64 x.2.2.2.1.2.1),.v (.int .i64 x.2.2.2.1.2.2),.v (.int .i64 x.2.2.2.2.1),.v (.int .i64 x.2.2.2.2.2.1),.v (.int .i64 x.2.2.2.2.2.2),.i (x.1.length:Int),.l yi x.1,.l (Ty.prod (Ty.prod aO aO) (Ty.prod yi (Ty.prod yi (Ty.sl yi)))) x.2.1,.l ff x.2.2.1]⟩,[⟨.ret,.ret,⟨dL 19 0 [(4,.v (.one (.i .i64)))],[],0,none,[],[],[0],[.i],[]⟩⟩,⟨(.exit 0),.normal,⟨dL 19 0 [],[],0,none,[],[],[],[],[]⟩⟩]⟩
def iG (x:(List Int×List ((I3×I3)×Int×Int×List Int)×List I9×I3×I3)) (s:Int):Int⊕(Int⊕Unit):=
 (if (s<(x.1.length:Int)) then
 (aj (IU (x.2,(x.1.getD s.toNat 0))) fun y=>
 (if (y=true) then
 (Sum.inr (Sum.inl s)) else
 (Sum.inl (au (s+1))))) else
 (Sum.inr (Sum.inr (()))))
def qe (x:(List Int×List ((I3×I3)×Int×Int×List Int)×List I9×I3×I3)) (s:Int):Prop:=
 ((s<(x.1.length:Int))->
 (((0<=s)/\ (s<(x.1.length:Int)))/\
 ((s.toNat<x.1.length)/\
 ((s.toNat<x.1.length)/\
 (vW (x.2,(x.1.getD s.toNat 0)))))))
def Cl (x:(List Int×List ((I3×I3)×Int×Int×List Int)×List I9×I3×I3)) (s:Int):Tr (Int⊕(Int⊕Unit)) true:=
 (.i10 (s<(nL x.1))
 (.nc s x.1
 (.fn DD (x.2,(gI x.1 s)) fun y=>
 (.iQ y
 (.ret (.inr (Sum.inl s)))
 (.ret (.inl (w1 s))))))
 (.ret (.inr (Sum.inr (())))))
def Ra (x:(List Int×List ((I3×I3)×Int×Int×List Int)×List I9×I3×I3)):Int:=
 (aj (run (iG x) 0) fun r=>
 (Sum.elim (fun a=>
 a) (fun b=>
 (-1)) r))
def Fq (x:(List Int×List ((I3×I3)×Int×Int×List Int)×List I9×I3×I3)):Prop:=
 (Term (iG x) (qe x) 0)
def Zq (x:(List Int×List ((I3×I3)×Int×Int×List Int)×List I9×I3×I3)):Tr Int true:=
 (aL.lp (I7 x) (Cl x) z0 fun r=>
 (.OD r (fun a=>
 (.ret a)) (fun b=>
 (.ret (-1)))))
abbrev zl:cf:=⟨(.pair (.one (Ty.sl yi)) (.mv 153 true ajv)),(.one yi),Fq,Ra⟩
theorem VI:ah Tryz.prog 173 (ak zl):=ah.tr zl Zq (fn:=Tryz.f173) az vf mixed (by kernel_rfl) (av.nil _ _) (fun x=>(ax.tr az (af.eA vf (av.nil _ _)) mixed 0 (I7 x) (Cl x) ax.nil (by kernel_rfl) fun g s Q=>(by kernel_rfl))) (fun x=>(by kernel_rfl)) fun x Q=>(by kernel_rfl)
def J9:List (Nat×Ev.Spec):=(173,ak zl)::O4
theorem As:af Tryz.prog J9:=af.add (fn:=Tryz.f173) (by kernel_rfl) VI vf
def qC (x:(List Int×List ((I3×I3)×Int×Int×List Int)×List I9×I3×I3)):Bool:=
 (aj (Ra x) fun y=>
 (decide (y>=0)))
def lI (x:(List Int×List ((I3×I3)×Int×Int×List Int)×List I9×I3×I3)):Prop:=
 (Fq x)
def MX (x:(List Int×List ((I3×I3)×Int×Int×List Int)×List I9×I3×I3)):Tr Bool true:=
 (.fn zl x fun y=>
 (.ret (decide (y>=z0))))
abbrev o7:cf:=⟨(.pair (.one (Ty.sl yi)) (.mv 153 true ajv)),(.one Ty.bool),lI,qC⟩
theorem K8:ah Tryz.prog 152 (ak o7):=ah.tr o7 MX (fn:=Tryz.f152) az As mixed (by kernel_rfl) (av.nil _ _) (fun x=>ax.nil) (fun x=>(by kernel_rfl)) fun x Q=>(by kernel_rfl)
def Ai:List (Nat×Ev.Spec):=(152,ak o7)::J9
theorem mP:af Tryz.prog Ai:=af.add (fn:=Tryz.f152) (by kernel_rfl) K8 As
def PZ (x:(List ((I3×I3)×Int×Int×List Int)×List I9×I3×I3)):aL:=⟨[],⟨dL 61 0 [(1,.v (.one (.ptr 0 0))),(4,.v (.one (.i .i64))),(5,.v (.one (.full 3)))],[.cells [.full 1,.full 2,.i .i64,.i .i64,.i .i64,.i .i64,.i .i64,.i .i64] 181,.row (Ty.prod (Ty.prod aO aO) (Ty.prod yi (Ty.prod yi (Ty.sl yi)))) 0,.row ff 0,.row yi 3],0,none,[],[1,2,3,4,5,6,7,8],[0,9],[.i,(.l yi)],[.i x.2.2.1.1,.i x.2.2.1.2.1,.i x.2.2.1.2.2,.i x.2.2.2.1,.i x.2.2.2.2.1,.i x.2.2.2.2.2,.l (Ty.prod (Ty.prod aO aO) (Ty.prod yi (Ty.prod yi (Ty.sl yi)))) x.1,.l ff x.2.1]⟩,[⟨.ret,.ret,⟨dL 61 0 [(2,.v (.one (.b))),(3,.v (.one (.i .i64)))],[],0,none,[],[0],[1],[.i],[.b true]⟩⟩,⟨(.exit 0),.normal,⟨dL 61 0 [(4,.v (.one (.i .i64)))],[],0,none,[],[],[0],[.i],[]⟩⟩]⟩
def cM (x:(List ((I3×I3)×Int×Int×List Int)×List I9×I3×I3)) (s:(Int×List Int)):(Int×List Int)⊕(Int⊕Int):=
 (if ((s.2.length:Int)>0) then
 (aj (qi (x.2.2.1,x.2.2.2,(x.1.getD (Int.toNat (s.2.getD (Int.toNat (au ((s.2.length:Int)- 1))) 0)) (((0,0,0),0,0,0),0,0,[])).1)) fun y=>
 (if ((!y.1)=true) then
 (Sum.inl ((au (s.1+1)),(List.take (Int.toNat (au ((s.2.length:Int)- 1))) s.2))) else
 (if (((x.1.getD (Int.toNat (s.2.getD (Int.toNat (au ((s.2.length:Int)- 1))) 0)) (((0,0,0),0,0,0),0,0,[])).2.1==0)=true) then
 (aj (qC ((x.1.getD (Int.toNat (s.2.getD (Int.toNat (au ((s.2.length:Int)- 1))) 0)) (((0,0,0),0,0,0),0,0,[])).2.2.2,x)) fun aA=>
 (if (aA=true) then
 (Sum.inr (Sum.inl (au (s.1+1)))) else
 (Sum.inl ((au (s.1+1)),(List.take (Int.toNat (au ((s.2.length:Int)- 1))) s.2))))) else
 (Sum.inl ((au (s.1+1)),((List.take (Int.toNat (au ((s.2.length:Int)- 1))) s.2)++ [(x.1.getD (Int.toNat (s.2.getD (Int.toNat (au ((s.2.length:Int)- 1))) 0)) (((0,0,0),0,0,0),0,0,[])).2.2.1,(x.1.getD (Int.toNat (s.2.getD (Int.toNat (au ((s.2.length:Int)- 1))) 0)) (((0,0,0),0,0,0),0,0,[])).2.1])))))) else
 (Sum.inr (Sum.inr (s.1))))
def gb (x:(List ((I3×I3)×Int×Int×List Int)×List I9×I3×I3)) (s:(Int×List Int)):Prop:=
 (((s.2.length:Int)>0)->
 (((0<=(au ((s.2.length:Int)- 1)))/\ ((au ((s.2.length:Int)- 1))<(s.2.length:Int)))/\
 (((Int.toNat (au ((s.2.length:Int)- 1)))<s.2.length)/\
 (((Int.toNat (au ((s.2.length:Int)- 1)))<s.2.length)/\
 (((0<=(s.2.getD (Int.toNat (au ((s.2.length:Int)- 1))) 0))/\ ((s.2.getD (Int.toNat (au ((s.2.length:Int)- 1))) 0)<(x.1.length:Int)))/\
 (((Int.toNat (s.2.getD (Int.toNat (au ((s.2.length:Int)- 1))) 0))<x.1.length)/\
 (((Int.toNat (s.2.getD (Int.toNat (au ((s.2.length:Int)- 1))) 0))<x.1.length)/\
 (((0<=(au ((s.2.length:Int)- 1)))/\ ((au ((s.2.length:Int)- 1))<=(s.2.length:Int)))/\
 ((lu (x.2.2.1,x.2.2.2,(x.1.getD (Int.toNat (s.2.getD (Int.toNat (au ((s.2.length:Int)- 1))) 0)) (((0,0,0),0,0,0),0,0,[])).1))/\
 aB (qi (x.2.2.1,x.2.2.2,(x.1.getD (Int.toNat (s.2.getD (Int.toNat (au ((s.2.length:Int)- 1))) 0)) (((0,0,0),0,0,0),0,0,[])).1)) fun y=>
 (¬((!y.1)=true)->
 (((((x.1.getD (Int.toNat (s.2.getD (Int.toNat (au ((s.2.length:Int)- 1))) 0)) (((0,0,0),0,0,0),0,0,[])).2.1==0)=true)->
 (lI ((x.1.getD (Int.toNat (s.2.getD (Int.toNat (au ((s.2.length:Int)- 1))) 0)) (((0,0,0),0,0,0),0,0,[])).2.2.2,x)))/\
 (¬(((x.1.getD (Int.toNat (s.2.getD (Int.toNat (au ((s.2.length:Int)- 1))) 0)) (((0,0,0),0,0,0),0,0,[])).2.1==0)=true)->
 (((List.length (List.take (Int.toNat (au ((s.2.length:Int)- 1))) s.2))+2)<1099511627776)))))))))))))
def Hs (x:(List ((I3×I3)×Int×Int×List Int)×List I9×I3×I3)) (s:(Int×List Int)):Tr ((Int×List Int)⊕(Int⊕Int)) true:=
 (.i10 ((nL s.2)>z0)
 (.nc (wm (nL s.2)) s.2
 (.nc (gI s.2 (wm (nL s.2))) x.1
 (.og ((decide (z0<=(wm (nL s.2))))&&(decide ((wm (nL s.2))<=(nL s.2)))) ((z0<=(wm (nL s.2)))/\ ((wm (nL s.2))<=(nL s.2))) (fun h=>(gh (decide_eq_true h.1) (decide_eq_true h.2)))
 (.fn zE (x.2.2.1,x.2.2.2,(gT x.1 (gI s.2 (wm (nL s.2))) ((bH,bH),z0,z0,[])).1) fun y=>
 (.kO (!y.1)
 (.ret (.inl ((w1 s.1),(List.take (tN (wm (nL s.2))) s.2))))
 (.Dq ((gT x.1 (gI s.2 (wm (nL s.2))) ((bH,bH),z0,z0,[])).2.1==z0)
 (.fn o7 ((gT x.1 (gI s.2 (wm (nL s.2))) ((bH,bH),z0,z0,[])).2.2.2,x) fun aA=>
 (.iQ aA
 (.ret (.inr (Sum.inl (w1 s.1))))
 (.ret (.inl ((w1 s.1),(List.take (tN (wm (nL s.2))) s.2))))))
 (.od (((List.length (List.take (tN (wm (nL s.2))) s.2))+2)<1099511627776)
 (.ret (.inl ((w1 s.1),((List.take (tN (wm (nL s.2))) s.2)++ [(gT x.1 (gI s.2 (wm (nL s.2))) ((bH,bH),z0,z0,[])).2.2.1,(gT x.1 (gI s.2 (wm (nL s.2))) ((bH,bH),z0,z0,[])).2.1])))))))))))
 (.ret (.inr (Sum.inr (s.1)))))
def Uu (x:(List ((I3×I3)×Int×Int×List Int)×List I9×I3×I3)):(Bool×Int):=
 (aj (run (cM x) (0,[0])) fun r=>
 (Sum.elim (fun a=>
 (true,a)) (fun b=>
 (false,b)) r))
def BY (x:(List ((I3×I3)×Int×Int×List Int)×List I9×I3×I3)):Prop:=
 (Term (cM x) (gb x) (0,[0]))
def aef (x:(List ((I3×I3)×Int×Int×List Int)×List I9×I3×I3)):Tr (Bool×Int) true:=
 (aL.lp (PZ x) (Hs x) (z0,[z0]) fun r=>
 (.OD r (fun a=>
 (.ret (true,a))) (fun b=>
 (.ret (false,b)))))
abbrev D2:cf:=⟨(.agg (Ty.prod (Ty.sl (Ty.prod (Ty.prod aO aO) (Ty.prod yi (Ty.prod yi (Ty.sl yi))))) (Ty.prod (Ty.sl ff) (Ty.prod aO aO)))),(.pair (.one Ty.bool) (.one yi)),BY,Uu⟩
theorem abi:ah Tryz.prog 138 (ak D2):=ah.tr D2 aef (fn:=Tryz.f138) az mP mixed (by kernel_rfl) (av.nil _ _) (fun x=>(ax.tr az (af.eA mP (av.nil _ _)) mixed 0 (PZ x) (Hs x) ax.nil (by kernel_rfl) fun g s Q=>(by kernel_rfl))) (fun x=>(by kernel_rfl)) fun x Q=>(by kernel_rfl)
def Pm:List (Nat×Ev.Spec):=(138,ak D2)::Ai
theorem CW:af Tryz.prog Pm:=af.add (fn:=Tryz.f138) (by kernel_rfl) abi mP
def Vd (x:I9):Bool:=
 (aj (ef [x.1,x.2.1,x.2.2]) fun y=>
 (!y))
def EO (x:I9):Prop:=
 (cA [x.1,x.2.1,x.2.2])
def afE (x:I9):Tr Bool true:=
 (.fn ej [x.1,x.2.1,x.2.2] fun y=>
 (.ret (!y)))
abbrev Ld:cf:=⟨(.agg ff),(.one Ty.bool),EO,Vd⟩
theorem acr:ah Tryz.prog 136 (ak Ld):=ah.tr Ld afE (fn:=Tryz.f136) az CW mixed (by kernel_rfl) (av.nil _ _) (fun x=>ax.nil) (fun x=>(by kernel_rfl)) fun x Q=>(by kernel_rfl)
def TQ:List (Nat×Ev.Spec):=(136,ak Ld)::Pm
theorem yl:af Tryz.prog TQ:=af.add (fn:=Tryz.f136) (by kernel_rfl) acr CW
def I0 (x:(List I9×Bool)):aL:=⟨[],⟨dL 19 0 [(0,.v (.one (.full 0))),(1,.v (.one (.iT 136 0 []))),(7,.v (.one (.i .i64))),(8,.v (.one (.i .i64)))],[.row ff 0],0,none,[],[0,2],[1],[.i],[.i (x.1.length:Int),.l ff x.1]⟩,[⟨.ret,.ret,⟨dL 19 0 [(4,.v (.one (.i .i64)))],[],0,none,[],[],[0],[.i],[]⟩⟩,⟨(.exit 0),.normal,⟨dL 19 0 [],[],0,none,[],[],[],[],[]⟩⟩]⟩
def iD (x:(List I9×Bool)) (s:Int):Int⊕(Int⊕Unit):=
 (if (s<(x.1.length:Int)) then
 (aj (Vd (x.1.getD s.toNat ((0,0,0),(0,0,0),0,0,0))) fun y=>
 (if (y=true) then
 (Sum.inr (Sum.inl s)) else
 (Sum.inl (au (s+1))))) else
 (Sum.inr (Sum.inr (()))))
def qb (x:(List I9×Bool)) (s:Int):Prop:=
 ((s<(x.1.length:Int))->
 (((0<=s)/\ (s<(x.1.length:Int)))/\
 ((s.toNat<x.1.length)/\
 ((s.toNat<x.1.length)/\
 (EO (x.1.getD s.toNat ((0,0,0),(0,0,0),0,0,0)))))))
def Ch (x:(List I9×Bool)) (s:Int):Tr (Int⊕(Int⊕Unit)) true:=
 (.i10 (s<(nL x.1))
 (.nc s x.1
 (.fn Ld (gT x.1 s My) fun y=>
 (.iQ y
 (.ret (.inr (Sum.inl s)))
 (.ret (.inl (w1 s))))))
 (.ret (.inr (Sum.inr (())))))
def Q7 (x:(List I9×Bool)):Int:=
 (aj (run (iD x) 0) fun r=>
 (Sum.elim (fun a=>
 a) (fun b=>
 (-1)) r))
def Fk (x:(List I9×Bool)):Prop:=
 (Term (iD x) (qb x) 0)
def Zl (x:(List I9×Bool)):Tr Int true:=
 (aL.lp (I0 x) (Ch x) z0 fun r=>
 (.OD r (fun a=>
 (.ret a)) (fun b=>
 (.ret (-1)))))
abbrev uq:cf:=⟨(.pair (.one (Ty.sl ff)) (.iT 136 .none)),(.one yi),Fk,Q7⟩
theorem I1:ah Tryz.prog 59 (ak uq):=ah.tr uq Zl (fn:=Tryz.f59) az yl mixed (by kernel_rfl) (av.nil _ _) (fun x=>(ax.tr az (af.eA yl (av.nil _ _)) mixed 0 (I0 x) (Ch x) ax.nil (by kernel_rfl) fun g s Q=>(by kernel_rfl))) (fun x=>(by kernel_rfl)) fun x Q=>(by kernel_rfl)
def J5:List (Nat×Ev.Spec):=(59,ak uq)::TQ
theorem Ao:af Tryz.prog J5:=af.add (fn:=Tryz.f59) (by kernel_rfl) I1 yl
def kX (x:(List I9×Bool)):Bool:=
 (aj (Q7 (x.1,false)) fun y=>
 (decide (y>=0)))
def pU (x:(List I9×Bool)):Prop:=
 (Fk (x.1,false))
def MT (x:(List I9×Bool)):Tr Bool true:=
 (.fn uq (x.1,false) fun y=>
 (.ret (decide (y>=z0))))
abbrev lZ:cf:=⟨(.pair (.one (Ty.sl ff)) (.iT 136 .none)),(.one Ty.bool),pU,kX⟩
theorem yO:ah Tryz.prog 27 (ak lZ):=ah.tr lZ MT (fn:=Tryz.f27) az Ao mixed (by kernel_rfl) (av.nil _ _) (fun x=>ax.nil) (fun x=>(by kernel_rfl)) fun x Q=>(by kernel_rfl)
def Ae:List (Nat×Ev.Spec):=(27,ak lZ)::J5
theorem sS:af Tryz.prog Ae:=af.add (fn:=Tryz.f27) (by kernel_rfl) yO Ao
def KF (x:(List ((I3×I3)×Int×Int×List Int)×List I9×I3×I3)):(Bool×I2):=
 (aj (isT (x.1,x.2.1)) fun y=>
 (if ((!y)=true) then
 (false,0,1) else
 (aj (ef [x.2.2.1,x.2.2.2]) fun aA=>
 (if ((!aA)=true) then
 (false,0,5) else
 (aj (kX (x.2.1,false)) fun y_2=>
 (if (y_2=true) then
 (false,0,5) else
 (if (((x.2.1.length:Int)==0)=true) then
 (false,1,0) else
 (aj (Uu x) fun bg=>
 (bg.1,bg.2,0)))))))))
def rh (x:(List ((I3×I3)×Int×Int×List Int)×List I9×I3×I3)):Prop:=
 ((DG (x.1,x.2.1))/\
 aB (isT (x.1,x.2.1)) fun y=>
 (¬((!y)=true)->
 ((cA [x.2.2.1,x.2.2.2])/\
 aB (ef [x.2.2.1,x.2.2.2]) fun aA=>
 (¬((!aA)=true)->
 ((pU (x.2.1,false))/\
 aB (kX (x.2.1,false)) fun y_2=>
 (¬(y_2=true)->
 (¬(((x.2.1.length:Int)==0)=true)->
 (BY x))))))))
def aeg (x:(List ((I3×I3)×Int×Int×List Int)×List I9×I3×I3)):Tr (Bool×I2) true:=
 (.fn Tc (x.1,x.2.1) fun y=>
 (.kO (!y)
 (.ret (false,z0,z1))
 (.fn ej [x.2.2.1,x.2.2.2] fun aA=>
 (.kO (!aA)
 (.ret (false,z0,5))
 (.fn lZ (x.2.1,false) fun y_2=>
 (.kO y_2
 (.ret (false,z0,5))
 (.kO ((nL x.2.1)==z0)
 (.ret (false,z1,z0))
 (.fn D2 x fun bg=>
 (.ret (bg.1,bg.2,z0))))))))))
abbrev Mi:cf:=⟨(.pair (.one (Ty.sl (Ty.prod (Ty.prod aO aO) (Ty.prod yi (Ty.prod yi (Ty.sl yi)))))) (.pair (.one (Ty.sl ff)) (.pair (.agg aO) (.agg aO)))),(.pair (.one Ty.bool) (.pair (.one yi) (.one yi))),rh,KF⟩
theorem abj:ah Tryz.prog 120 (ak Mi):=ah.tr Mi aeg (fn:=Tryz.f120) az sS mixed (by kernel_rfl) (av.nil _ _) (fun x=>ax.nil) (fun x=>(by kernel_rfl)) fun x Q=>(by kernel_rfl)
def Po:List (Nat×Ev.Spec):=(120,ak Mi)::Ae
theorem Pp:af Tryz.prog Po:=af.add (fn:=Tryz.f120) (by kernel_rfl) abj sS
end Go.Proofs.YtngdehlpoomaiaaGreat
namespace Go.Proofs.YtngdehlpoomaiaaGreat
open Go Go.Ev Go.Proofs
abbrev P3:Type:=Int×(Int×Int)
abbrev T3:Type:=P3×(P3×P3)
abbrev z3:P3:=(0,0,0)
abbrev zT:T3:=(z3,z3,z3)
abbrev B3:Type:=P3×P3
theorem Hx (m:Int) (hm:0<=m) (hm2:m<4611686018427387904) (x:List Int) (hl:x.length<4611686018427387904):yz (m,x)/\ within (m,x)= !x.any (fun v=>decide (v< -m)||decide (v>m)):=by
 refine lX x hl _ _ _ (fun i hi=> ?_) (fun i v hv=> ?_) ?_
 ·unfold xB
  intro h
  simp only [Int.toNat_natCast];dsimp only at h ⊢;omega
 ·have hlt:=dA hv
  unfold kL
  rw [if_pos (by dsimp only;omega),Int.toNat_natCast]
  dsimp only
  rw [iW hv,aC (n:=0- m) (by omega) (by omega),show 0- m= -m by omega]
  by_cases h1:v< -m
  ·simp [h1]
  ·by_cases h2:v>m
   ·simp [h1,h2]
   ·simp [h1,h2]
 ·unfold kL
  rw [if_neg (by dsimp only;omega)]
abbrev fM (p:Int×(Int×Int)):Prop:=(-16384<=p.1/\ p.1<=16384)/\ (-16384<=p.2.1/\ p.2.1<=16384)/\ (-16384<=p.2.2/\ p.2.2<=16384)
theorem agM {α:Type} {l:List α} {bad:α->Bool} {P:α->Prop} [DecidablePred P] (h: ∀x,bad x= !decide (P x)):(!l.any bad)=decide (∀x∈l,P x):=by
 rw [Bool.eq_iff_iff]
 simp [h]
theorem fX (x:List (Int×Int×Int)) (hl:x.length<4611686018427387904):cA x/\ ef x=decide (∀p∈x,fM p):=by
 have hn: ∀a b c:Int,within (16384,[a,b,c])=decide (fM (a,b,c)):=fun a b c=>by
  rw [(Hx 16384 (by omega) (by omega) [a,b,c] (by simp)).2,Bool.eq_iff_iff];simp
 rw [<- agM (bad:=fun p=> !decide (fM p)) (fun _=>rfl)]
 refine lX x hl _ _ _ (fun i hi=> ?_) (fun i v hv=> ?_) ?_
 ·unfold xe
  intro h
  simp only [Int.toNat_natCast]
  exact ⟨by omega,by omega,by omega,(Hx 16384 (by omega) (by omega) _ (by simp)).1⟩
 ·have hlt:=dA hv
  unfold kI
  rw [if_pos (by omega),Int.toNat_natCast,iW hv]
  unfold aj
  rw [hn]
 ·unfold kI
  rw [if_neg (by omega)]
theorem eS {S R:Type} [Inhabited R] {step:S->S⊕R} {pre:S->Prop} (n:Nat) (J:Nat->S->Prop) (Post:R->Prop)
  (h1: ∀i s,i<n->J i s->pre s/\ ((∃s',step s= .inl s'/\ J (i+1) s')\/ (∃r,step s= .inr r/\ Post r)))
  (h2: ∀s,J n s->pre s/\ ∃r,step s= .inr r/\ Post r) {s:S} (h0:J 0 s):TR step pre s Post:=by
 have key: ∀k i,i+k=n-> ∀s,J i s->TR step pre s Post:=by
  intro k
  induction k with
  |zero=>
   intro i e s hj
   have:i=n:=by omega
   subst this
   obtain ⟨hp,r,e1,hq⟩:=h2 s hj
   exact TR.stop hp e1 hq
  |succ k ih=>
   intro i e s hj
   obtain ⟨hp,⟨s',e1,hj'⟩|⟨r,e1,hq⟩⟩:=h1 i s (by omega) hj
   ·exact TR.go hp e1 (ih (i+1) (by omega) s' hj')
   ·exact TR.stop hp e1 hq
 exact key n 0 (by omega) s h0
theorem fI {α:Type} {l:List α} {i:Nat} (h:i<l.length) (d:α):l.take (i+1)=l.take i++ [l.getD i d]:=by
 rw [List.take_add_one,List.getD_eq_getElem?_getD,List.getElem?_eq_getElem h];rfl
theorem jr {α:Type} {l:List α} {i:Nat} (h:i<l.length) (d:α):l.getD i d∈l:=by
 rw [List.getD_eq_getElem?_getD,List.getElem?_eq_getElem h];exact List.getElem_mem h
theorem UP {i n:Nat} (h:i<n) (hn:n<4611686018427387904):au ((i:Int)+1)=((i+1:Nat):Int):=cnt h hn
theorem LS (a b:Int):aY a b<=a/\ aY a b<=b/\ (aY a b=a\/ aY a b=b):=by unfold aY;split<;>omega
theorem LQ (a b:Int):a<=aT a b/\ b<=aT a b/\ (aT a b=a\/ aT a b=b):=by unfold aT;split<;>omega
def MA (p q:P3):Prop:=p.1<=q.1/\ p.2.1<=q.2.1/\ p.2.2<=q.2.2
structure Mz (x:List P3) (b:B3):Prop where
 low: ∀p∈x,MA b.1 p
 high: ∀p∈x,MA p b.2
 l1: ∃p∈x,p.1=b.1.1
 l2: ∃p∈x,p.2.1=b.1.2.1
 l3: ∃p∈x,p.2.2=b.1.2.2
 h1: ∃p∈x,p.1=b.2.1
 h2: ∃p∈x,p.2.1=b.2.2.1
 h3: ∃p∈x,p.2.2=b.2.2.2
theorem Mz.join {x y:List P3} {a b c:B3} (ha:Mz x a) (hb:Mz y b) (hc:Mz [a.1,a.2,b.1,b.2] c):Mz (x++y) c:=by
 have la:=hc.low a.1 (by simp)
 have lb:=hc.low b.1 (by simp)
 have ua:=hc.high a.2 (by simp)
 have ub:=hc.high b.2 (by simp)
 have wa:MA a.1 a.2:=by
  obtain ⟨p,hp,_⟩:=ha.l1
  have h1:=ha.low p hp
  have h2:=ha.high p hp
  exact ⟨Int.le_trans h1.1 h2.1,Int.le_trans h1.2.1 h2.2.1,Int.le_trans h1.2.2 h2.2.2⟩
 have wb:MA b.1 b.2:=by
  obtain ⟨p,hp,_⟩:=hb.l1
  have h1:=hb.low p hp
  have h2:=hb.high p hp
  exact ⟨Int.le_trans h1.1 h2.1,Int.le_trans h1.2.1 h2.2.1,Int.le_trans h1.2.2 h2.2.2⟩
 obtain ⟨la1,la2,la3⟩:=la
 obtain ⟨lb1,lb2,lb3⟩:=lb
 obtain ⟨ua1,ua2,ua3⟩:=ua
 obtain ⟨ub1,ub2,ub3⟩:=ub
 obtain ⟨wa1,wa2,wa3⟩:=wa
 obtain ⟨wb1,wb2,wb3⟩:=wb
 refine ⟨fun p hp=> ?_,fun p hp=> ?_,?_,?_,?_,?_,?_,?_⟩
 ·rcases List.mem_append.1 hp with hp|hp
  ·obtain ⟨h1,h2,h3⟩:=ha.low p hp;exact ⟨by omega,by omega,by omega⟩
  ·obtain ⟨h1,h2,h3⟩:=hb.low p hp;exact ⟨by omega,by omega,by omega⟩
 ·rcases List.mem_append.1 hp with hp|hp
  ·obtain ⟨h1,h2,h3⟩:=ha.high p hp;exact ⟨by omega,by omega,by omega⟩
  ·obtain ⟨h1,h2,h3⟩:=hb.high p hp;exact ⟨by omega,by omega,by omega⟩
 ·obtain ⟨p,hp,e⟩:=hc.l1
  obtain ⟨q,hq,f⟩:=ha.l1
  obtain ⟨q',DF,f'⟩:=hb.l1
  simp only [List.mem_cons,List.not_mem_nil,or_false] at hp
  rcases hp with rfl|rfl|rfl|rfl
  ·exact ⟨q,by simp [hq],by omega⟩
  ·exact ⟨q,by simp [hq],by omega⟩
  ·exact ⟨q',by simp [DF],by omega⟩
  ·exact ⟨q',by simp [DF],by omega⟩
 ·obtain ⟨p,hp,e⟩:=hc.l2
  obtain ⟨q,hq,f⟩:=ha.l2
  obtain ⟨q',DF,f'⟩:=hb.l2
  simp only [List.mem_cons,List.not_mem_nil,or_false] at hp
  rcases hp with rfl|rfl|rfl|rfl
  ·exact ⟨q,by simp [hq],by omega⟩
  ·exact ⟨q,by simp [hq],by omega⟩
  ·exact ⟨q',by simp [DF],by omega⟩
  ·exact ⟨q',by simp [DF],by omega⟩
 ·obtain ⟨p,hp,e⟩:=hc.l3
  obtain ⟨q,hq,f⟩:=ha.l3
  obtain ⟨q',DF,f'⟩:=hb.l3
  simp only [List.mem_cons,List.not_mem_nil,or_false] at hp
  rcases hp with rfl|rfl|rfl|rfl
  ·exact ⟨q,by simp [hq],by omega⟩
  ·exact ⟨q,by simp [hq],by omega⟩
  ·exact ⟨q',by simp [DF],by omega⟩
  ·exact ⟨q',by simp [DF],by omega⟩
 ·obtain ⟨p,hp,e⟩:=hc.h1
  obtain ⟨q,hq,f⟩:=ha.h1
  obtain ⟨q',DF,f'⟩:=hb.h1
  simp only [List.mem_cons,List.not_mem_nil,or_false] at hp
  rcases hp with rfl|rfl|rfl|rfl
  ·exact ⟨q,by simp [hq],by omega⟩
  ·exact ⟨q,by simp [hq],by omega⟩
  ·exact ⟨q',by simp [DF],by omega⟩
  ·exact ⟨q',by simp [DF],by omega⟩
 ·obtain ⟨p,hp,e⟩:=hc.h2
  obtain ⟨q,hq,f⟩:=ha.h2
  obtain ⟨q',DF,f'⟩:=hb.h2
  simp only [List.mem_cons,List.not_mem_nil,or_false] at hp
  rcases hp with rfl|rfl|rfl|rfl
  ·exact ⟨q,by simp [hq],by omega⟩
  ·exact ⟨q,by simp [hq],by omega⟩
  ·exact ⟨q',by simp [DF],by omega⟩
  ·exact ⟨q',by simp [DF],by omega⟩
 ·obtain ⟨p,hp,e⟩:=hc.h3
  obtain ⟨q,hq,f⟩:=ha.h3
  obtain ⟨q',DF,f'⟩:=hb.h3
  simp only [List.mem_cons,List.not_mem_nil,or_false] at hp
  rcases hp with rfl|rfl|rfl|rfl
  ·exact ⟨q,by simp [hq],by omega⟩
  ·exact ⟨q,by simp [hq],by omega⟩
  ·exact ⟨q',by simp [DF],by omega⟩
  ·exact ⟨q',by simp [DF],by omega⟩
theorem of_inner (x:List P3) (a b c d e f g h i:Int) (j:Int):
  TR (oD x) (gV x) (a,b,c,d,e,f,g,h,i,j,0) fun r=>r=(aY a g,aY b h,aY c i,aT d g,aT e h,aT f i,j):=by
 refine TR.go (s':=(aY a g,b,c,aT d g,e,f,g,h,i,j,1)) ?_ ?_ (TR.go (s':=(aY a g,aY b h,c,aT d g,aT e h,f,g,h,i,j,2)) ?_ ?_ (TR.go (s':=(aY a g,aY b h,aY c i,aT d g,aT e h,aT f i,g,h,i,j,3)) ?_ ?_ (TR.stop (r:=(aY a g,aY b h,aY c i,aT d g,aT e h,aT f i,j)) ?_ ?_ rfl)))
 ·unfold gV;dsimp only;decide
 ·rfl
 ·unfold gV;dsimp only;decide
 ·rfl
 ·unfold gV;dsimp only;decide
 ·rfl
 ·unfold gV;dsimp only;decide
 ·rfl
theorem Mz.snoc {x:List P3} {a b c d e f:Int} (h:Mz x ((a,b,c),d,e,f)) (p:P3):Mz (x++ [p]) ((aY a p.1,aY b p.2.1,aY c p.2.2),aT d p.1,aT e p.2.1,aT f p.2.2):=by
 have m1:=LS a p.1
 have m2:=LS b p.2.1
 have m3:=LS c p.2.2
 have m4:=LQ d p.1
 have m5:=LQ e p.2.1
 have m6:=LQ f p.2.2
 have ex: ∀ {Q:P3->Int} {u v w:Int},(∃q∈x,Q q=u)->Q p=v->(w=u\/ w=v)-> ∃q∈x++ [p],Q q=w:=fun {Q u v w} ⟨q,h1,h2⟩ hv hw=>by
  rcases hw with rfl|rfl
  ·exact ⟨q,by simp [h1],h2⟩
  ·exact ⟨p,by simp,hv⟩
 refine ⟨fun q hq=> ?_,fun q hq=> ?_,ex h.l1 rfl m1.2.2,ex (Q:=fun q=>q.2.1) h.l2 rfl m2.2.2,ex (Q:=fun q=>q.2.2) h.l3 rfl m3.2.2,ex h.h1 rfl m4.2.2,ex (Q:=fun q=>q.2.1) h.h2 rfl m5.2.2,ex (Q:=fun q=>q.2.2) h.h3 rfl m6.2.2⟩
 ·simp only [List.mem_append,List.mem_singleton] at hq
  rcases hq with hq|rfl
  ·obtain ⟨g1,g2,g3⟩:=h.low q hq
   dsimp only at g1 g2 g3
   exact ⟨by dsimp only;omega,by dsimp only;omega,by dsimp only;omega⟩
  ·exact ⟨by dsimp only;omega,by dsimp only;omega,by dsimp only;omega⟩
 ·simp only [List.mem_append,List.mem_singleton] at hq
  rcases hq with hq|rfl
  ·obtain ⟨g1,g2,g3⟩:=h.high q hq
   dsimp only at g1 g2 g3
   exact ⟨by dsimp only;omega,by dsimp only;omega,by dsimp only;omega⟩
  ·exact ⟨by dsimp only;omega,by dsimp only;omega,by dsimp only;omega⟩
theorem By (a:Int):aY a a=a:=by unfold aY;split<;>rfl
theorem Bx (a:Int):aT a a=a:=by unfold aT;split<;>rfl
theorem Mz.one (p:P3):Mz [p] (p,p):=by
 have:MA p p:=⟨Int.le_refl _,Int.le_refl _,Int.le_refl _⟩
 exact ⟨fun q hq=>by simp only [List.mem_singleton] at hq;subst hq;exact this,fun q hq=>by simp only [List.mem_singleton] at hq;subst hq;exact this,⟨p,by simp,rfl⟩,⟨p,by simp,rfl⟩,⟨p,by simp,rfl⟩,⟨p,by simp,rfl⟩,⟨p,by simp,rfl⟩,⟨p,by simp,rfl⟩⟩
theorem adC (x:List P3) (h0:0<x.length) (hl:x.length<4611686018427387904):
  TR (iN x) (lR x) ((x.getD 0 z3).1,(x.getD 0 z3).2.1,(x.getD 0 z3).2.2,(x.getD 0 z3).1,(x.getD 0 z3).2.1,(x.getD 0 z3).2.2,0) fun r=>Mz x ((r.1,r.2.1,r.2.2.1),r.2.2.2):=by
 refine eS x.length (fun i s=> ∃b:B3,s=(b.1.1,b.1.2.1,b.1.2.2,b.2.1,b.2.2.1,b.2.2.2,(i:Int))/\ ((i=0/\ b=(x.getD 0 z3,x.getD 0 z3))\/ (0<i/\ Mz (x.take i) b))) _ (fun i s hi hj=> ?_) (fun s hj=> ?_) ⟨(x.getD 0 z3,x.getD 0 z3),rfl,.inl ⟨rfl,rfl⟩⟩
 ·obtain ⟨b,rfl,hb⟩:=hj
  obtain ⟨⟨a1,a2,a3⟩,a4,a5,a6⟩:=b
  have key:=of_inner x a1 a2 a3 a4 a5 a6 (x.getD i z3).1 (x.getD i z3).2.1 (x.getD i z3).2.2 (i:Int)
  refine ⟨?_,.inl ⟨_,?_,((aY a1 (x.getD i z3).1,aY a2 (x.getD i z3).2.1,aY a3 (x.getD i z3).2.2),aT a4 (x.getD i z3).1,aT a5 (x.getD i z3).2.1,aT a6 (x.getD i z3).2.2),rfl,.inr ⟨by omega,?_⟩⟩⟩
  ·unfold lR aB
   intro _
   dsimp only
   rw [Int.toNat_natCast]
   exact ⟨by omega,hi,hi,key.1⟩
  ·unfold iN aj parts
   dsimp only
   rw [if_pos (by omega),Int.toNat_natCast,key.2,UP hi hl]
  ·rw [fI hi z3]
   rcases hb with ⟨rfl,e⟩|⟨_,hb⟩
   ·simp only [Prod.mk.injEq] at e
    obtain ⟨e1,e2⟩:=e
    simp only [List.take_zero,List.nil_append]
    generalize x.getD 0 z3=p at*
    subst e1
    have e2:=e2.symm
    simp only [Prod.mk.injEq] at e2
    obtain ⟨rfl,rfl,rfl⟩:=e2
    dsimp only
    rw [By,By,By,Bx,Bx,Bx]
    exact Mz.one _
   ·exact hb.snoc _
 ·obtain ⟨b,rfl,hb⟩:=hj
  refine ⟨?_,(b.1.1,b.1.2.1,b.1.2.2,b.2.1,b.2.2.1,b.2.2.2),?_,?_⟩
  ·unfold lR
   intro q
   dsimp only at q;omega
  ·unfold iN
   dsimp only
   rw [if_neg (by omega)]
  ·rcases hb with ⟨h,_⟩|⟨_,hb⟩
   ·omega
   ·rw [List.take_length] at hb;exact hb
theorem Ga (x:List P3) (hl:x.length<4611686018427387904):sC x/\ ((x= []/\ uU x=((z3,z3),1))\/ (x≠ []/\ (¬ ∀p∈x,fM p)/\ uU x=((z3,z3),5))\/ (x≠ []/\ (∀p∈x,fM p)/\ Mz x (uU x).1/\ (uU x).2=0)):=by
 obtain ⟨s1,s2⟩:=fX x hl
 unfold sC uU aB aj parts point
 dsimp only
 by_cases h0:x= []
 ·subst h0
  exact ⟨fun q=>absurd (by decide) q,.inl ⟨rfl,rfl⟩⟩
 ·have hpos:0<x.length:=List.length_pos_iff.2 h0
  have hb: ¬((((x.length:Nat):Int)==0)=true):=by simp;exact h0
  have key:=adC x hpos hl
  rw [if_neg hb,s2]
  by_cases hs: ∀p∈x,fM p
  ·rw [decide_eq_true hs,if_neg (by decide)]
   exact ⟨fun _=>⟨s1,fun _=>⟨by omega,hpos,hpos,by omega,hpos,hpos,key.1⟩⟩,.inr (.inr ⟨h0,hs,key.2,rfl⟩)⟩
  ·rw [decide_eq_false hs,if_pos (by decide)]
   exact ⟨fun _=>⟨s1,fun q=>absurd (by decide) q⟩,.inr (.inl ⟨h0,hs,rfl⟩)⟩
theorem Nt (b:B3) (p:P3):hasB (b,p)=true↔MA b.1 p/\ MA p b.2:=by
 unfold hasB aj parts MA
 dsimp only
 by_cases h1:p.1<b.1.1
 ·rw [if_pos h1];exact ⟨fun q=>(by cases q),fun q=>absurd q.1.1 (by omega)⟩
 rw [if_neg h1]
 by_cases h2:p.1>b.2.1
 ·rw [if_pos h2];exact ⟨fun q=>(by cases q),fun q=>absurd q.2.1 (by omega)⟩
 rw [if_neg h2]
 by_cases h3:p.2.1<b.1.2.1
 ·rw [if_pos h3];exact ⟨fun q=>(by cases q),fun q=>absurd q.1.2.1 (by omega)⟩
 rw [if_neg h3]
 by_cases h4:p.2.1>b.2.2.1
 ·rw [if_pos h4];exact ⟨fun q=>(by cases q),fun q=>absurd q.2.2.1 (by omega)⟩
 rw [if_neg h4]
 by_cases h5:p.2.2<b.1.2.2
 ·rw [if_pos h5];exact ⟨fun q=>(by cases q),fun q=>absurd q.1.2.2 (by omega)⟩
 rw [if_neg h5]
 by_cases h6:p.2.2>b.2.2.2
 ·rw [if_pos h6];exact ⟨fun q=>(by cases q),fun q=>absurd q.2.2.2 (by omega)⟩
 rw [if_neg h6]
 exact ⟨fun _=>⟨⟨by omega,by omega,by omega⟩,by omega,by omega,by omega⟩,fun _=>rfl⟩
theorem ya (b:B3):oC b/\ (qm b=true↔(fM b.1/\ fM b.2)/\ MA b.1 b.2):=by
 obtain ⟨s1,s2⟩:=fX [b.1,b.2] (by simp)
 refine ⟨s1,?_⟩
 unfold qm aj
 rw [s2]
 dsimp only
 have hr:MA b.1 b.1:=⟨Int.le_refl _,Int.le_refl _,Int.le_refl _⟩
 by_cases hs: ∀p∈ [b.1,b.2],fM p
 ·rw [decide_eq_true hs,if_pos rfl,Nt]
  exact ⟨fun q=>⟨⟨hs _ (by simp),hs _ (by simp)⟩,q.2⟩,fun q=>⟨hr,q.2⟩⟩
 ·rw [decide_eq_false hs,if_neg (by decide)]
  refine ⟨fun q=>(by cases q),fun q=>absurd (fun p hp=> ?_) hs⟩
  simp only [List.mem_cons,List.not_mem_nil,or_false] at hp
  rcases hp with rfl|rfl
  ·exact q.1.1
  ·exact q.1.2
theorem Mz.is {x:List P3} {b:B3} (h:Mz x b) (hs: ∀p∈x,fM p):(fM b.1/\ fM b.2)/\ MA b.1 b.2:=by
 obtain ⟨p1,m1,e1⟩:=h.l1
 obtain ⟨p2,m2,e2⟩:=h.l2
 obtain ⟨p3,m3,e3⟩:=h.l3
 obtain ⟨p4,m4,e4⟩:=h.h1
 obtain ⟨p5,m5,e5⟩:=h.h2
 obtain ⟨p6,m6,e6⟩:=h.h3
 have s1:=(hs p1 m1).1
 have s2:=(hs p2 m2).2.1
 have s3:=(hs p3 m3).2.2
 have s4:=(hs p4 m4).1
 have s5:=(hs p5 m5).2.1
 have s6:=(hs p6 m6).2.2
 have a:=h.low p1 m1
 have c:=h.high p1 m1
 refine ⟨⟨?_,?_⟩,Int.le_trans a.1 c.1,Int.le_trans a.2.1 c.2.1,Int.le_trans a.2.2 c.2.2⟩
 ·rw [e1] at s1;rw [e2] at s2;rw [e3] at s3;exact ⟨s1,s2,s3⟩
 ·rw [e4] at s4;rw [e5] at s5;rw [e6] at s6;exact ⟨s4,s5,s6⟩
end Go.Proofs.YtngdehlpoomaiaaGreat
