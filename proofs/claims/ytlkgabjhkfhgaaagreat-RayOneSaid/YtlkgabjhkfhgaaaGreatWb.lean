/- Models of functions of layer 22: a walk. -/
import Derived.Test.YtlkgabjhkfhgaaaGreatSb
import Derived.Test.YtlkgabjhkfhgaaaGreatChecked
import Derived.Tactics
import Derived.Tactics2
import Derived.Defers
import Derived.Laws.Pointers
import Derived.Laws.LoneSync
import Derived.RegionTactic
import Derived.RegionCalls
import Derived.ChangeAlike
import Derived.Test.YtlkgabjhkfhgaaaGreatEvL
import Derived.Laws.Tables
noncomputable section
set_option linter.unusedSectionVars false
set_option linter.unusedVariables false
set_option linter.unusedSimpArgs false
namespace Go.Proofs.YtlkgabjhkfhgaaaGreat
open Go Go.Ev Go.Proofs
abbrev ZN:Ty:= .prod (.sl (.prod (.prod (.prod (.int .i64) (.prod (.int .i64) (.int .i64))) (.prod (.int .i64) (.prod (.int .i64) (.int .i64)))) (.prod (.int .i64) (.prod (.int .i64) (.sl (.int .i64)))))) (.prod (.sl (.prod (.prod (.int .i64) (.prod (.int .i64) (.int .i64))) (.prod (.prod (.int .i64) (.prod (.int .i64) (.int .i64))) (.prod (.int .i64) (.prod (.int .i64) (.int .i64)))))) (.prod (.prod (.int .i64) (.prod (.int .i64) (.int .i64))) (.prod (.int .i64) (.prod (.int .i64) (.int .i64)))))
def Eh (x:(((List ((I3×I3)×(Int×(Int×(List Int)))))×((List I9)×(I3×I3)))×Int)):Bool:=
 (ai (Dz (x.1.2.2.1,(x.1.2.2.2,(List.getD x.1.2.1 (Int.toNat x.2) (((0:Int),((0:Int),(0:Int))),(((0:Int),((0:Int),(0:Int))),((0:Int),((0:Int),(0:Int))))))))) fun y=>
 y.1)
def sX (x:(((List ((I3×I3)×(Int×(Int×(List Int)))))×((List I9)×(I3×I3)))×Int)):Prop:=
 ((((0:Int)<=x.2)/\ (x.2<(x.1.2.1.length:Int)))/\
 (((Int.toNat x.2)<(List.length x.1.2.1))/\
 (((Int.toNat x.2)<(List.length x.1.2.1))/\
 (mO (x.1.2.2.1,(x.1.2.2.2,(List.getD x.1.2.1 (Int.toNat x.2) (((0:Int),((0:Int),(0:Int))),(((0:Int),((0:Int),(0:Int))),((0:Int),((0:Int),(0:Int))))))))))))
def T6 (x:(((List ((I3×I3)×(Int×(Int×(List Int)))))×((List I9)×(I3×I3)))×Int)):Tr Bool true:=
 (.bO x.2 x.1.2.1
 (.fn Bl (x.1.2.2.1,(x.1.2.2.2,(gT x.1.2.1 x.2 G5))) fun y=>
 (.ret y.1)))
abbrev z7:dS:=⟨(.pair (.agg (Ty.prod (Ty.sl (Ty.prod (Ty.prod bz bz) (Ty.prod yi (Ty.prod yi (Ty.sl yi))))) (Ty.prod (Ty.sl bP) (Ty.prod bz bz)))) (.one yi)),(.one Ty.bool),sX,Eh⟩
theorem QI:ak Tryz.prog 59 (av z7):=ak.tr z7 T6 (fn:=Tryz.f59) aC CC mixed (by kernel_rfl) (aA.nil _ _) (fun x=>aB.nil) (fun x=>(by kernel_rfl)) fun x Q=>(by kernel_rfl)
def Jj:List (Nat×Ev.Spec):=(59,av z7)::MQ
theorem si:ah Tryz.prog Jj:=ah.add (fn:=Tryz.f59) (by kernel_rfl) QI CC
def Es (x:((List Int)×((List ((I3×I3)×(Int×(Int×(List Int)))))×((List I9)×(I3×I3))))):aI:=⟨[],⟨cA 19 0 [(0,.v (.one (.full 0))),(1,.v (.one (.mv 59 true [.full 1,.full 2,.ext,.ext,.ext,.ext,.ext,.ext]))),(7,.v (.one (.i .i64))),(8,.v (.one (.i .i64)))],[.row yi 0,.row (Ty.prod (Ty.prod bz bz) (Ty.prod yi (Ty.prod yi (Ty.sl yi)))) 0,.row bP 0],0,none,[],[0,1,2,3,4,5,6,8,9,10],[7],[.i],[.v (.int .i64 x.2.2.2.1.1),.v (.int .i64 x.2.2.2.1.2.1),.v (.int .i64 x.2.2.2.1.2.2),.v (.int .i64 x.2.2.2.2.1),.v (.int .i64 x.2.2.2.2.2.1),.v (.int .i64 x.2.2.2.2.2.2),.i (x.1.length:Int),.l yi x.1,.l (Ty.prod (Ty.prod bz bz) (Ty.prod yi (Ty.prod yi (Ty.sl yi)))) x.2.1,.l bP x.2.2.1]⟩,[⟨.ret,.ret,⟨cA 19 0 [(4,.v (.one (.i .i64)))],[],0,none,[],[],[0],[.i],[]⟩⟩,⟨(.exit 0),.normal,⟨cA 19 0 [],[],0,none,[],[],[],[],[]⟩⟩]⟩
def gU (x:((List Int)×((List ((I3×I3)×(Int×(Int×(List Int)))))×((List I9)×(I3×I3))))) (s:Int):Int⊕(Int⊕Unit):=
 (if (s<(x.1.length:Int)) then
 (ai (Eh (x.2,(List.getD x.1 (Int.toNat s) (0:Int)))) fun y=>
 (if (y=true) then
 (Sum.inr (Sum.inl s)) else
 (Sum.inl (ae (s+(1:Int)))))) else
 (Sum.inr (Sum.inr (()))))
def oq (x:((List Int)×((List ((I3×I3)×(Int×(Int×(List Int)))))×((List I9)×(I3×I3))))) (s:Int):Prop:=
 ((s<(x.1.length:Int))->
 ((((0:Int)<=s)/\ (s<(x.1.length:Int)))/\
 (((Int.toNat s)<(List.length x.1))/\
 (((Int.toNat s)<(List.length x.1))/\
 (sX (x.2,(List.getD x.1 (Int.toNat s) (0:Int))))))))
def yS (x:((List Int)×((List ((I3×I3)×(Int×(Int×(List Int)))))×((List I9)×(I3×I3))))) (s:Int):Tr (Int⊕(Int⊕Unit)) true:=
 (.i10 (s<(nL x.1))
 (.bO s x.1
 (.fn z7 (x.2,(gI x.1 s)) fun y=>
 (.fu y
 (.ret (.inr (Sum.inl s)))
 (.ret (.inl (w1 s))))))
 (.ret (.inr (Sum.inr (())))))
def KH (x:((List Int)×((List ((I3×I3)×(Int×(Int×(List Int)))))×((List I9)×(I3×I3))))):Int:=
 (ai (run (gU x) (0:Int)) fun r=>
 (Sum.elim (fun a=>
 a) (fun b=>
 (-1:Int)) r))
def Bt (x:((List Int)×((List ((I3×I3)×(Int×(Int×(List Int)))))×((List I9)×(I3×I3))))):Prop:=
 (Term (gU x) (oq x) (0:Int))
def Q9 (x:((List Int)×((List ((I3×I3)×(Int×(Int×(List Int)))))×((List I9)×(I3×I3))))):Tr Int true:=
 (aI.lp (Es x) (yS x) z0 fun r=>
 (.Hj r (fun a=>
 (.ret a)) (fun b=>
 (.ret (-1:Int)))))
abbrev vG:dS:=⟨(.pair (.one (Ty.sl yi)) (.mv 59 true ZN)),(.one yi),Bt,KH⟩
theorem Oc:ak Tryz.prog 91 (av vG):=ak.tr vG Q9 (fn:=Tryz.f91) aC si mixed (by kernel_rfl) (aA.nil _ _) (fun x=>(aB.tr aC (ah.c8 si (aA.nil _ _)) mixed 0 (Es x) (yS x) aB.nil (by kernel_rfl) fun g s Q=>(by kernel_rfl))) (fun x=>(by kernel_rfl)) fun x Q=>(by kernel_rfl)
def Fj:List (Nat×Ev.Spec):=(91,av vG)::Jj
theorem w7:ah Tryz.prog Fj:=ah.add (fn:=Tryz.f91) (by kernel_rfl) Oc si
def oM (x:((List Int)×((List ((I3×I3)×(Int×(Int×(List Int)))))×((List I9)×(I3×I3))))):Bool:=
 (ai (KH x) fun y=>
 (decide (y>=(0:Int))))
def kI (x:((List Int)×((List ((I3×I3)×(Int×(Int×(List Int)))))×((List I9)×(I3×I3))))):Prop:=
 (Bt x)
def HN (x:((List Int)×((List ((I3×I3)×(Int×(Int×(List Int)))))×((List I9)×(I3×I3))))):Tr Bool true:=
 (.fn vG x fun y=>
 (.ret (decide (y>=z0))))
abbrev nD:dS:=⟨(.pair (.one (Ty.sl yi)) (.mv 59 true ZN)),(.one Ty.bool),kI,oM⟩
theorem F3:ak Tryz.prog 58 (av nD):=ak.tr nD HN (fn:=Tryz.f58) aC w7 mixed (by kernel_rfl) (aA.nil _ _) (fun x=>aB.nil) (fun x=>(by kernel_rfl)) fun x Q=>(by kernel_rfl)
def wT:List (Nat×Ev.Spec):=(58,av nD)::Fj
theorem lV:ah Tryz.prog wT:=ah.add (fn:=Tryz.f58) (by kernel_rfl) F3 w7
def JO (x:((List ((I3×I3)×(Int×(Int×(List Int)))))×((List I9)×(I3×I3)))):aI:=⟨[],⟨cA 61 0 [(1,.v (.one (.ptr 0 0))),(4,.v (.one (.i .i64))),(5,.v (.one (.full 3)))],[.cells [.full 1,.full 2,.i .i64,.i .i64,.i .i64,.i .i64,.i .i64,.i .i64] 94,.row (Ty.prod (Ty.prod bz bz) (Ty.prod yi (Ty.prod yi (Ty.sl yi)))) 0,.row bP 0,.row yi 3],0,none,[],[1,2,3,4,5,6,7,8],[0,9],[.i,(.l yi)],[.i x.2.2.1.1,.i x.2.2.1.2.1,.i x.2.2.1.2.2,.i x.2.2.2.1,.i x.2.2.2.2.1,.i x.2.2.2.2.2,.l (Ty.prod (Ty.prod bz bz) (Ty.prod yi (Ty.prod yi (Ty.sl yi)))) x.1,.l bP x.2.1]⟩,[⟨.ret,.ret,⟨cA 61 0 [(2,.v (.one (.b))),(3,.v (.one (.i .i64)))],[],0,none,[],[0],[1],[.i],[.b true]⟩⟩,⟨(.exit 0),.normal,⟨cA 61 0 [(4,.v (.one (.i .i64)))],[],0,none,[],[],[0],[.i],[]⟩⟩]⟩
def cC (x:((List ((I3×I3)×(Int×(Int×(List Int)))))×((List I9)×(I3×I3)))) (s:(Int×(List Int))):(Int×(List Int))⊕(Int⊕Int):=
 (if ((s.2.length:Int)>(0:Int)) then
 (ai (ot (x.2.2.1,(x.2.2.2,(List.getD x.1 (Int.toNat (List.getD s.2 (Int.toNat (ae ((s.2.length:Int)- (1:Int)))) (0:Int))) ((((0:Int),((0:Int),(0:Int))),((0:Int),((0:Int),(0:Int)))),((0:Int),((0:Int),[])))).1))) fun y=>
 (if ((!y.1)=true) then
 (Sum.inl ((ae (s.1+(1:Int))),(List.take (Int.toNat (ae ((s.2.length:Int)- (1:Int)))) s.2))) else
 (if (((List.getD x.1 (Int.toNat (List.getD s.2 (Int.toNat (ae ((s.2.length:Int)- (1:Int)))) (0:Int))) ((((0:Int),((0:Int),(0:Int))),((0:Int),((0:Int),(0:Int)))),((0:Int),((0:Int),[])))).2.1==(0:Int))=true) then
 (ai (oM ((List.getD x.1 (Int.toNat (List.getD s.2 (Int.toNat (ae ((s.2.length:Int)- (1:Int)))) (0:Int))) ((((0:Int),((0:Int),(0:Int))),((0:Int),((0:Int),(0:Int)))),((0:Int),((0:Int),[])))).2.2.2,x)) fun aq=>
 (if (aq=true) then
 (Sum.inr (Sum.inl (ae (s.1+(1:Int))))) else
 (Sum.inl ((ae (s.1+(1:Int))),(List.take (Int.toNat (ae ((s.2.length:Int)- (1:Int)))) s.2))))) else
 (Sum.inl ((ae (s.1+(1:Int))),((List.take (Int.toNat (ae ((s.2.length:Int)- (1:Int)))) s.2)++ [(List.getD x.1 (Int.toNat (List.getD s.2 (Int.toNat (ae ((s.2.length:Int)- (1:Int)))) (0:Int))) ((((0:Int),((0:Int),(0:Int))),((0:Int),((0:Int),(0:Int)))),((0:Int),((0:Int),[])))).2.2.1,(List.getD x.1 (Int.toNat (List.getD s.2 (Int.toNat (ae ((s.2.length:Int)- (1:Int)))) (0:Int))) ((((0:Int),((0:Int),(0:Int))),((0:Int),((0:Int),(0:Int)))),((0:Int),((0:Int),[])))).2.1])))))) else
 (Sum.inr (Sum.inr (s.1))))
def fP (x:((List ((I3×I3)×(Int×(Int×(List Int)))))×((List I9)×(I3×I3)))) (s:(Int×(List Int))):Prop:=
 (((s.2.length:Int)>(0:Int))->
 ((((0:Int)<=(ae ((s.2.length:Int)- (1:Int))))/\ ((ae ((s.2.length:Int)- (1:Int)))<(s.2.length:Int)))/\
 (((Int.toNat (ae ((s.2.length:Int)- (1:Int))))<(List.length s.2))/\
 (((Int.toNat (ae ((s.2.length:Int)- (1:Int))))<(List.length s.2))/\
 ((((0:Int)<=(List.getD s.2 (Int.toNat (ae ((s.2.length:Int)- (1:Int)))) (0:Int)))/\ ((List.getD s.2 (Int.toNat (ae ((s.2.length:Int)- (1:Int)))) (0:Int))<(x.1.length:Int)))/\
 (((Int.toNat (List.getD s.2 (Int.toNat (ae ((s.2.length:Int)- (1:Int)))) (0:Int)))<(List.length x.1))/\
 (((Int.toNat (List.getD s.2 (Int.toNat (ae ((s.2.length:Int)- (1:Int)))) (0:Int)))<(List.length x.1))/\
 ((((0:Int)<=(ae ((s.2.length:Int)- (1:Int))))/\ ((ae ((s.2.length:Int)- (1:Int)))<=(s.2.length:Int)))/\
 ((kj (x.2.2.1,(x.2.2.2,(List.getD x.1 (Int.toNat (List.getD s.2 (Int.toNat (ae ((s.2.length:Int)- (1:Int)))) (0:Int))) ((((0:Int),((0:Int),(0:Int))),((0:Int),((0:Int),(0:Int)))),((0:Int),((0:Int),[])))).1)))/\
 az (ot (x.2.2.1,(x.2.2.2,(List.getD x.1 (Int.toNat (List.getD s.2 (Int.toNat (ae ((s.2.length:Int)- (1:Int)))) (0:Int))) ((((0:Int),((0:Int),(0:Int))),((0:Int),((0:Int),(0:Int)))),((0:Int),((0:Int),[])))).1))) fun y=>
 (¬((!y.1)=true)->
 (((((List.getD x.1 (Int.toNat (List.getD s.2 (Int.toNat (ae ((s.2.length:Int)- (1:Int)))) (0:Int))) ((((0:Int),((0:Int),(0:Int))),((0:Int),((0:Int),(0:Int)))),((0:Int),((0:Int),[])))).2.1==(0:Int))=true)->
 (kI ((List.getD x.1 (Int.toNat (List.getD s.2 (Int.toNat (ae ((s.2.length:Int)- (1:Int)))) (0:Int))) ((((0:Int),((0:Int),(0:Int))),((0:Int),((0:Int),(0:Int)))),((0:Int),((0:Int),[])))).2.2.2,x)))/\
 (¬(((List.getD x.1 (Int.toNat (List.getD s.2 (Int.toNat (ae ((s.2.length:Int)- (1:Int)))) (0:Int))) ((((0:Int),((0:Int),(0:Int))),((0:Int),((0:Int),(0:Int)))),((0:Int),((0:Int),[])))).2.1==(0:Int))=true)->
 (((List.length (List.take (Int.toNat (ae ((s.2.length:Int)- (1:Int)))) s.2))+2)<1099511627776)))))))))))))
def Db (x:((List ((I3×I3)×(Int×(Int×(List Int)))))×((List I9)×(I3×I3)))) (s:(Int×(List Int))):Tr ((Int×(List Int))⊕(Int⊕Int)) true:=
 (.i10 ((nL s.2)>z0)
 (.bO (wm (nL s.2)) s.2
 (.bO (gI s.2 (wm (nL s.2))) x.1
 (.og ((decide (z0<=(wm (nL s.2))))&&(decide ((wm (nL s.2))<=(nL s.2)))) ((z0<=(wm (nL s.2)))/\ ((wm (nL s.2))<=(nL s.2))) (fun h=>(c7 (decide_eq_true h.1) (decide_eq_true h.2)))
 (.fn vQ (x.2.2.1,(x.2.2.2,(gT x.1 (gI s.2 (wm (nL s.2))) ((eE,eE),(z0,(z0,[])))).1)) fun y=>
 (.nY (!y.1)
 (.ret (.inl ((w1 s.1),(List.take (tN (wm (nL s.2))) s.2))))
 (.qq ((gT x.1 (gI s.2 (wm (nL s.2))) ((eE,eE),(z0,(z0,[])))).2.1==z0)
 (.fn nD ((gT x.1 (gI s.2 (wm (nL s.2))) ((eE,eE),(z0,(z0,[])))).2.2.2,x) fun aq=>
 (.fu aq
 (.ret (.inr (Sum.inl (w1 s.1))))
 (.ret (.inl ((w1 s.1),(List.take (tN (wm (nL s.2))) s.2))))))
 (.od (((List.length (List.take (tN (wm (nL s.2))) s.2))+2)<1099511627776)
 (.ret (.inl ((w1 s.1),((List.take (tN (wm (nL s.2))) s.2)++ [(gT x.1 (gI s.2 (wm (nL s.2))) ((eE,eE),(z0,(z0,[])))).2.2.1,(gT x.1 (gI s.2 (wm (nL s.2))) ((eE,eE),(z0,(z0,[])))).2.1])))))))))))
 (.ret (.inr (Sum.inr (s.1)))))
def Nc (x:((List ((I3×I3)×(Int×(Int×(List Int)))))×((List I9)×(I3×I3)))):(Bool×Int):=
 (ai (run (cC x) ((0:Int),[(0:Int)])) fun r=>
 (Sum.elim (fun a=>
 (true,a)) (fun b=>
 (false,b)) r))
def yo (x:((List ((I3×I3)×(Int×(Int×(List Int)))))×((List I9)×(I3×I3)))):Prop:=
 (Term (cC x) (fP x) ((0:Int),[(0:Int)]))
def VC (x:((List ((I3×I3)×(Int×(Int×(List Int)))))×((List I9)×(I3×I3)))):Tr (Bool×Int) true:=
 (aI.lp (JO x) (Db x) (z0,[z0]) fun r=>
 (.Hj r (fun a=>
 (.ret (true,a))) (fun b=>
 (.ret (false,b)))))
abbrev Ap:dS:=⟨(.agg (Ty.prod (Ty.sl (Ty.prod (Ty.prod bz bz) (Ty.prod yi (Ty.prod yi (Ty.sl yi))))) (Ty.prod (Ty.sl bP) (Ty.prod bz bz)))),(.pair (.one Ty.bool) (.one yi)),yo,Nc⟩
theorem SW:ak Tryz.prog 34 (av Ap):=ak.tr Ap VC (fn:=Tryz.f34) aC lV mixed (by kernel_rfl) (aA.nil _ _) (fun x=>(aB.tr aC (ah.c8 lV (aA.nil _ _)) mixed 0 (JO x) (Db x) aB.nil (by kernel_rfl) fun g s Q=>(by kernel_rfl))) (fun x=>(by kernel_rfl)) fun x Q=>(by kernel_rfl)
def JB:List (Nat×Ev.Spec):=(34,av Ap)::wT
theorem zz:ah Tryz.prog JB:=ah.add (fn:=Tryz.f34) (by kernel_rfl) SW lV
def NM (x:I9):Bool:=
 (ai (cJ [x.1,x.2.1,x.2.2]) fun y=>
 (!y))
def A1 (x:I9):Prop:=
 (b9 [x.1,x.2.1,x.2.2])
def Wz (x:I9):Tr Bool true:=
 (.fn dg [x.1,x.2.1,x.2.2] fun y=>
 (.ret (!y)))
abbrev F6:dS:=⟨(.agg bP),(.one Ty.bool),A1,NM⟩
theorem TJ:ak Tryz.prog 32 (av F6):=ak.tr F6 Wz (fn:=Tryz.f32) aC zz mixed (by kernel_rfl) (aA.nil _ _) (fun x=>aB.nil) (fun x=>(by kernel_rfl)) fun x Q=>(by kernel_rfl)
def MK:List (Nat×Ev.Spec):=(32,av F6)::JB
theorem uR:ah Tryz.prog MK:=ah.add (fn:=Tryz.f32) (by kernel_rfl) TJ zz
def Em (x:((List I9)×Bool)):aI:=⟨[],⟨cA 19 0 [(0,.v (.one (.full 0))),(1,.v (.one (.jS 32 0 []))),(7,.v (.one (.i .i64))),(8,.v (.one (.i .i64)))],[.row bP 0],0,none,[],[0,2],[1],[.i],[.i (x.1.length:Int),.l bP x.1]⟩,[⟨.ret,.ret,⟨cA 19 0 [(4,.v (.one (.i .i64)))],[],0,none,[],[],[0],[.i],[]⟩⟩,⟨(.exit 0),.normal,⟨cA 19 0 [],[],0,none,[],[],[],[],[]⟩⟩]⟩
def gP (x:((List I9)×Bool)) (s:Int):Int⊕(Int⊕Unit):=
 (if (s<(x.1.length:Int)) then
 (ai (NM (List.getD x.1 (Int.toNat s) (((0:Int),((0:Int),(0:Int))),(((0:Int),((0:Int),(0:Int))),((0:Int),((0:Int),(0:Int))))))) fun y=>
 (if (y=true) then
 (Sum.inr (Sum.inl s)) else
 (Sum.inl (ae (s+(1:Int)))))) else
 (Sum.inr (Sum.inr (()))))
def oh (x:((List I9)×Bool)) (s:Int):Prop:=
 ((s<(x.1.length:Int))->
 ((((0:Int)<=s)/\ (s<(x.1.length:Int)))/\
 (((Int.toNat s)<(List.length x.1))/\
 (((Int.toNat s)<(List.length x.1))/\
 (A1 (List.getD x.1 (Int.toNat s) (((0:Int),((0:Int),(0:Int))),(((0:Int),((0:Int),(0:Int))),((0:Int),((0:Int),(0:Int)))))))))))
def yN (x:((List I9)×Bool)) (s:Int):Tr (Int⊕(Int⊕Unit)) true:=
 (.i10 (s<(nL x.1))
 (.bO s x.1
 (.fn F6 (gT x.1 s G5) fun y=>
 (.fu y
 (.ret (.inr (Sum.inl s)))
 (.ret (.inl (w1 s))))))
 (.ret (.inr (Sum.inr (())))))
def KE (x:((List I9)×Bool)):Int:=
 (ai (run (gP x) (0:Int)) fun r=>
 (Sum.elim (fun a=>
 a) (fun b=>
 (-1:Int)) r))
def Bq (x:((List I9)×Bool)):Prop:=
 (Term (gP x) (oh x) (0:Int))
def Q0 (x:((List I9)×Bool)):Tr Int true:=
 (aI.lp (Em x) (yN x) z0 fun r=>
 (.Hj r (fun a=>
 (.ret a)) (fun b=>
 (.ret (-1:Int)))))
abbrev rB:dS:=⟨(.pair (.one (Ty.sl bP)) (.jS 32 .none)),(.one yi),Bq,KE⟩
theorem En:ak Tryz.prog 51 (av rB):=ak.tr rB Q0 (fn:=Tryz.f51) aC uR mixed (by kernel_rfl) (aA.nil _ _) (fun x=>(aB.tr aC (ah.c8 uR (aA.nil _ _)) mixed 0 (Em x) (yN x) aB.nil (by kernel_rfl) fun g s Q=>(by kernel_rfl))) (fun x=>(by kernel_rfl)) fun x Q=>(by kernel_rfl)
def Ff:List (Nat×Ev.Spec):=(51,av rB)::MK
theorem wW:ah Tryz.prog Ff:=ah.add (fn:=Tryz.f51) (by kernel_rfl) En uR
def j0 (x:((List I9)×Bool)):Bool:=
 (ai (KE (x.1,false)) fun y=>
 (decide (y>=(0:Int))))
def n6 (x:((List I9)×Bool)):Prop:=
 (Bq (x.1,false))
def HJ (x:((List I9)×Bool)):Tr Bool true:=
 (.fn rB (x.1,false) fun y=>
 (.ret (decide (y>=z0))))
abbrev kY:dS:=⟨(.pair (.one (Ty.sl bP)) (.jS 32 .none)),(.one Ty.bool),n6,j0⟩
theorem vn:ak Tryz.prog 29 (av kY):=ak.tr kY HJ (fn:=Tryz.f29) aC wW mixed (by kernel_rfl) (aA.nil _ _) (fun x=>aB.nil) (fun x=>(by kernel_rfl)) fun x Q=>(by kernel_rfl)
def wP:List (Nat×Ev.Spec):=(29,av kY)::Ff
theorem qv:ah Tryz.prog wP:=ah.add (fn:=Tryz.f29) (by kernel_rfl) vn wW
def xx (x:((List ((I3×I3)×(Int×(Int×(List Int)))))×((List I9)×(I3×I3)))):(Bool×I2):=
 (ai (Zj (x.1,x.2.1)) fun y=>
 (if ((!y)=true) then
 (false,((0:Int),(1:Int))) else
 (ai (cJ [x.2.2.1,x.2.2.2]) fun aq=>
 (if ((!aq)=true) then
 (false,((0:Int),(5:Int))) else
 (ai (j0 (x.2.1,false)) fun y_2=>
 (if (y_2=true) then
 (false,((0:Int),(5:Int))) else
 (if (((x.2.1.length:Int)==(0:Int))=true) then
 (false,((1:Int),(0:Int))) else
 (ai (Nc x) fun au=>
 (au.1,(au.2,(0:Int)))))))))))
def jm (x:((List ((I3×I3)×(Int×(Int×(List Int)))))×((List I9)×(I3×I3)))):Prop:=
 ((z9 (x.1,x.2.1))/\
 az (Zj (x.1,x.2.1)) fun y=>
 (¬((!y)=true)->
 ((b9 [x.2.2.1,x.2.2.2])/\
 az (cJ [x.2.2.1,x.2.2.2]) fun aq=>
 (¬((!aq)=true)->
 ((n6 (x.2.1,false))/\
 az (j0 (x.2.1,false)) fun y_2=>
 (¬(y_2=true)->
 (¬(((x.2.1.length:Int)==(0:Int))=true)->
 (yo x))))))))
def VD (x:((List ((I3×I3)×(Int×(Int×(List Int)))))×((List I9)×(I3×I3)))):Tr (Bool×I2) true:=
 (.fn Mh (x.1,x.2.1) fun y=>
 (.nY (!y)
 (.ret (false,(z0,z1)))
 (.fn dg [x.2.2.1,x.2.2.2] fun aq=>
 (.nY (!aq)
 (.ret (false,(z0,(5:Int))))
 (.fn kY (x.2.1,false) fun y_2=>
 (.nY y_2
 (.ret (false,(z0,(5:Int))))
 (.nY ((nL x.2.1)==z0)
 (.ret (false,(z1,z0)))
 (.fn Ap x fun au=>
 (.ret (au.1,(au.2,z0)))))))))))
abbrev Aq:dS:=⟨(.pair (.one (Ty.sl (Ty.prod (Ty.prod bz bz) (Ty.prod yi (Ty.prod yi (Ty.sl yi)))))) (.pair (.one (Ty.sl bP)) (.pair (.agg bz) (.agg bz)))),(.pair (.one Ty.bool) (.pair (.one yi) (.one yi))),jm,xx⟩
theorem SX:ak Tryz.prog 14 (av Aq):=ak.tr Aq VD (fn:=Tryz.f14) aC qv mixed (by kernel_rfl) (aA.nil _ _) (fun x=>aB.nil) (fun x=>(by kernel_rfl)) fun x Q=>(by kernel_rfl)
def JC:List (Nat×Ev.Spec):=(14,av Aq)::wP
theorem JD:ah Tryz.prog JC:=ah.add (fn:=Tryz.f14) (by kernel_rfl) SX qv
end Go.Proofs.YtlkgabjhkfhgaaaGreat
namespace Go.Proofs.YtlkgabjhkfhgaaaGreat
open Go Go.Proofs
theorem IC (w:World):(callFunc 172 #[]).run Tryz.prog w= .ok (.value (.tuple #[])) w:=run_call_mark0 Tryz.func172 (by kernel_rfl) (by kernel_rfl) (by kernel_rfl) .disable (by kernel_rfl) w
theorem Mt (w:World):(callFunc 174 #[]).run Tryz.prog w= .ok (.value (.tuple #[])) w:=run_call_mark0 Tryz.func174 (by kernel_rfl) (by kernel_rfl) (by kernel_rfl) .enable (by kernel_rfl) w
theorem RJ (a:Addr) (w:World):(callFunc 175 #[.pointer (some a)]).run Tryz.prog w= .ok (.value (.tuple #[])) w:=run_call_marked Tryz.func175 (by kernel_rfl) (by kernel_rfl) (by kernel_rfl) .acquire (by kernel_rfl) a w
theorem RK (a:Addr) (w:World):(callFunc 177 #[.pointer (some a)]).run Tryz.prog w= .ok (.value (.tuple #[])) w:=run_call_marked Tryz.func177 (by kernel_rfl) (by kernel_rfl) (by kernel_rfl) .releaseMerge (by kernel_rfl) a w
theorem Zs (a:Addr) (x:Int) (w:World) (hc:w.cell? a=some (.int .u32 x)):Calls Tryz.prog 99 #[.pointer (some a)] w fun e w'=>e= .returned (.bool (x !=0))/\ w'=w:=by
 have hl:=run_call_load (P:=Tryz.prog) Tryz.func124 (by kernel_rfl) (by kernel_rfl) (by kernel_rfl) .u32 (by kernel_rfl) hc
 go_enter Tryz.func99,Tryz.ntmps99
 go_wp2
 go_ret
 exact ⟨rfl,rfl⟩
theorem UG (a:Addr) (x:Int) (w:World) (hc:w.cell? a=some (.int .i64 x)):Calls Tryz.prog 40 #[.pointer (some a)] w fun e w'=>e= .returned (.int .i64 x)/\ w'=w:=by
 have hl:=run_call_load (P:=Tryz.prog) Tryz.func68 (by kernel_rfl) (by kernel_rfl) (by kernel_rfl) .i64 (by kernel_rfl) hc
 go_enter Tryz.func40,Tryz.ntmps40
 go_wp2
 go_ret
 exact ⟨rfl,rfl⟩
theorem Xs (a:Addr) (x y:Int) (w:World) (hc:w.cell? a=some (.int .i64 x)) (hz:w.frozen? a=false):Calls Tryz.prog 39 #[.pointer (some a),.int .i64 y] w fun e w'=>e= .returned (.int .i64 (IntKind.wrap .i64 (x+y)))/\ w'=w.setCell a (.int .i64 (IntKind.wrap .i64 (x+y))):=by
 have Dw:=run_call_add (P:=Tryz.prog) Tryz.func67 (by kernel_rfl) (by kernel_rfl) (by kernel_rfl) .i64 (by kernel_rfl) (y:=y) (s:=IntKind.wrap .i64 (x+y)) hc hz (by simp [go_sem];try rfl)
 generalize IntKind.wrap .i64 (x+y)=S at*
 go_enter Tryz.func39,Tryz.ntmps39
 go_wp2
 go_ret
 exact ⟨rfl,rfl⟩
set_option maxRecDepth 100000 in
set_option maxHeartbeats 1600000 in
theorem UH (a:Addr) (x:Value) (u:FrameMode) (w:World) (hc:w.cell? a=some x) (hz:w.frozen? a=false):
  CallsD Tryz.prog 127 #[.pointer (some a),.bool true] u w fun e u' w'=>u'=u/\ (e= .returned (.tuple #[])/\ w'=w.drew.setCell a (.int .u32 1)):=by
 have Ig:w.drew.cell? a=some x:=by go_simp
 have hz':w.drew.frozen? a=false:=by go_simp
 have hst:=run_call_store (P:=Tryz.prog) Tryz.func156 (by kernel_rfl) (by kernel_rfl) (by kernel_rfl) (by kernel_rfl) (k:= .u32) (y:=1) Ig hz'
 go_enter_d Tryz.func127,Tryz.ntmps127
 go_wp2
 go_region_calls
 all_goals (go_end0;exact ⟨rfl,rfl⟩)
set_option maxRecDepth 100000 in
set_option maxHeartbeats 1600000 in
theorem RL (a:Addr) (u:FrameMode) (w:World) (hc:w.cell? a=some (.int .i32 1)) (hz:w.frozen? a=false):
  CallsD Tryz.prog 126 #[.pointer (some a)] u w fun e u' w'=>u'=u/\ (e= .returned (.tuple #[])/\ w'=w.setCell a (.int .i32 0)):=by
 have hd:=IC
 have he:=Mt
 have hr:=RK
 have Dw:=run_call_add (P:=Tryz.prog) Tryz.func178 (by kernel_rfl) (by kernel_rfl) (by kernel_rfl) .i32 (by kernel_rfl) (y:= -1) (s:=0) hc hz (by simp [go_sem];rfl)
 have X5:=run_convert_to_unsafe (P:=Tryz.prog) (src:=228) (dst:=232) Tryz.underlying228 Tryz.underlying232 (by kernel_rfl) hc
 go_enter_d Tryz.func126,Tryz.ntmps126
 go_wp2
 go_end0
 go_wp2
 go_end0
 exact ⟨rfl,rfl⟩
set_option maxRecDepth 100000 in
set_option maxHeartbeats 1600000 in
theorem Zt (a:Addr) (w:World) (hc:w.cell? a=some (.int .i32 0)) (hz:w.frozen? a=false):
  Calls Tryz.prog 125 #[.pointer (some a)] w fun e w'=>e= .returned (.tuple #[])/\ w'=w.setCell a (.int .i32 1):=by
 have hd:=IC
 have he:=Mt
 have ha:=RJ
 have ad7:=run_call_cas_hit (P:=Tryz.prog) Tryz.func173 (by kernel_rfl) (by kernel_rfl) (by kernel_rfl) .i32 (by kernel_rfl) (y:=1) hc hz
 have Ig:(w.setCell a (.int .i32 1)).cell? a=some (.int .i32 1):=World.cell?_setCell_same w a _ hc
 have X5:=run_convert_to_unsafe (P:=Tryz.prog) (src:=228) (dst:=232) Tryz.underlying228 Tryz.underlying232 (by kernel_rfl) Ig
 go_enter Tryz.func125,Tryz.ntmps125
 go_wp2
 first|go_end0|(simp only [Exit.inBlock,Exit.then];refine bodyPost_ret (results_none rfl _ _ _) rfl ?_)|refine bodyPost_ret (results_none rfl _ _ _) rfl ?_
 go_wp2
 go_end0
 exact ⟨rfl,rfl⟩
set_option maxRecDepth 100000 in
set_option maxHeartbeats 1600000 in
theorem Zu (b off:Nat) (g:FuncId) (cap:Array Value) (w:World) (Q:World->Prop)
  (h0:w.cell? ⟨b,off,none⟩=some (.int .u32 0)) (h1:w.cell? ⟨b,off+1,none⟩=some (.int .i32 0))
  (f1:w.frozen? ⟨b,off+1,none⟩=false) (TW: ∀args w,(callFunc g args).run Tryz.prog w= .ok (.enter g args) w)
  (hg:Calls Tryz.prog g cap (w.setCell ⟨b,off+1,none⟩ (.int .i32 1)) fun e w'=>e= .returned (.tuple #[])/\ Q w')
  (hQ: ∀w',Q w'->(∃x,w'.cell? ⟨b,off,none⟩=some x)/\ w'.cell? ⟨b,off+1,none⟩=some (.int .i32 1)/\ w'.frozen? ⟨b,off,none⟩=false/\ w'.frozen? ⟨b,off+1,none⟩=false):
  Calls Tryz.prog 100 #[.pointer (some ⟨b,off,none⟩),.func (.func g) #[] cap] w fun e w'=>e= .returned (.tuple #[])/\ ∃w1,Q w1/\ w'=(w1.drew.setCell ⟨b,off,none⟩ (.int .u32 1)).setCell ⟨b,off+1,none⟩ (.int .i32 0):=by
 have hl:=run_call_load (P:=Tryz.prog) Tryz.func124 (by kernel_rfl) (by kernel_rfl) (by kernel_rfl) .u32 (by kernel_rfl) (w:=w.setCell ⟨b,off+1,none⟩ (.int .i32 1)) (a:=⟨b,off,none⟩) (x:=0) ((World.cell?_setCell_other _ ⟨b,off+1,none⟩ ⟨b,off,none⟩ _ (by simp)).trans h0)
 have hnot: ∀(x:Bool) (w:World),(Op.unary .not (.bool x)).run Tryz.prog w= .ok (.bool (!x)) w:=fun _ _=>rfl
 go_enter_defers Tryz.func100,Tryz.ntmps100
 go_wp2_with (go_at_call 125;refine (Zt ⟨b,off+1,none⟩ _ (by go_simp) (by go_simp)).mono ?_;rintro e w' ⟨rfl,rfl⟩)
 go_wp2
 rename_i hK
 refine hg.mono ?_
 rintro e w1 ⟨rfl,hq⟩
 obtain ⟨⟨x0,q0⟩,q1,q2,q3⟩:=hQ w1 hq
 refine hK _ _ ?_
 go_wp2
 refine leaves_cons (f:=127) (args:= #[.pointer (some ⟨b,off,none⟩),.bool true]) (by simp) (by simp [go_sem]) ?_
 refine (UH ⟨b,off,none⟩ x0 .returning _ q0 (by simp [q2])).mono ?_
 rintro e u' w'' ⟨rfl,rfl,rfl⟩
 refine leaves_cons (f:=126) (args:= #[.pointer (some ⟨b,off+1,none⟩)]) (by simp [settle]) (by simp [go_sem]) ?_
 refine (RL ⟨b,off+1,none⟩ _ _ ?_ (by simp [q3])).mono ?_
 ·refine (World.cell?_setCell_other _ ⟨b,off,none⟩ ⟨b,off+1,none⟩ _ (by simp)).trans ?_
  rw [World.cell?_drew]
  exact q1
 rintro e u' w'' ⟨rfl,rfl,rfl⟩
 simp [Leaves,settle,results,Tryz.results100]
 exact ⟨w1,hq,rfl⟩
end Go.Proofs.YtlkgabjhkfhgaaaGreat
namespace Go.Ev
open Go.RowKit
theorem I4 {w:World} {b off:Nat} {cs:Array Value} {e:TypeId} {f:Nat×Nat} {v:Value} (h:w.heap[b]? =some (.cells cs e f)):w.setCell ⟨b,off,none⟩ v=w.setRow b (cs.setIfInBounds off v):=by
 unfold World.setCell World.setRow
 congr 1
 apply Array.ext_getElem?
 intro k
 rw [Array.getElem?_modify,Array.getElem?_modify]
 by_cases hk:b=k
 ·subst hk
  rw [if_pos rfl,if_pos rfl,h]
  simp
 ·rw [if_neg hk,if_neg hk]
def ldB:Spec:=fun _ args hp nm k=>match args with
 | [.v (.one (.ptr n off))]=>match hp n with
  |some (.cells cs _)=>match cs[off]? with
   |some (.raw (.int .u32 d))=>k {val:=bC (d !=0),aD:= [n]}
   |_=>False
  |_=>False
 |_=>False
def Up:Spec:=fun _ args hp nm k=>match args with
 | [.v (.one (.ptr n off))]=>match hp n with
  |some (.cells cs _)=>match cs[off]? with
   |some (.raw (.int .i64 d))=>k {val:=fT .i64 d,aD:= [n]}
   |_=>False
  |_=>False
 |_=>False
def LK:Spec:=fun _ args hp nm k=>match args with
 | [.v (.one (.ptr n off)),.v (.one (.raw (.int .i64 y)))]=>match hp n with
  |some (.cells cs e)=>match cs[off]? with
   |some (.raw (.int .i64 x))=>True/\ ∀z,z=IntKind.wrap .i64 (x+y)->k {val:=fT .i64 z,writes:= [(n,.cells (cs.set off (.raw (.int .i64 z))) e)],aD:= [n]}
   |_=>False
  |_=>False
 |_=>False
section
variable {P:Program} {f:FuncId}
theorem pD {ρ:Env} {w:World} {b off:Nat} {cs:List Cell} {e:TypeId} {c:Cell} (hh:w.heap[b]? =some (.cells (cs.map (Cell.af ρ)).toArray e (0,0))) (hc:cs[off]? =some c):w.cell? ⟨b,off,none⟩=some (c.af ρ):=by
 rw [bL hh,List.getElem?_map,hc];rfl
theorem Ga {w:World} {b off:Nat} {cs:Array Value} {e:TypeId} (hh:w.heap[b]? =some (.cells cs e (0,0))):w.frozen? ⟨b,off,none⟩=false:=by
 simp [World.frozen?,hh]
theorem Xg (hr: ∀(a:Addr) (x:Int) (w:World),w.cell? a=some (.int .u32 x)->Calls P f #[.pointer (some a)] w fun e w'=>e= .returned (.bool (x !=0))/\ w'=w):ak P f ldB:=by
 intro X args hp nm k hs
 unfold ldB at hs
 split at hs<;>try (exact hs.elim)
 rename_i n off
 split at hs<;>try (exact hs.elim)
 rename_i cs e he
 split at hs<;>try (exact hs.elim)
 rename_i d hc
 refine ⟨_,⟨fun p fA=>absurd fA (by simp),?_⟩,hs⟩
 intro ay W ρ Kn Γ w _ hok ht hfr hst
 have bN:Γ n=some (.cells cs e):=by rw [ht n (by simp),he]
 obtain ⟨b,hb,hh⟩:=hst.at_ n _ bN
 have ea:([AV.v (.one (.ptr n off))].map (AV.af ρ)).toArray= #[.pointer (some ⟨b,off,none⟩)]:=by
  simp [AV.af,A0.af,Cell.af,addrOf,hb]
 rw [ea]
 refine (hr ⟨b,off,none⟩ d w (pD hh hc)).mono ?_
 rintro e' w' ⟨rfl,rfl⟩
 exact ⟨ρ,rfl,fun _ _=>rfl,trivial,by rw [fM,oI];exact hst⟩
theorem Uq (hr: ∀(a:Addr) (x:Int) (w:World),w.cell? a=some (.int .i64 x)->Calls P f #[.pointer (some a)] w fun e w'=>e= .returned (.int .i64 x)/\ w'=w):ak P f Up:=by
 intro X args hp nm k hs
 unfold Up at hs
 split at hs<;>try (exact hs.elim)
 rename_i n off
 split at hs<;>try (exact hs.elim)
 rename_i cs e he
 split at hs<;>try (exact hs.elim)
 rename_i d hc
 refine ⟨_,⟨fun p fA=>absurd fA (by simp),?_⟩,hs⟩
 intro ay W ρ Kn Γ w _ hok ht hfr hst
 have bN:Γ n=some (.cells cs e):=by rw [ht n (by simp),he]
 obtain ⟨b,hb,hh⟩:=hst.at_ n _ bN
 have ea:([AV.v (.one (.ptr n off))].map (AV.af ρ)).toArray= #[.pointer (some ⟨b,off,none⟩)]:=by
  simp [AV.af,A0.af,Cell.af,addrOf,hb]
 rw [ea]
 refine (hr ⟨b,off,none⟩ d w (pD hh hc)).mono ?_
 rintro e' w' ⟨rfl,rfl⟩
 exact ⟨ρ,rfl,fun _ _=>rfl,trivial,by rw [fM,oI];exact hst⟩
theorem St.cell {ay:iT} {W w:World} {ρ:Env} {Kn:Nat->Prop} {Γ:HP} {n b off:Nat} {cs:List Cell} {e:TypeId} {v:Value} (hst:St ay W ρ Kn Γ w) (bN:Γ n=some (.cells cs e)) (hb:(ρ n).bW=some b)
  (hh:w.heap[b]? =some (.cells (cs.map (Cell.af ρ)).toArray e (0,0))):St ay W ρ Kn (eN Γ n (.cells (cs.set off (.raw v)) e)) (w.setCell ⟨b,off,Option.none⟩ v):=by
 have e1:((cs.map (Cell.af ρ)).toArray.setIfInBounds off v)=((cs.set off (.raw v)).map (Cell.af ρ)).toArray:=by
  rw [List.setIfInBounds_toArray,List.map_set];rfl
 rw [I4 hh,e1]
 refine hst.write bN hb (fun c hc=> ?_) (fun _ h=>by cases h) fun _=>⟨b,hb,by rw [setRow_heap _ _ _ _ _ _ hh]⟩
 rcases List.mem_or_eq_of_mem_set hc with h1|h1
 ·exact (hst.kn n _ bN).2 c h1
 ·subst h1;exact trivial
theorem PF (hr: ∀(a:Addr) (x y:Int) (w:World),w.cell? a=some (.int .i64 x)->w.frozen? a=false->Calls P f #[.pointer (some a),.int .i64 y] w fun e w'=>e= .returned (.int .i64 (IntKind.wrap .i64 (x+y)))/\ w'=w.setCell a (.int .i64 (IntKind.wrap .i64 (x+y)))):ak P f LK:=by
 intro X args hp nm k hs
 unfold LK at hs
 split at hs<;>try (exact hs.elim)
 rename_i n off y
 split at hs<;>try (exact hs.elim)
 rename_i cs e he
 split at hs<;>try (exact hs.elim)
 rename_i x hc
 obtain ⟨_,hk⟩:=hs
 refine ⟨_,⟨fun p fA=> ?_,?_⟩,hk _ rfl⟩
 ·simp only [List.mem_singleton] at fA;subst fA;rw [he];simp
 intro ay W ρ Kn Γ w _ hok ht hfr hst
 have bN:Γ n=some (.cells cs e):=by rw [ht n (by simp),he]
 obtain ⟨b,hb,hh⟩:=hst.at_ n _ bN
 have ea:([AV.v (.one (.ptr n off)),AV.v (.one (.raw (.int .i64 y)))].map (AV.af ρ)).toArray= #[.pointer (some ⟨b,off,none⟩),.int .i64 y]:=by
  simp [AV.af,A0.af,Cell.af,addrOf,hb]
 rw [ea]
 refine (hr ⟨b,off,none⟩ x y w (pD hh hc) (Ga hh)).mono ?_
 rintro e' w' ⟨rfl,rfl⟩
 exact ⟨ρ,rfl,fun _ _=>rfl,trivial,by rw [fM,jW _ _ _ _ _ _ rfl];exact hst.cell bN hb hh⟩
end
def LX (cs:List Cell) (off:Nat):List Cell:=(cs.set off (.raw (.int .u32 1))).set (off+1) (.raw (.int .i32 0))
def Ja (n off N:Nat) (R:AV->AS->Prop) (bh:Env) (v:AV) (st:AS):Prop:=match v with
 | .oG []=>rG (aj st.heap N) bh N (match aj st.heap n with
  |some (.cells cs e)=>match cs[off]?,cs[off+1]? with
   |some (.raw (.int .u32 _)),some (.raw (.int .i32 s))=>ob (decide (s=1)) (R qo {tmps:= [],heap:=(st.heap.set N .gone).set n (.cells (LX cs off) e)})
   |_,_=>False
  |_=>False)
 |_=>False
def Sw (g:FuncId) (ic:eV):eV:=fun ys args heap R=>match args with
 | [.v (.one (.ptr n off)),.v (.one q)]=>match P6 q with
  |some (g',[],cp)=>if g'=g then (match aj heap n with
   |some (.cells cs e)=>match cs[off]?,cs[off+1]? with
    | some (.raw (.int .u32 d)),some (.raw (.int .i32 s))=>ob (decide (d=0)&&decide (s=0)) (∀bh:Env,
      ic ys cp (iB (aj (heap.set n (.cells (cs.set (off+1) (.raw (.int .i32 1))) e))) heap.length++ [.dO bh heap.length]) (Ja n off heap.length R bh))
    |_,_=>False
   |_=>False) else False
  |_=>False
 |_=>False
theorem JK {heap:List aF} {n:Nat} {o:aF} (hn:n<heap.length) (ho:live (some o)=some o):eN (aj heap) n o=aj (heap.set n o):=by
 funext m
 rw [bt,List.getElem?_set]
 unfold eN
 by_cases e:m=n
 ·subst e
  rw [if_pos rfl,if_pos rfl,if_pos hn,ho]
 ·rw [if_neg e,if_neg (Ne.symm e),bt]
theorem Sx {P:Program} {X:Addr->Value->Prop} {f g:FuncId} {ic:eV} (hic:jq P X g ic)
  (hr: ∀(b off:Nat) (cap:Array Value) (w:World) (Q:World->Prop),w.cell? ⟨b,off,none⟩=some (.int .u32 0)->w.cell? ⟨b,off+1,none⟩=some (.int .i32 0)->w.frozen? ⟨b,off+1,none⟩=false->
   (Calls P g cap (w.setCell ⟨b,off+1,none⟩ (.int .i32 1)) fun e w'=>e= .returned (.tuple #[])/\ Q w')->
   (∀w',Q w'->(∃x,w'.cell? ⟨b,off,none⟩=some x)/\ w'.cell? ⟨b,off+1,none⟩=some (.int .i32 1)/\ w'.frozen? ⟨b,off,none⟩=false/\ w'.frozen? ⟨b,off+1,none⟩=false)->
   Calls P f #[.pointer (some ⟨b,off,none⟩),.func (.func g) #[] cap] w fun e w'=>e= .returned (.tuple #[])/\ ∃w1,Q w1/\ w'=(w1.drew.setCell ⟨b,off,none⟩ (.int .u32 1)).setCell ⟨b,off+1,none⟩ (.int .i32 0)):jq P X f (Sw g ic):=by
 intro ys args heap R h hy ay W ρ w hX hargs hst
 unfold Sw at h
 split at h<;>try (exact h.elim)
 rename_i n off q
 split at h<;>try (exact h.elim)
 rename_i g' cp hq
 split at h
 rotate_left
 ·exact h.elim
 rename_i hgg
 subst hgg
 split at h<;>try (exact h.elim)
 rename_i cs e hn
 split at h<;>try (exact h.elim)
 rename_i d s hd hs
 obtain ⟨hds,h⟩:=br h
 simp only [Bool.and_eq_true,decide_eq_true_eq] at hds
 obtain ⟨rfl,rfl⟩:=hds
 obtain ⟨b,hb,hh⟩:=hst.at_ n _ hn
 have hlt:=eo hn
 obtain ⟨Y3,Y4⟩:=xI hq
 have aby:q.ok (· <heap.length):=hargs (.v (.one q)) (by simp)
 obtain ⟨_,k2⟩:=Y4 _ aby
 have rA:=St.cell hst hn hb hh (off:=off+1) (v:= .int .i32 1)
 rw [JK hlt rfl] at rA
 have acO:(heap.set n (.cells (cs.set (off+1) (.raw (.int .i32 1))) e)).length=heap.length:=List.length_set
 obtain ⟨xB,gC,Kw⟩:=rA.pinned
 have hlen:(iB (aj (heap.set n (.cells (cs.set (off+1) (.raw (.int .i32 1))) e))) heap.length++ [aF.dO ρ heap.length]).length=heap.length+1:=by simp [bS]
 have Bc:=hic ys cp _ _ (h ρ) hy ay W xB _ hX (fun x hx=>AV.aT (fun i hi=>by rw [hlen];omega) x (k2 x hx)) (by rw [hlen];exact Kw)
 have aaD:(cp.map (AV.af xB)).toArray=(cp.map (AV.af ρ)).toArray:=by
  congr 1
  exact List.map_congr_left fun x hx=>AV.bH (Kn:=(· <heap.length)) gC x (k2 x hx)
 rw [aaD] at Bc
 have e1:AV.af ρ (.v (.one (.ptr n off)))= .pointer (some ⟨b,off,none⟩):=by simp [AV.af,A0.af,Cell.af,addrOf,hb]
 have e2:AV.af ρ (.v (.one q))= .func (.func g') #[] (cp.map (AV.af ρ)).toArray:=Y3 ρ
 have Ym:([AV.v (.one (.ptr n off)),AV.v (.one q)].map (AV.af ρ)).toArray= #[.pointer (some ⟨b,off,none⟩),.func (.func g') #[] (cp.map (AV.af ρ)).toArray]:=by
  simp only [List.map_cons,List.map_nil,e1,e2]
 rw [Ym]
 have facts: ∀(w1:World) (st:AS) (ρ':Env),Ja n off heap.length R ρ qo st->St ay W ρ' (· <st.heap.length) (aj st.heap) w1-> ∃JU e2 d2,aj st.heap n=some (.cells JU e2)/\ (ρ' n).bW=some b/\ w1.heap[b]? =some (.cells (JU.map (Cell.af ρ')).toArray e2 (0,0))/\ JU[off]? =some (.raw (.int .u32 d2))/\ JU[off+1]? =some (.raw (.int .i32 1))/\ R qo {tmps:= [],heap:=(st.heap.set heap.length .gone).set n (.cells (LX JU off) e2)} :=by
  intro w1 st ρ' hR nk
  unfold Ja at hR
  dsimp only [qo] at hR
  obtain ⟨hp1,hR⟩:=fK hR
  split at hR<;>try (exact hR.elim)
  rename_i JU e2 Kt
  split at hR<;>try (exact hR.elim)
  rename_i d2 s2 Ee hs2
  obtain ⟨h1,hR⟩:=br hR
  have h1:=of_decide_eq_true h1
  subst h1
  obtain ⟨b2,fc,hh2⟩:=nk.at_ n _ Kt
  have pP:ρ' n=ρ n:=(nk.at_ _ _ hp1).2 n hlt
  rw [pP,hb] at fc
  cases fc
  exact ⟨JU,e2,d2,Kt,by rw [pP,hb],hh2,Ee,hs2,hR⟩
 refine (hr b off _ w (fun w1=> ∃st ρ',Ja n off heap.length R ρ qo st/\ St ay W ρ' (· <st.heap.length) (aj st.heap) w1) (pD hh hd) (pD hh hs) (Ga hh) (Bc.mono ?_) ?_).mono ?_
 ·rintro e' w1 ⟨st,ρ',v,rfl,_,hR,nk⟩
  unfold Ja at hR
  split at hR
  ·exact ⟨rfl,st,ρ',hR,nk⟩
  ·exact hR.elim
 ·rintro w1 ⟨st,ρ',hR,nk⟩
  obtain ⟨JU,e2,d2,f1,f2,f3,f4,f5,_⟩:=facts w1 st ρ' hR nk
  exact ⟨⟨_,pD f3 f4⟩,pD f3 f5,Ga f3,Ga f3⟩
 ·rintro e' w' ⟨rfl,w1,⟨st,ρ',hR,nk⟩,rfl⟩
  obtain ⟨JU,e2,d2,f1,f2,f3,f4,f5,aa7⟩:=facts w1 st ρ' hR nk
  have hnN:n≠heap.length:=by omega
  have g1:St ay W ρ' (· <(st.heap.set heap.length .gone).length) (aj (st.heap.set heap.length .gone)) w1.drew:=(nk.drawn (w1.drawn+1) (by omega)).VQ heap.length
  have g2:aj (st.heap.set heap.length .gone) n=some (.cells JU e2):=by
   rw [bt,List.getElem?_set,if_neg (Ne.symm hnN),<- bt];exact f1
  have g3:=St.cell g1 g2 f2 (off:=off) (v:= .int .u32 1) f3
  have g4:eN (aj (st.heap.set heap.length .gone)) n (.cells (JU.set off (.raw (.int .u32 1))) e2) n=some (.cells (JU.set off (.raw (.int .u32 1))) e2):=by simp [eN]
  obtain ⟨b3,hb3,hh3⟩:=g3.at_ n _ g4
  rw [f2] at hb3
  cases hb3
  have g5:=St.cell g3 g4 f2 (off:=off+1) (v:= .int .i32 0) hh3
  refine ⟨_,ρ',qo,rfl,uY _,aa7,?_⟩
  have hl:((st.heap.set heap.length .gone).set n (.cells (LX JU off) e2)).length=(st.heap.set heap.length .gone).length:=List.length_set
  dsimp only
  rw [hl]
  have abm:n<(st.heap.set heap.length .gone).length:=eo g2
  rw [<- JK abm rfl]
  have e5:eN (eN (aj (st.heap.set heap.length .gone)) n (.cells (JU.set off (.raw (.int .u32 1))) e2)) n (.cells ((JU.set off (.raw (.int .u32 1))).set (off+1) (.raw (.int .i32 0))) e2)=eN (aj (st.heap.set heap.length .gone)) n (.cells (LX JU off) e2):=by
   funext m;simp only [eN];split<;>rfl
  rw [e5] at g5
  exact g5
end Go.Ev
