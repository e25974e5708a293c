/- What sorting is by: the models (of this seat's program). -/
import Derived.Test.YtbjfokijjefoeaaGreatTt
noncomputable section
set_option linter.unusedSectionVars false
set_option linter.unusedVariables false
set_option linter.unusedSimpArgs false
namespace Go.Proofs.YtbjfokijjefoeaaGreat
open Go Go.Ev Go.Proofs
def isNaN (x:Int):Bool:=
 (x !=x)
def V1 (_:Int):Prop:=True
def abG (x:Int):Tr Bool false:=
 (.ret (x !=x))
abbrev AR:cC:=⟨(.one yi),(.one Ty.bool),V1,isNaN⟩
theorem Y0:ah Tryz.prog 95 (aj AR):=ah.tr AR abG (fn:=Tryz.f95) ay (ae.nil _) mixed (by kernel_rfl) (av.nil _ _) (fun x=>au.nil) (fun x=>(by kernel_rfl)) fun x Q=>(by kernel_rfl)
def Qk:List (Nat×Ev.Spec):=(95,aj AR):: []
theorem EB:ae Tryz.prog Qk:=ae.add (fn:=Tryz.f95) (by kernel_rfl) Y0 (ae.nil _)
def compare (x:I2):Int:=
 (ai (isNaN x.1) fun y=>
 (ai (isNaN x.2) fun aO=>
 (if (y=true) then
 (if (aO=true) then
 0 else
 (-1)) else
 (if (aO=true) then
 1 else
 (if (x.1<x.2) then
 (-1) else
 (if (x.1>x.2) then
 1 else
 0))))))
def Oc (_:I2):Prop:=True
def Vn (x:I2):Tr Int false:=
 (.fn0 AR x.1 trivial fun y=>
 (.fn0 AR x.2 trivial fun aO=>
 (.nT y
 (.nT aO
 (.ret z0)
 (.ret (-1)))
 (.nT aO
 (.ret z1)
 (.o7 (x.1<x.2)
 (.ret (-1))
 (.o7 (x.1>x.2)
 (.ret z1)
 (.ret z0)))))))
abbrev mI:cC:=⟨(.pair (.one yi) (.one yi)),(.one yi),Oc,compare⟩
theorem Ra:ah Tryz.prog 63 (aj mI):=ah.tr mI Vn (fn:=Tryz.f63) ay EB mixed (by kernel_rfl) (av.nil _ _) (fun x=>au.nil) (fun x=>(by kernel_rfl)) fun x Q=>(by kernel_rfl)
def ID:List (Nat×Ev.Spec):=(63,aj mI)::Qk
theorem rR:ae Tryz.prog ID:=ae.add (fn:=Tryz.f63) (by kernel_rfl) Ra EB
def Ob (x:(List Int)):aB:=⟨[],⟨bB 18 0 [(3,.v (.one (.i .i64))),(6,.v (.one (.full 0))),(7,.v (.one (.i .i64))),(8,.v (.one (.i .i64)))],[.row yi 0],0,none,[],[0,1,3],[2],[.i],[.i 0,.i (x.length:Int),.l yi x]⟩,[⟨.ret,.ret,⟨bB 18 0 [(2,.v (.one (.i .i64)))],[],0,none,[],[],[0],[.i],[]⟩⟩,⟨(.exit 0),.normal,⟨bB 18 0 [(3,.v (.one (.i .i64)))],[],0,none,[],[0],[],[],[.i 0]⟩⟩]⟩
def cM (x:(List Int)) (s:Int):Int⊕(Int⊕Unit):=
 (if (s<(x.length:Int)) then
 (if (((x.getD s.toNat 0) !=0)=true) then
 (Sum.inr (Sum.inl (x.getD s.toNat 0))) else
 (Sum.inl (az (s+1)))) else
 (Sum.inr (Sum.inr (()))))
def dP (x:(List Int)) (s:Int):Prop:=
 ((s<(x.length:Int))->
 (((0<=s)/\ (s<(x.length:Int)))/\
 ((s.toNat<x.length)/\
 (s.toNat<x.length))))
def Ge (x:(List Int)) (s:Int):Tr (Int⊕(Int⊕Unit)) true:=
 (.i10 (s<(nL x))
 (.gK s x
 (.nT ((gI x s) !=z0)
 (.ret (.inr (Sum.inl (gI x s))))
 (.ret (.inl (w1 s)))))
 (.ret (.inr (Sum.inr (())))))
def TN (x:(List Int)):Int:=
 (ai (run (cM x) 0) fun r=>
 (Sum.elim (fun a=>
 a) (fun b=>
 0) r))
def CL (x:(List Int)):Prop:=
 (Term (cM x) (dP x) 0)
def aa9 (x:(List Int)):Tr Int true:=
 (aB.lp (Ob x) (Ge x) z0 fun r=>
 (.xW r (fun a=>
 (.ret a)) (fun b=>
 (.ret z0))))
abbrev Fp:cC:=⟨(.one (Ty.sl yi)),(.one yi),CL,TN⟩
theorem X5:ah Tryz.prog 62 (aj Fp):=ah.tr Fp aa9 (fn:=Tryz.f62) ay rR mixed (by kernel_rfl) (av.nil _ _) (fun x=>(au.tr ay (ae.bS rR (av.nil _ _)) mixed 0 (Ob x) (Ge x) au.nil (by kernel_rfl) fun g s Q=>(by kernel_rfl))) (fun x=>(by kernel_rfl)) fun x Q=>(by kernel_rfl)
def Qg:List (Nat×Ev.Spec):=(62,aj Fp)::ID
theorem Ey:ae Tryz.prog Qg:=ae.add (fn:=Tryz.f62) (by kernel_rfl) X5 rR
def byM (x:(List (List Int×List I6×I2)×I2)):Int:=
 (ai (compare ((x.1.getD x.2.2.toNat ([],[],0,0)).2.2.2,(x.1.getD x.2.1.toNat ([],[],0,0)).2.2.2)) fun y=>
 (ai (compare ((x.1.getD x.2.2.toNat ([],[],0,0)).2.2.1,(x.1.getD x.2.1.toNat ([],[],0,0)).2.2.1)) fun aO=>
 (ai (compare x.2) fun y_2=>
 (ai (TN [y,aO,y_2]) fun bf=>
 bf))))
def Ah (x:(List (List Int×List I6×I2)×I2)):Prop:=
 (((0<=x.2.1)/\ (x.2.1<(x.1.length:Int)))/\
 ((x.2.1.toNat<x.1.length)/\
 ((x.2.1.toNat<x.1.length)/\
 (((0<=x.2.2)/\ (x.2.2<(x.1.length:Int)))/\
 ((x.2.2.toNat<x.1.length)/\
 ((x.2.2.toNat<x.1.length)/\
 (aA (compare ((x.1.getD x.2.2.toNat ([],[],0,0)).2.2.2,(x.1.getD x.2.1.toNat ([],[],0,0)).2.2.2)) fun y=>
 (aA (compare ((x.1.getD x.2.2.toNat ([],[],0,0)).2.2.1,(x.1.getD x.2.1.toNat ([],[],0,0)).2.2.1)) fun aO=>
 (aA (compare x.2) fun y_2=>
 (CL [y,aO,y_2]))))))))))
def afi (x:(List (List Int×List I6×I2)×I2)):Tr Int true:=
 (.gK x.2.1 x.1
 (.gK x.2.2 x.1
 (.fn0 mI ((gT x.1 x.2.2 ([],[],iR)).2.2.2,(gT x.1 x.2.1 ([],[],iR)).2.2.2) trivial fun y=>
 (.fn0 mI ((gT x.1 x.2.2 ([],[],iR)).2.2.1,(gT x.1 x.2.1 ([],[],iR)).2.2.1) trivial fun aO=>
 (.fn0 mI x.2 trivial fun y_2=>
 (.fn Fp [y,aO,y_2] fun bf=>
 (.ret bf)))))))
abbrev TM:cC:=⟨(.pair (.one (Ty.sl (Ty.prod (Ty.sl yi) (Ty.prod (Ty.sl aV) aS)))) (.pair (.one yi) (.one yi))),(.one yi),Ah,byM⟩
theorem adE:ah Tryz.prog 40 (aj TM):=ah.tr TM afi (fn:=Tryz.f40) ay Ey mixed (by kernel_rfl) (av.nil _ _) (fun x=>au.nil) (fun x=>(by kernel_rfl)) fun x Q=>(by kernel_rfl)
def Tf:List (Nat×Ev.Spec):=(40,aj TM)::Qg
theorem mW:ae Tryz.prog Tf:=ae.add (fn:=Tryz.f40) (by kernel_rfl) adE Ey
abbrev adG:qw:= .mv 40 false (.sl (.prod (.sl (.int .i64)) (.prod (.sl (.prod (.prod (.int .i64) (.int .i64)) (.prod (.prod (.int .i64) (.int .i64)) (.prod (.int .i64) (.int .i64))))) (.prod (.int .i64) (.int .i64)))))
abbrev RT:Type:=List (List Int×List I6×I2)
end Go.Proofs.YtbjfokijjefoeaaGreat
namespace Go.Proofs.YtbjfokijjefoeaaGreat
open Go Go.Ev Go.Proofs
def Kz (x:(List Int×Int×Int×List (List Int×List I6×I2))):aB:=⟨[.env],⟨bB 53 0 [(0,.v (.one (.full 0))),(1,.v (.one (.i .i64))),(2,.v (.one (.i .i64))),(3,.v (.one (.mv 40 false [.full 1]))),(8,.v (.one (.i .i64))),(9,.v (.one (.i .i64)))],[.row yi 1,.row (Ty.prod (Ty.sl yi) (Ty.prod (Ty.sl aV) aS)) 0,.gU 2],3,none,[6],[0,1,5],[4,2,3],[(.l yi),.i,.i],[.i x.2.1,.i x.2.2.1,.l (Ty.prod (Ty.sl yi) (Ty.prod (Ty.sl aV) aS)) x.2.2.2]⟩,[⟨(.exit 2),.normal,⟨bB 53 0 [(0,.v (.one (.full 0))),(1,.v (.one (.i .i64))),(2,.v (.one (.i .i64))),(3,.v (.one (.mv 40 false [.full 1]))),(8,.v (.one (.i .i64)))],[.row yi 1,.row (Ty.prod (Ty.sl yi) (Ty.prod (Ty.sl aV) aS)) 0,.gU 2],3,none,[5],[0,1,4],[3,2],[(.l yi),.i],[.i x.2.1,.i x.2.2.1,.l (Ty.prod (Ty.sl yi) (Ty.prod (Ty.sl aV) aS)) x.2.2.2]⟩⟩]⟩
def dm (x:(List Int×Int×Int×List (List Int×List I6×I2))) (s:(List Int×I2)):(List Int×I2)⊕(List Int×Int):=
 (if (s.2.2>x.2.1) then
 (ai (byM (x.2.2.2,(s.1.getD s.2.2.toNat 0),(s.1.getD (Int.toNat (az (s.2.2- 1))) 0))) fun y=>
 (if (y<0) then
 (ai (List.set s.1 s.2.2.toNat (s.1.getD (Int.toNat (az (s.2.2- 1))) 0)) fun aO=>
 (ai (List.set aO (Int.toNat (az (s.2.2- 1))) (s.1.getD s.2.2.toNat 0)) fun y_2=>
 (Sum.inl (y_2,s.2.1,(az (s.2.2- 1)))))) else
 (Sum.inr ((s.1,s.2.1))))) else
 (Sum.inr ((s.1,s.2.1))))
def iB (x:(List Int×Int×Int×List (List Int×List I6×I2))) (s:(List Int×I2)):Prop:=
 ((s.2.2>x.2.1)->
 (((0<=s.2.2)/\ (s.2.2<(s.1.length:Int)))/\
 ((s.2.2.toNat<s.1.length)/\
 ((s.2.2.toNat<s.1.length)/\
 (((0<=(az (s.2.2- 1)))/\ ((az (s.2.2- 1))<(s.1.length:Int)))/\
 (((Int.toNat (az (s.2.2- 1)))<s.1.length)/\
 (((Int.toNat (az (s.2.2- 1)))<s.1.length)/\
 ((Ah (x.2.2.2,(s.1.getD s.2.2.toNat 0),(s.1.getD (Int.toNat (az (s.2.2- 1))) 0)))/\
 aA (byM (x.2.2.2,(s.1.getD s.2.2.toNat 0),(s.1.getD (Int.toNat (az (s.2.2- 1))) 0))) fun y=>
 ((y<0)->
 (((0<=(az (s.2.2- 1)))/\ ((az (s.2.2- 1))<(s.1.length:Int)))/\
 (((Int.toNat (az (s.2.2- 1)))<s.1.length)/\
 (((Int.toNat (az (s.2.2- 1)))<s.1.length)/\
 (((0<=s.2.2)/\ (s.2.2<(s.1.length:Int)))/\
 ((s.2.2.toNat<s.1.length)/\
 ((s.2.2.toNat<s.1.length)/\
 (((0<=s.2.2)/\ (s.2.2<(s.1.length:Int)))/\
 ((s.2.2.toNat<s.1.length)/\
 ((s.2.2.toNat<s.1.length)/\
 (aA (List.set s.1 s.2.2.toNat (s.1.getD (Int.toNat (az (s.2.2- 1))) 0)) fun aO=>
 (((0<=(az (s.2.2- 1)))/\ ((az (s.2.2- 1))<(aO.length:Int)))/\
 (((Int.toNat (az (s.2.2- 1)))<aO.length)/\
 ((Int.toNat (az (s.2.2- 1)))<aO.length))))))))))))))))))))))
def DU (x:(List Int×Int×Int×List (List Int×List I6×I2))) (s:(List Int×I2)):Tr ((List Int×I2)⊕(List Int×Int)) true:=
 (.i10 (s.2.2>x.2.1)
 (.gK s.2.2 s.1
 (.gK (wm s.2.2) s.1
 (.fn TM (x.2.2.2,(gI s.1 s.2.2),(gI s.1 (wm s.2.2))) fun y=>
 (.i10 (y<z0)
 (.gK (wm s.2.2) s.1
 (.gK s.2.2 s.1
 (.gK s.2.2 s.1
 (.lt (List.set s.1 (tN s.2.2) (gI s.1 (wm s.2.2))) fun aO=>
 (.gK (wm s.2.2) aO
 (.lt (List.set aO (tN (wm s.2.2)) (gI s.1 s.2.2)) fun y_2=>
 (.ret (.inl (y_2,s.2.1,(wm s.2.2))))))))))
 (.ret (.inr ((s.1,s.2.1))))))))
 (.ret (.inr ((s.1,s.2.1)))))
def Ky (x:(List Int×Int×Int×List (List Int×List I6×I2))):aB:=⟨[.env],⟨bB 53 0 [(0,.v (.one (.full 0))),(1,.v (.one (.i .i64))),(2,.v (.one (.i .i64))),(3,.v (.one (.mv 40 false [.full 1]))),(8,.v (.one (.i .i64)))],[.row yi 1,.row (Ty.prod (Ty.sl yi) (Ty.prod (Ty.sl aV) aS)) 0,.gU 2],3,none,[5],[0,1,4],[3,2],[(.l yi),.i],[.i x.2.1,.i x.2.2.1,.l (Ty.prod (Ty.sl yi) (Ty.prod (Ty.sl aV) aS)) x.2.2.2]⟩,[⟨(.exit 0),.normal,⟨bB 53 0 [],[.row yi 1,.row (Ty.prod (Ty.sl yi) (Ty.prod (Ty.sl aV) aS)) 0,.gU 2],3,none,[2],[1],[0],[(.l yi)],[.l (Ty.prod (Ty.sl yi) (Ty.prod (Ty.sl aV) aS)) x.2.2.2]⟩⟩]⟩
def eD (x:(List Int×Int×Int×List (List Int×List I6×I2))) (s:(List Int×Int)):(List Int×Int)⊕(List Int):=
 (if (s.2<x.2.2.1) then
 (ai (run (dm x) (s.1,s.2,s.2)) fun r=>
 (Sum.inl (r.1,(az (r.2+1))))) else
 (Sum.inr (s.1)))
def jN (x:(List Int×Int×Int×List (List Int×List I6×I2))) (s:(List Int×Int)):Prop:=
 ((s.2<x.2.2.1)->
 (Term (dm x) (iB x) (s.1,s.2,s.2)))
def DT (x:(List Int×Int×Int×List (List Int×List I6×I2))) (s:(List Int×Int)):Tr ((List Int×Int)⊕(List Int)) true:=
 (.i10 (s.2<x.2.2.1)
 (aB.lp (Kz x) (DU x) (s.1,s.2,s.2) fun r=>
 (.ret (.inl (r.1,(w1 r.2)))))
 (.ret (.inr (s.1))))
def MS (x:(List Int×Int×Int×List (List Int×List I6×I2))):(Bool×List Int×Bool×Bool×Bool):=
 (ai (run (eD x) (x.1,(az (x.2.1+1)))) fun r=>
 (false,r,false,false,false))
def AQ (x:(List Int×Int×Int×List (List Int×List I6×I2))):Prop:=
 (Term (eD x) (jN x) (x.1,(az (x.2.1+1)))/\
 aA (run (eD x) (x.1,(az (x.2.1+1)))) fun r=>
 (r.length=x.1.length))
def aed (x:(List Int×Int×Int×List (List Int×List I6×I2))):Tr (Bool×List Int×Bool×Bool×Bool) true:=
 (aB.lp (Ky x) (DT x) (x.1,(w1 x.2.1)) fun r=>
 (.pn 0 2
 (.og ((decide (r.length=x.1.length))&&true) (r.length=x.1.length) (fun h=>(cX (decide_eq_true h) rfl))
 (.ret (false,r,false,false,false)))))
abbrev MT:FnW:=⟨(.pair (.row yi) (.pair (.val (.one yi)) (.pair (.val (.one yi)) (.val adG)))),.none,AQ,MS⟩
theorem abD:ah Tryz.prog 85 (lq MT):=ah.trW MT aed (fn:=Tryz.f85) ay mW mixed (by kernel_rfl) (av.nil _ _) (fun x=>(au.tr ay (ae.bS mW (av.nil _ _)) mixed 0 (Ky x) (DT x) (au.tr ay (ae.bS mW (av.nil _ _)) mixed 2 (Kz x) (DU x) au.nil (by kernel_rfl) fun g s Q=>(by kernel_rfl)) (by kernel_rfl) fun g s Q=>(by kernel_rfl))) (fun x=>(by kernel_rfl)) fun x r0 Q=>(by kernel_rfl)
def UH:List (Nat×Ev.Spec):=(85,lq MT)::Tf
theorem IE:ae Tryz.prog UH:=ae.add (fn:=Tryz.f85) (by kernel_rfl) abD mW
abbrev ym:ByteArray:=(ByteArray.mk (List.toArray (([(OfNat.ofNat 0),(OfNat.ofNat 1),(OfNat.ofNat 2),(OfNat.ofNat 2),(OfNat.ofNat 3),(OfNat.ofNat 3),(OfNat.ofNat 3),(OfNat.ofNat 3),(OfNat.ofNat 4),(OfNat.ofNat 4),(OfNat.ofNat 4),(OfNat.ofNat 4),(OfNat.ofNat 4),(OfNat.ofNat 4),(OfNat.ofNat 4),(OfNat.ofNat 4),(OfNat.ofNat 5),(OfNat.ofNat 5),(OfNat.ofNat 5),(OfNat.ofNat 5),(OfNat.ofNat 5),(OfNat.ofNat 5),(OfNat.ofNat 5),(OfNat.ofNat 5),(OfNat.ofNat 5),(OfNat.ofNat 5),(OfNat.ofNat 5),(OfNat.ofNat 5),(OfNat.ofNat 5),(OfNat.ofNat 5),(OfNat.ofNat 5),(OfNat.ofNat 5),(OfNat.ofNat 6),(OfNat.ofNat 6),(OfNat.ofNat 6),(OfNat.ofNat 6),(OfNat.ofNat 6),(OfNat.ofNat 6),(OfNat.ofNat 6),(OfNat.ofNat 6),(OfNat.ofNat 6),(OfNat.ofNat 6),(OfNat.ofNat 6),(OfNat.ofNat 6),(OfNat.ofNat 6),(OfNat.ofNat 6),(OfNat.ofNat 6),(OfNat.ofNat 6),(OfNat.ofNat 6),(OfNat.ofNat 6),(OfNat.ofNat 6),(OfNat.ofNat 6),(OfNat.ofNat 6),(OfNat.ofNat 6),(OfNat.ofNat 6),(OfNat.ofNat 6),(OfNat.ofNat 6),(OfNat.ofNat 6),(OfNat.ofNat 6),(OfNat.ofNat 6),(OfNat.ofNat 6),(OfNat.ofNat 6),(OfNat.ofNat 6),(OfNat.ofNat 6)]++ [(OfNat.ofNat 7),(OfNat.ofNat 7),(OfNat.ofNat 7),(OfNat.ofNat 7),(OfNat.ofNat 7),(OfNat.ofNat 7),(OfNat.ofNat 7),(OfNat.ofNat 7),(OfNat.ofNat 7),(OfNat.ofNat 7),(OfNat.ofNat 7),(OfNat.ofNat 7),(OfNat.ofNat 7),(OfNat.ofNat 7),(OfNat.ofNat 7),(OfNat.ofNat 7),(OfNat.ofNat 7),(OfNat.ofNat 7),(OfNat.ofNat 7),(OfNat.ofNat 7),(OfNat.ofNat 7),(OfNat.ofNat 7),(OfNat.ofNat 7),(OfNat.ofNat 7),(OfNat.ofNat 7),(OfNat.ofNat 7),(OfNat.ofNat 7),(OfNat.ofNat 7),(OfNat.ofNat 7),(OfNat.ofNat 7),(OfNat.ofNat 7),(OfNat.ofNat 7),(OfNat.ofNat 7),(OfNat.ofNat 7),(OfNat.ofNat 7),(OfNat.ofNat 7),(OfNat.ofNat 7),(OfNat.ofNat 7),(OfNat.ofNat 7),(OfNat.ofNat 7),(OfNat.ofNat 7),(OfNat.ofNat 7),(OfNat.ofNat 7),(OfNat.ofNat 7),(OfNat.ofNat 7),(OfNat.ofNat 7),(OfNat.ofNat 7),(OfNat.ofNat 7),(OfNat.ofNat 7),(OfNat.ofNat 7),(OfNat.ofNat 7),(OfNat.ofNat 7),(OfNat.ofNat 7),(OfNat.ofNat 7),(OfNat.ofNat 7),(OfNat.ofNat 7),(OfNat.ofNat 7),(OfNat.ofNat 7),(OfNat.ofNat 7),(OfNat.ofNat 7),(OfNat.ofNat 7),(OfNat.ofNat 7),(OfNat.ofNat 7),(OfNat.ofNat 7)])++([(OfNat.ofNat 8),(OfNat.ofNat 8),(OfNat.ofNat 8),(OfNat.ofNat 8),(OfNat.ofNat 8),(OfNat.ofNat 8),(OfNat.ofNat 8),(OfNat.ofNat 8),(OfNat.ofNat 8),(OfNat.ofNat 8),(OfNat.ofNat 8),(OfNat.ofNat 8),(OfNat.ofNat 8),(OfNat.ofNat 8),(OfNat.ofNat 8),(OfNat.ofNat 8),(OfNat.ofNat 8),(OfNat.ofNat 8),(OfNat.ofNat 8),(OfNat.ofNat 8),(OfNat.ofNat 8),(OfNat.ofNat 8),(OfNat.ofNat 8),(OfNat.ofNat 8),(OfNat.ofNat 8),(OfNat.ofNat 8),(OfNat.ofNat 8),(OfNat.ofNat 8),(OfNat.ofNat 8),(OfNat.ofNat 8),(OfNat.ofNat 8),(OfNat.ofNat 8),(OfNat.ofNat 8),(OfNat.ofNat 8),(OfNat.ofNat 8),(OfNat.ofNat 8),(OfNat.ofNat 8),(OfNat.ofNat 8),(OfNat.ofNat 8),(OfNat.ofNat 8),(OfNat.ofNat 8),(OfNat.ofNat 8),(OfNat.ofNat 8),(OfNat.ofNat 8),(OfNat.ofNat 8),(OfNat.ofNat 8),(OfNat.ofNat 8),(OfNat.ofNat 8),(OfNat.ofNat 8),(OfNat.ofNat 8),(OfNat.ofNat 8),(OfNat.ofNat 8),(OfNat.ofNat 8),(OfNat.ofNat 8),(OfNat.ofNat 8),(OfNat.ofNat 8),(OfNat.ofNat 8),(OfNat.ofNat 8),(OfNat.ofNat 8),(OfNat.ofNat 8),(OfNat.ofNat 8),(OfNat.ofNat 8),(OfNat.ofNat 8),(OfNat.ofNat 8)]++ [(OfNat.ofNat 8),(OfNat.ofNat 8),(OfNat.ofNat 8),(OfNat.ofNat 8),(OfNat.ofNat 8),(OfNat.ofNat 8),(OfNat.ofNat 8),(OfNat.ofNat 8),(OfNat.ofNat 8),(OfNat.ofNat 8),(OfNat.ofNat 8),(OfNat.ofNat 8),(OfNat.ofNat 8),(OfNat.ofNat 8),(OfNat.ofNat 8),(OfNat.ofNat 8),(OfNat.ofNat 8),(OfNat.ofNat 8),(OfNat.ofNat 8),(OfNat.ofNat 8),(OfNat.ofNat 8),(OfNat.ofNat 8),(OfNat.ofNat 8),(OfNat.ofNat 8),(OfNat.ofNat 8),(OfNat.ofNat 8),(OfNat.ofNat 8),(OfNat.ofNat 8),(OfNat.ofNat 8),(OfNat.ofNat 8),(OfNat.ofNat 8),(OfNat.ofNat 8),(OfNat.ofNat 8),(OfNat.ofNat 8),(OfNat.ofNat 8),(OfNat.ofNat 8),(OfNat.ofNat 8),(OfNat.ofNat 8),(OfNat.ofNat 8),(OfNat.ofNat 8),(OfNat.ofNat 8),(OfNat.ofNat 8),(OfNat.ofNat 8),(OfNat.ofNat 8),(OfNat.ofNat 8),(OfNat.ofNat 8),(OfNat.ofNat 8),(OfNat.ofNat 8),(OfNat.ofNat 8),(OfNat.ofNat 8),(OfNat.ofNat 8),(OfNat.ofNat 8),(OfNat.ofNat 8),(OfNat.ofNat 8),(OfNat.ofNat 8),(OfNat.ofNat 8),(OfNat.ofNat 8),(OfNat.ofNat 8),(OfNat.ofNat 8),(OfNat.ofNat 8),(OfNat.ofNat 8),(OfNat.ofNat 8),(OfNat.ofNat 8),(OfNat.ofNat 8)]))))
def Y7 (x:Int):Int:=
 (if (x>=4294967296) then
 (if ((Int.fdiv x 4294967296)>=65536) then
 (if ((Int.fdiv (Int.fdiv x 4294967296) 65536)>=256) then
 (az (56+(az (((UInt8.toNat (ByteArray.get! ym (Int.toNat (IntKind.wrap IntKind.u8 (Int.fdiv (Int.fdiv (Int.fdiv x 4294967296) 65536) 256))))):Nat):Int)))) else
 (az (48+(az (((UInt8.toNat (ByteArray.get! ym (Int.toNat (IntKind.wrap IntKind.u8 (Int.fdiv (Int.fdiv x 4294967296) 65536))))):Nat):Int))))) else
 (if ((Int.fdiv x 4294967296)>=256) then
 (az (40+(az (((UInt8.toNat (ByteArray.get! ym (Int.toNat (IntKind.wrap IntKind.u8 (Int.fdiv (Int.fdiv x 4294967296) 256))))):Nat):Int)))) else
 (az (32+(az (((UInt8.toNat (ByteArray.get! ym (Int.toNat (IntKind.wrap IntKind.u8 (Int.fdiv x 4294967296))))):Nat):Int)))))) else
 (if (x>=65536) then
 (if ((Int.fdiv x 65536)>=256) then
 (az (24+(az (((UInt8.toNat (ByteArray.get! ym (Int.toNat (IntKind.wrap IntKind.u8 (Int.fdiv (Int.fdiv x 65536) 256))))):Nat):Int)))) else
 (az (16+(az (((UInt8.toNat (ByteArray.get! ym (Int.toNat (IntKind.wrap IntKind.u8 (Int.fdiv x 65536))))):Nat):Int))))) else
 (if (x>=256) then
 (az (8+(az (((UInt8.toNat (ByteArray.get! ym (Int.toNat (IntKind.wrap IntKind.u8 (Int.fdiv x 256))))):Nat):Int)))) else
 (az (0+(az (((UInt8.toNat (ByteArray.get! ym (Int.toNat (IntKind.wrap IntKind.u8 x)))):Nat):Int)))))))
def tE (x:Int):Prop:=
 (((x>=4294967296)->
 ((((Int.fdiv x 4294967296)>=65536)->
 ((((Int.fdiv (Int.fdiv x 4294967296) 65536)>=256)->
 ((0<=(IntKind.wrap IntKind.u8 (Int.fdiv (Int.fdiv (Int.fdiv x 4294967296) 65536) 256)))/\ ((IntKind.wrap IntKind.u8 (Int.fdiv (Int.fdiv (Int.fdiv x 4294967296) 65536) 256))<256)))/\
 (¬((Int.fdiv (Int.fdiv x 4294967296) 65536)>=256)->
 ((0<=(IntKind.wrap IntKind.u8 (Int.fdiv (Int.fdiv x 4294967296) 65536)))/\ ((IntKind.wrap IntKind.u8 (Int.fdiv (Int.fdiv x 4294967296) 65536))<256)))))/\
 (¬((Int.fdiv x 4294967296)>=65536)->
 ((((Int.fdiv x 4294967296)>=256)->
 ((0<=(IntKind.wrap IntKind.u8 (Int.fdiv (Int.fdiv x 4294967296) 256)))/\ ((IntKind.wrap IntKind.u8 (Int.fdiv (Int.fdiv x 4294967296) 256))<256)))/\
 (¬((Int.fdiv x 4294967296)>=256)->
 ((0<=(IntKind.wrap IntKind.u8 (Int.fdiv x 4294967296)))/\ ((IntKind.wrap IntKind.u8 (Int.fdiv x 4294967296))<256)))))))/\
 (¬(x>=4294967296)->
 (((x>=65536)->
 ((((Int.fdiv x 65536)>=256)->
 ((0<=(IntKind.wrap IntKind.u8 (Int.fdiv (Int.fdiv x 65536) 256)))/\ ((IntKind.wrap IntKind.u8 (Int.fdiv (Int.fdiv x 65536) 256))<256)))/\
 (¬((Int.fdiv x 65536)>=256)->
 ((0<=(IntKind.wrap IntKind.u8 (Int.fdiv x 65536)))/\ ((IntKind.wrap IntKind.u8 (Int.fdiv x 65536))<256)))))/\
 (¬(x>=65536)->
 (((x>=256)->
 ((0<=(IntKind.wrap IntKind.u8 (Int.fdiv x 256)))/\ ((IntKind.wrap IntKind.u8 (Int.fdiv x 256))<256)))/\
 (¬(x>=256)->
 ((0<=(IntKind.wrap IntKind.u8 x))/\ ((IntKind.wrap IntKind.u8 x)<256))))))))
def Y8 (x:Int):Tr Int true:=
 (.i11 (x>=4294967296)
 (.i11 ((Int.fdiv x 4294967296)>=65536)
 (.i11 ((Int.fdiv (Int.fdiv x 4294967296) 65536)>=256)
 (.oR (IntKind.wrap IntKind.u8 (Int.fdiv (Int.fdiv (Int.fdiv x 4294967296) 65536) 256)) 256
 (.ret (az (56+(az (((UInt8.toNat (ByteArray.get! ym (tN (IntKind.wrap IntKind.u8 (Int.fdiv (Int.fdiv (Int.fdiv x 4294967296) 65536) 256))))):Nat):Int))))))
 (.oR (IntKind.wrap IntKind.u8 (Int.fdiv (Int.fdiv x 4294967296) 65536)) 256
 (.ret (az (48+(az (((UInt8.toNat (ByteArray.get! ym (tN (IntKind.wrap IntKind.u8 (Int.fdiv (Int.fdiv x 4294967296) 65536))))):Nat):Int)))))))
 (.i11 ((Int.fdiv x 4294967296)>=256)
 (.oR (IntKind.wrap IntKind.u8 (Int.fdiv (Int.fdiv x 4294967296) 256)) 256
 (.ret (az (40+(az (((UInt8.toNat (ByteArray.get! ym (tN (IntKind.wrap IntKind.u8 (Int.fdiv (Int.fdiv x 4294967296) 256))))):Nat):Int))))))
 (.oR (IntKind.wrap IntKind.u8 (Int.fdiv x 4294967296)) 256
 (.ret (az (32+(az (((UInt8.toNat (ByteArray.get! ym (tN (IntKind.wrap IntKind.u8 (Int.fdiv x 4294967296))))):Nat):Int))))))))
 (.i11 (x>=65536)
 (.i11 ((Int.fdiv x 65536)>=256)
 (.oR (IntKind.wrap IntKind.u8 (Int.fdiv (Int.fdiv x 65536) 256)) 256
 (.ret (az (24+(az (((UInt8.toNat (ByteArray.get! ym (tN (IntKind.wrap IntKind.u8 (Int.fdiv (Int.fdiv x 65536) 256))))):Nat):Int))))))
 (.oR (IntKind.wrap IntKind.u8 (Int.fdiv x 65536)) 256
 (.ret (az (16+(az (((UInt8.toNat (ByteArray.get! ym (tN (IntKind.wrap IntKind.u8 (Int.fdiv x 65536))))):Nat):Int)))))))
 (.i11 (x>=256)
 (.oR (IntKind.wrap IntKind.u8 (Int.fdiv x 256)) 256
 (.ret (az (8+(az (((UInt8.toNat (ByteArray.get! ym (tN (IntKind.wrap IntKind.u8 (Int.fdiv x 256))))):Nat):Int))))))
 (.oR (IntKind.wrap IntKind.u8 x) 256
 (.ret (az (z0+(az (((UInt8.toNat (ByteArray.get! ym (tN (IntKind.wrap IntKind.u8 x)))):Nat):Int)))))))))
abbrev AW:cC:=⟨(.one (Ty.int IntKind.u64)),(.one yi),tE,Y7⟩
theorem V7:ah Tryz.prog 94 (aj AW):=ah.tr AW Y8 (fn:=Tryz.f94) ay IE mixed (by kernel_rfl) (av.nil _ _) (fun x=>au.nil) (fun x=>(by kernel_rfl)) fun x Q=>(by kernel_rfl)
def LM:List (Nat×Ev.Spec):=(94,aj AW)::UH
theorem B2:ae Tryz.prog LM:=ae.add (fn:=Tryz.f94) (by kernel_rfl) V7 IE
def aei (x:Int):Int:=
 (ai (Y7 x) fun y=>
 y)
def OU (x:Int):Prop:=
 (tE x)
def aej (x:Int):Tr Int true:=
 (.fn AW x fun y=>
 (.ret y))
abbrev MX:cC:=⟨(.one (Ty.int IntKind.u64)),(.one yi),OU,aei⟩
theorem abK:ah Tryz.prog 61 (aj MX):=ah.tr MX aej (fn:=Tryz.f61) ay B2 mixed (by kernel_rfl) (av.nil _ _) (fun x=>au.nil) (fun x=>(by kernel_rfl)) fun x Q=>(by kernel_rfl)
def UL:List (Nat×Ev.Spec):=(61,aj MX)::LM
theorem zU:ae Tryz.prog UL:=ae.add (fn:=Tryz.f61) (by kernel_rfl) abK B2
def Zy (x:(List Int×Int×Int×Int×List (List Int×List I6×I2))):(Bool×List Int×Bool×Bool×Bool×Bool):=
 (if ((az (x.2.2.1- x.2.1))<=12) then
 (ai (MS (x.1,x.2.1,x.2.2.1,x.2.2.2.2)) fun y=>
 (false,y.2.1,false,false,false,false)) else
 (if ((x.2.2.2.1==0)=true) then
 default else
 default))
def Hv (x:(List Int×Int×Int×Int×List (List Int×List I6×I2))):Prop:=
 ((((az (x.2.2.1- x.2.1))<=12)->
 ((AQ (x.1,x.2.1,x.2.2.1,x.2.2.2.2))/\
 aA (MS (x.1,x.2.1,x.2.2.1,x.2.2.2.2)) fun y=>
 (y.2.1.length=x.1.length)))/\
 (¬((az (x.2.2.1- x.2.1))<=12)->
 ((((x.2.2.2.1==0)=true)->
 False)/\
 (¬((x.2.2.2.1==0)=true)->
 False))))
def aey (x:(List Int×Int×Int×Int×List (List Int×List I6×I2))):Tr (Bool×List Int×Bool×Bool×Bool×Bool) true:=
 (.i11 ((az (x.2.2.1- x.2.1))<=12)
 (.fnW MT (x.1,x.2.1,x.2.2.1,x.2.2.2.2) fun y=>
 (.pn 0 2
 (.og ((decide (y.2.1.length=x.1.length))&&true) (y.2.1.length=x.1.length) (fun h=>(cX (decide_eq_true h) rfl))
 (.ret (false,y.2.1,false,false,false,false)))))
 (.b11 (x.2.2.2.1==z0)
 (.og false False False.elim (.ret default))
 (.og false False False.elim (.ret default))))
abbrev Ni:FnW:=⟨(.pair (.row yi) (.pair (.val (.one yi)) (.pair (.val (.one yi)) (.pair (.val (.one yi)) (.val adG))))),.none,Hv,Zy⟩
theorem ab3:ah Tryz.prog 60 (lq Ni):=ah.trW Ni aey (fn:=Tryz.f60) ay zU mixed (by kernel_rfl) (av.nil _ _) (fun x=>(au.x9 ay (ae.bS zU (av.nil _ _)) mixed 0 2 au.nil (by kernel_rfl))) (fun x=>(by kernel_rfl)) fun x r0 Q=>(by kernel_rfl)
def UR:List (Nat×Ev.Spec):=(60,lq Ni)::UL
theorem IJ:ae Tryz.prog UR:=ae.add (fn:=Tryz.f60) (by kernel_rfl) ab3 zU
def UA (x:(List Int×List (List Int×List I6×I2))):(Bool×List Int×Bool):=
 (ai (aei (IntKind.wrap IntKind.u64 (x.1.length:Int))) fun y=>
 (ai (Zy (x.1,0,(x.1.length:Int),y,x.2)) fun aO=>
 (false,aO.2.1,false)))
def x6 (x:(List Int×List (List Int×List I6×I2))):Prop:=
 ((OU (IntKind.wrap IntKind.u64 (x.1.length:Int)))/\
 aA (aei (IntKind.wrap IntKind.u64 (x.1.length:Int))) fun y=>
 ((Hv (x.1,0,(x.1.length:Int),y,x.2))/\
 aA (Zy (x.1,0,(x.1.length:Int),y,x.2)) fun aO=>
 (aO.2.1.length=x.1.length)))
def acy (x:(List Int×List (List Int×List I6×I2))):Tr (Bool×List Int×Bool) true:=
 (.fn MX (IntKind.wrap IntKind.u64 (nL x.1)) fun y=>
 (.fnW Ni (x.1,z0,(nL x.1),y,x.2) fun aO=>
 (.pn 0 2
 (.og ((decide (aO.2.1.length=x.1.length))&&true) (aO.2.1.length=x.1.length) (fun h=>(cX (decide_eq_true h) rfl))
 (.ret (false,aO.2.1,false))))))
abbrev FP:FnW:=⟨(.pair (.row yi) (.val adG)),.none,x6,UA⟩
theorem aaq:ah Tryz.prog 39 (lq FP):=ah.trW FP acy (fn:=Tryz.f39) ay IJ mixed (by kernel_rfl) (av.nil _ _) (fun x=>au.nil) (fun x=>(by kernel_rfl)) fun x r0 Q=>(by kernel_rfl)
def aaw:List (Nat×Ev.Spec):=(39,lq FP)::UR
theorem EY:ae Tryz.prog aaw:=ae.add (fn:=Tryz.f39) (by kernel_rfl) aaq IJ
end Go.Proofs.YtbjfokijjefoeaaGreat
