/- What sorting is by: the models (of this seat's program). -/
import Derived.Test.YtngdehlpoomaiaaGreatEvT
import Derived.Test.YtngdehlpoomaiaaGreatTt
noncomputable section
set_option linter.unusedSectionVars false
set_option linter.unusedVariables false
set_option linter.unusedSimpArgs false
namespace Go.Proofs.YtngdehlpoomaiaaGreat
open Go Go.Ev Go.Proofs
def isNaN (x:Int):Bool:=
 (x !=x)
def VM (_:Int):Prop:=True
def adj (x:Int):Tr Bool false:=
 (.ret (x !=x))
abbrev zn:cf:=⟨(.one yi),(.one Ty.bool),VM,isNaN⟩
theorem Zu:ah Tryz.prog 215 (ak zn):=ah.tr zn adj (fn:=Tryz.f215) az (af.nil _) mixed (by kernel_rfl) (av.nil _ _) (fun x=>ax.nil) (fun x=>(by kernel_rfl)) fun x Q=>(by kernel_rfl)
def O5:List (Nat×Ev.Spec):=(215,ak zn):: []
theorem CM:af Tryz.prog O5:=af.add (fn:=Tryz.f215) (by kernel_rfl) Zu (af.nil _)
def compare (x:I2):Int:=
 (aj (isNaN x.1) fun y=>
 (aj (isNaN x.2) fun aA=>
 (if (y=true) then
 (if (aA=true) then
 0 else
 (-1)) else
 (if (aA=true) then
 1 else
 (if (x.1<x.2) then
 (-1) else
 (if (x.1>x.2) then
 1 else
 0))))))
def MR (_:I2):Prop:=True
def UR (x:I2):Tr Int false:=
 (.fn0 zn x.1 trivial fun y=>
 (.fn0 zn x.2 trivial fun aA=>
 (.iQ y
 (.iQ aA
 (.ret z0)
 (.ret (-1)))
 (.iQ aA
 (.ret z1)
 (.oq (x.1<x.2)
 (.ret (-1))
 (.oq (x.1>x.2)
 (.ret z1)
 (.ret z0)))))))
abbrev eL:cf:=⟨(.pair (.one yi) (.one yi)),(.one yi),MR,compare⟩
theorem Qp:ah Tryz.prog 198 (ak eL):=ah.tr eL UR (fn:=Tryz.f198) az CM mixed (by kernel_rfl) (av.nil _ _) (fun x=>ax.nil) (fun x=>(by kernel_rfl)) fun x Q=>(by kernel_rfl)
def Ge:List (Nat×Ev.Spec):=(198,ak eL)::O5
theorem qn:af Tryz.prog Ge:=af.add (fn:=Tryz.f198) (by kernel_rfl) Qp CM
def MQ (x:(List Int)):aL:=⟨[],⟨dL 18 0 [(3,.v (.one (.i .i64))),(6,.v (.one (.full 0))),(7,.v (.one (.i .i64))),(8,.v (.one (.i .i64)))],[.row yi 0],0,none,[],[0,1,3],[2],[.i],[.i 0,.i (x.length:Int),.l yi x]⟩,[⟨.ret,.ret,⟨dL 18 0 [(2,.v (.one (.i .i64)))],[],0,none,[],[],[0],[.i],[]⟩⟩,⟨(.exit 0),.normal,⟨dL 18 0 [(3,.v (.one (.i .i64)))],[],0,none,[],[0],[],[],[.i 0]⟩⟩]⟩
def dP (x:(List Int)) (s:Int):Int⊕(Int⊕Unit):=
 (if (s<(x.length:Int)) then
 (if (((x.getD s.toNat 0) !=0)=true) then
 (Sum.inr (Sum.inl (x.getD s.toNat 0))) else
 (Sum.inl (au (s+1)))) else
 (Sum.inr (Sum.inr (()))))
def fT (x:(List Int)) (s:Int):Prop:=
 ((s<(x.length:Int))->
 (((0<=s)/\ (s<(x.length:Int)))/\
 ((s.toNat<x.length)/\
 (s.toNat<x.length))))
def EB (x:(List Int)) (s:Int):Tr (Int⊕(Int⊕Unit)) true:=
 (.i10 (s<(nL x))
 (.nc s x
 (.iQ ((gI x s) !=z0)
 (.ret (.inr (Sum.inl (gI x s))))
 (.ret (.inl (w1 s)))))
 (.ret (.inr (Sum.inr (())))))
def EA (x:(List Int)):Int:=
 (aj (run (dP x) 0) fun r=>
 (Sum.elim (fun a=>
 a) (fun b=>
 0) r))
def nI (x:(List Int)):Prop:=
 (Term (dP x) (fT x) 0)
def ab8 (x:(List Int)):Tr Int true:=
 (aL.lp (MQ x) (EB x) z0 fun r=>
 (.OD r (fun a=>
 (.ret a)) (fun b=>
 (.ret z0))))
abbrev rD:cf:=⟨(.one (Ty.sl yi)),(.one yi),nI,EA⟩
theorem X7:ah Tryz.prog 197 (ak rD):=ah.tr rD ab8 (fn:=Tryz.f197) az qn mixed (by kernel_rfl) (av.nil _ _) (fun x=>(ax.tr az (af.eA qn (av.nil _ _)) mixed 0 (MQ x) (EB x) ax.nil (by kernel_rfl) fun g s Q=>(by kernel_rfl))) (fun x=>(by kernel_rfl)) fun x Q=>(by kernel_rfl)
def OP:List (Nat×Ev.Spec):=(197,ak rD)::Ge
theorem uY:af Tryz.prog OP:=af.add (fn:=Tryz.f197) (by kernel_rfl) X7 qn
def middle (x:((List I9×Int)×Int)):Int:=
 (au ((au ((au (0+(List.getD [(x.1.1.getD x.2.toNat ((0,0,0),(0,0,0),0,0,0)).1.1,(x.1.1.getD x.2.toNat ((0,0,0),(0,0,0),0,0,0)).1.2.1,(x.1.1.getD x.2.toNat ((0,0,0),(0,0,0),0,0,0)).1.2.2] (x.1.2.toNat*1) 0)))+(List.getD [(x.1.1.getD x.2.toNat ((0,0,0),(0,0,0),0,0,0)).2.1.1,(x.1.1.getD x.2.toNat ((0,0,0),(0,0,0),0,0,0)).2.1.2.1,(x.1.1.getD x.2.toNat ((0,0,0),(0,0,0),0,0,0)).2.1.2.2] (x.1.2.toNat*1) 0)))+(List.getD [(x.1.1.getD x.2.toNat ((0,0,0),(0,0,0),0,0,0)).2.2.1,(x.1.1.getD x.2.toNat ((0,0,0),(0,0,0),0,0,0)).2.2.2.1,(x.1.1.getD x.2.toNat ((0,0,0),(0,0,0),0,0,0)).2.2.2.2] (x.1.2.toNat*1) 0)))
def oz (x:((List I9×Int)×Int)):Prop:=
 (((0<=x.2)/\ (x.2<(x.1.1.length:Int)))/\
 ((x.2.toNat<x.1.1.length)/\
 ((x.2.toNat<x.1.1.length)/\
 (((0<=x.1.2)/\ (x.1.2<3))/\
 (((0<=x.1.2)/\ (x.1.2<3))/\
 ((0<=x.1.2)/\ (x.1.2<3)))))))
def ZV (x:((List I9×Int)×Int)):Tr Int true:=
 (.nc x.2 x.1.1
 (.oR x.1.2 3
 (.oR x.1.2 3
 (.oR x.1.2 3
 (.ret (au ((au ((au (z0+(List.getD [(gT x.1.1 x.2 My).1.1,(gT x.1.1 x.2 My).1.2.1,(gT x.1.1 x.2 My).1.2.2] ((tN x.1.2)*1) z0)))+(List.getD [(gT x.1.1 x.2 My).2.1.1,(gT x.1.1 x.2 My).2.1.2.1,(gT x.1.1 x.2 My).2.1.2.2] ((tN x.1.2)*1) z0)))+(List.getD [(gT x.1.1 x.2 My).2.2.1,(gT x.1.1 x.2 My).2.2.2.1,(gT x.1.1 x.2 My).2.2.2.2] ((tN x.1.2)*1) z0))))))))
abbrev uH:cf:=⟨(.pair (.agg (Ty.prod (Ty.sl ff) yi)) (.one yi)),(.one yi),oz,middle⟩
theorem Wb:ah Tryz.prog 199 (ak uH):=ah.tr uH ZV (fn:=Tryz.f199) az uY mixed (by kernel_rfl) (av.nil _ _) (fun x=>(ax.nD az (af.eA uY (av.nil _ _)) mixed 0 4 ax.nil (by kernel_rfl))) (fun x=>(by kernel_rfl)) fun x Q=>(by kernel_rfl)
def Kh:List (Nat×Ev.Spec):=(199,ak uH)::OP
theorem Ax:af Tryz.prog Kh:=af.add (fn:=Tryz.f199) (by kernel_rfl) Wb uY
def byM (x:((List I9×Int)×I2)):Int:=
 (aj (middle (x.1,x.2.1)) fun y=>
 (aj (middle (x.1,x.2.2)) fun aA=>
 (aj (compare (y,aA)) fun y_2=>
 (aj (compare x.2) fun bg=>
 (aj (EA [y_2,bg]) fun bW=>
 bW)))))
def yK (x:((List I9×Int)×I2)):Prop:=
 ((oz (x.1,x.2.1))/\
 aB (middle (x.1,x.2.1)) fun y=>
 ((oz (x.1,x.2.2))/\
 aB (middle (x.1,x.2.2)) fun aA=>
 (aB (compare (y,aA)) fun y_2=>
 (aB (compare x.2) fun bg=>
 (nI [y_2,bg])))))
def ahQ (x:((List I9×Int)×I2)):Tr Int true:=
 (.fn uH (x.1,x.2.1) fun y=>
 (.fn uH (x.1,x.2.2) fun aA=>
 (.fn0 eL (y,aA) trivial fun y_2=>
 (.fn0 eL x.2 trivial fun bg=>
 (.fn rD [y_2,bg] fun bW=>
 (.ret bW))))))
abbrev SM:cf:=⟨(.pair (.agg (Ty.prod (Ty.sl ff) yi)) (.pair (.one yi) (.one yi))),(.one yi),yK,byM⟩
theorem afu:ah Tryz.prog 179 (ak SM):=ah.tr SM ahQ (fn:=Tryz.f179) az Ax mixed (by kernel_rfl) (av.nil _ _) (fun x=>ax.nil) (fun x=>(by kernel_rfl)) fun x Q=>(by kernel_rfl)
def aaE:List (Nat×Ev.Spec):=(179,ak SM)::Kh
theorem wD:af Tryz.prog aaE:=af.add (fn:=Tryz.f179) (by kernel_rfl) afu Ax
abbrev afw:lF:= .mv 179 true (.prod (.sl (.prod (.prod (.int .i64) (.prod (.int .i64) (.int .i64))) (.prod (.prod (.int .i64) (.prod (.int .i64) (.int .i64))) (.prod (.int .i64) (.prod (.int .i64) (.int .i64)))))) (.int .i64))
abbrev RT:Type:=List I9×Int
end Go.Proofs.YtngdehlpoomaiaaGreat
namespace Go.Proofs.YtngdehlpoomaiaaGreat
open Go Go.Ev Go.Proofs
def Ja (x:(List Int×Int×Int×List I9×Int)):aL:=⟨[.env],⟨dL 53 0 [(0,.v (.one (.full 0))),(1,.v (.one (.i .i64))),(2,.v (.one (.i .i64))),(3,.v (.one (.mv 179 true [.full 1,.ext]))),(8,.v (.one (.i .i64))),(9,.v (.one (.i .i64)))],[.row yi 1,.row ff 0,.cw 2],3,none,[7],[0,1,2,6],[5,3,4],[(.l yi),.i,.i],[.i x.2.1,.i x.2.2.1,.v (.int .i64 x.2.2.2.2),.l ff x.2.2.2.1]⟩,[⟨(.exit 2),.normal,⟨dL 53 0 [(0,.v (.one (.full 0))),(1,.v (.one (.i .i64))),(2,.v (.one (.i .i64))),(3,.v (.one (.mv 179 true [.full 1,.ext]))),(8,.v (.one (.i .i64)))],[.row yi 1,.row ff 0,.cw 2],3,none,[6],[0,1,2,5],[4,3],[(.l yi),.i],[.i x.2.1,.i x.2.2.1,.v (.int .i64 x.2.2.2.2),.l ff x.2.2.2.1]⟩⟩]⟩
def dx (x:(List Int×Int×Int×List I9×Int)) (s:(List Int×I2)):(List Int×I2)⊕(List Int×Int):=
 (if (s.2.2>x.2.1) then
 (aj (byM (x.2.2.2,(s.1.getD s.2.2.toNat 0),(s.1.getD (Int.toNat (au (s.2.2- 1))) 0))) fun y=>
 (if (y<0) then
 (aj (List.set s.1 s.2.2.toNat (s.1.getD (Int.toNat (au (s.2.2- 1))) 0)) fun aA=>
 (aj (List.set aA (Int.toNat (au (s.2.2- 1))) (s.1.getD s.2.2.toNat 0)) fun y_2=>
 (Sum.inl (y_2,s.2.1,(au (s.2.2- 1)))))) else
 (Sum.inr ((s.1,s.2.1))))) else
 (Sum.inr ((s.1,s.2.1))))
def gO (x:(List Int×Int×Int×List I9×Int)) (s:(List Int×I2)):Prop:=
 ((s.2.2>x.2.1)->
 (((0<=s.2.2)/\ (s.2.2<(s.1.length:Int)))/\
 ((s.2.2.toNat<s.1.length)/\
 ((s.2.2.toNat<s.1.length)/\
 (((0<=(au (s.2.2- 1)))/\ ((au (s.2.2- 1))<(s.1.length:Int)))/\
 (((Int.toNat (au (s.2.2- 1)))<s.1.length)/\
 (((Int.toNat (au (s.2.2- 1)))<s.1.length)/\
 ((yK (x.2.2.2,(s.1.getD s.2.2.toNat 0),(s.1.getD (Int.toNat (au (s.2.2- 1))) 0)))/\
 aB (byM (x.2.2.2,(s.1.getD s.2.2.toNat 0),(s.1.getD (Int.toNat (au (s.2.2- 1))) 0))) fun y=>
 ((y<0)->
 (((0<=(au (s.2.2- 1)))/\ ((au (s.2.2- 1))<(s.1.length:Int)))/\
 (((Int.toNat (au (s.2.2- 1)))<s.1.length)/\
 (((Int.toNat (au (s.2.2- 1)))<s.1.length)/\
 (((0<=s.2.2)/\ (s.2.2<(s.1.length:Int)))/\
 ((s.2.2.toNat<s.1.length)/\
 ((s.2.2.toNat<s.1.length)/\
 (((0<=s.2.2)/\ (s.2.2<(s.1.length:Int)))/\
 ((s.2.2.toNat<s.1.length)/\
 ((s.2.2.toNat<s.1.length)/\
 (aB (List.set s.1 s.2.2.toNat (s.1.getD (Int.toNat (au (s.2.2- 1))) 0)) fun aA=>
 (((0<=(au (s.2.2- 1)))/\ ((au (s.2.2- 1))<(aA.length:Int)))/\
 (((Int.toNat (au (s.2.2- 1)))<aA.length)/\
 ((Int.toNat (au (s.2.2- 1)))<aA.length))))))))))))))))))))))
def Cn (x:(List Int×Int×Int×List I9×Int)) (s:(List Int×I2)):Tr ((List Int×I2)⊕(List Int×Int)) true:=
 (.i10 (s.2.2>x.2.1)
 (.nc s.2.2 s.1
 (.nc (wm s.2.2) s.1
 (.fn SM (x.2.2.2,(gI s.1 s.2.2),(gI s.1 (wm s.2.2))) fun y=>
 (.i10 (y<z0)
 (.nc (wm s.2.2) s.1
 (.nc s.2.2 s.1
 (.nc s.2.2 s.1
 (.lt (List.set s.1 (tN s.2.2) (gI s.1 (wm s.2.2))) fun aA=>
 (.nc (wm s.2.2) aA
 (.lt (List.set aA (tN (wm s.2.2)) (gI s.1 s.2.2)) fun y_2=>
 (.ret (.inl (y_2,s.2.1,(wm s.2.2))))))))))
 (.ret (.inr ((s.1,s.2.1))))))))
 (.ret (.inr ((s.1,s.2.1)))))
def I8 (x:(List Int×Int×Int×List I9×Int)):aL:=⟨[.env],⟨dL 53 0 [(0,.v (.one (.full 0))),(1,.v (.one (.i .i64))),(2,.v (.one (.i .i64))),(3,.v (.one (.mv 179 true [.full 1,.ext]))),(8,.v (.one (.i .i64)))],[.row yi 1,.row ff 0,.cw 2],3,none,[6],[0,1,2,5],[4,3],[(.l yi),.i],[.i x.2.1,.i x.2.2.1,.v (.int .i64 x.2.2.2.2),.l ff x.2.2.2.1]⟩,[⟨(.exit 0),.normal,⟨dL 53 0 [],[.row yi 1,.row ff 0,.cw 2],3,none,[2],[1],[0],[(.l yi)],[.l ff x.2.2.2.1]⟩⟩]⟩
def dX (x:(List Int×Int×Int×List I9×Int)) (s:(List Int×Int)):(List Int×Int)⊕(List Int):=
 (if (s.2<x.2.2.1) then
 (aj (run (dx x) (s.1,s.2,s.2)) fun r=>
 (Sum.inl (r.1,(au (r.2+1))))) else
 (Sum.inr (s.1)))
def jk (x:(List Int×Int×Int×List I9×Int)) (s:(List Int×Int)):Prop:=
 ((s.2<x.2.2.1)->
 (Term (dx x) (gO x) (s.1,s.2,s.2)))
def Cm (x:(List Int×Int×Int×List I9×Int)) (s:(List Int×Int)):Tr ((List Int×Int)⊕(List Int)) true:=
 (.i10 (s.2<x.2.2.1)
 (aL.lp (Ja x) (Cn x) (s.1,s.2,s.2) fun r=>
 (.ret (.inl (r.1,(w1 r.2)))))
 (.ret (.inr (s.1))))
def LC (x:(List Int×Int×Int×List I9×Int)):(Bool×List Int×Bool×Bool×Bool):=
 (aj (run (dX x) (x.1,(au (x.2.1+1)))) fun r=>
 (false,r,false,false,false))
def zm (x:(List Int×Int×Int×List I9×Int)):Prop:=
 (Term (dX x) (jk x) (x.1,(au (x.2.1+1)))/\
 aB (run (dX x) (x.1,(au (x.2.1+1)))) fun r=>
 (r.length=x.1.length))
def agp (x:(List Int×Int×Int×List I9×Int)):Tr (Bool×List Int×Bool×Bool×Bool) true:=
 (aL.lp (I8 x) (Cm x) (x.1,(w1 x.2.1)) fun r=>
 (.pn 0 2
 (.og ((decide (r.length=x.1.length))&&true) (r.length=x.1.length) (fun h=>(gh (decide_eq_true h) rfl))
 (.ret (false,r,false,false,false)))))
abbrev LD:FnW:=⟨(.pair (.row yi) (.pair (.val (.one yi)) (.pair (.val (.one yi)) (.val afw)))),.none,zm,LC⟩
theorem adf:ah Tryz.prog 216 (kg LD):=ah.trW LD agp (fn:=Tryz.f216) az wD mixed (by kernel_rfl) (av.nil _ _) (fun x=>(ax.tr az (af.eA wD (av.nil _ _)) mixed 0 (I8 x) (Cm x) (ax.tr az (af.eA wD (av.nil _ _)) mixed 2 (Ja x) (Cn x) ax.nil (by kernel_rfl) fun g s Q=>(by kernel_rfl)) (by kernel_rfl) fun g s Q=>(by kernel_rfl))) (fun x=>(by kernel_rfl)) fun x r0 Q=>(by kernel_rfl)
def T7:List (Nat×Ev.Spec):=(216,kg LD)::aaE
theorem Gt:af Tryz.prog T7:=af.add (fn:=Tryz.f216) (by kernel_rfl) adf wD
abbrev wM:ByteArray:=(ByteArray.mk (List.toArray (([(OfNat.ofNat 0),(OfNat.ofNat 1),(OfNat.ofNat 2),(OfNat.ofNat 2),(OfNat.ofNat 3),(OfNat.ofNat 3),(OfNat.ofNat 3),(OfNat.ofNat 3),(OfNat.ofNat 4),(OfNat.ofNat 4),(OfNat.ofNat 4),(OfNat.ofNat 4),(OfNat.ofNat 4),(OfNat.ofNat 4),(OfNat.ofNat 4),(OfNat.ofNat 4),(OfNat.ofNat 5),(OfNat.ofNat 5),(OfNat.ofNat 5),(OfNat.ofNat 5),(OfNat.ofNat 5),(OfNat.ofNat 5),(OfNat.ofNat 5),(OfNat.ofNat 5),(OfNat.ofNat 5),(OfNat.ofNat 5),(OfNat.ofNat 5),(OfNat.ofNat 5),(OfNat.ofNat 5),(OfNat.ofNat 5),(OfNat.ofNat 5),(OfNat.ofNat 5),(OfNat.ofNat 6),(OfNat.ofNat 6),(OfNat.ofNat 6),(OfNat.ofNat 6),(OfNat.ofNat 6),(OfNat.ofNat 6),(OfNat.ofNat 6),(OfNat.ofNat 6),(OfNat.ofNat 6),(OfNat.ofNat 6),(OfNat.ofNat 6),(OfNat.ofNat 6),(OfNat.ofNat 6),(OfNat.ofNat 6),(OfNat.ofNat 6),(OfNat.ofNat 6),(OfNat.ofNat 6),(OfNat.ofNat 6),(OfNat.ofNat 6),(OfNat.ofNat 6),(OfNat.ofNat 6),(OfNat.ofNat 6),(OfNat.ofNat 6),(OfNat.ofNat 6),(OfNat.ofNat 6),(OfNat.ofNat 6),(OfNat.ofNat 6),(OfNat.ofNat 6),(OfNat.ofNat 6),(OfNat.ofNat 6),(OfNat.ofNat 6),(OfNat.ofNat 6)]++ [(OfNat.ofNat 7),(OfNat.ofNat 7),(OfNat.ofNat 7),(OfNat.ofNat 7),(OfNat.ofNat 7),(OfNat.ofNat 7),(OfNat.ofNat 7),(OfNat.ofNat 7),(OfNat.ofNat 7),(OfNat.ofNat 7),(OfNat.ofNat 7),(OfNat.ofNat 7),(OfNat.ofNat 7),(OfNat.ofNat 7),(OfNat.ofNat 7),(OfNat.ofNat 7),(OfNat.ofNat 7),(OfNat.ofNat 7),(OfNat.ofNat 7),(OfNat.ofNat 7),(OfNat.ofNat 7),(OfNat.ofNat 7),(OfNat.ofNat 7),(OfNat.ofNat 7),(OfNat.ofNat 7),(OfNat.ofNat 7),(OfNat.ofNat 7),(OfNat.ofNat 7),(OfNat.ofNat 7),(OfNat.ofNat 7),(OfNat.ofNat 7),(OfNat.ofNat 7),(OfNat.ofNat 7),(OfNat.ofNat 7),(OfNat.ofNat 7),(OfNat.ofNat 7),(OfNat.ofNat 7),(OfNat.ofNat 7),(OfNat.ofNat 7),(OfNat.ofNat 7),(OfNat.ofNat 7),(OfNat.ofNat 7),(OfNat.ofNat 7),(OfNat.ofNat 7),(OfNat.ofNat 7),(OfNat.ofNat 7),(OfNat.ofNat 7),(OfNat.ofNat 7),(OfNat.ofNat 7),(OfNat.ofNat 7),(OfNat.ofNat 7),(OfNat.ofNat 7),(OfNat.ofNat 7),(OfNat.ofNat 7),(OfNat.ofNat 7),(OfNat.ofNat 7),(OfNat.ofNat 7),(OfNat.ofNat 7),(OfNat.ofNat 7),(OfNat.ofNat 7),(OfNat.ofNat 7),(OfNat.ofNat 7),(OfNat.ofNat 7),(OfNat.ofNat 7)])++([(OfNat.ofNat 8),(OfNat.ofNat 8),(OfNat.ofNat 8),(OfNat.ofNat 8),(OfNat.ofNat 8),(OfNat.ofNat 8),(OfNat.ofNat 8),(OfNat.ofNat 8),(OfNat.ofNat 8),(OfNat.ofNat 8),(OfNat.ofNat 8),(OfNat.ofNat 8),(OfNat.ofNat 8),(OfNat.ofNat 8),(OfNat.ofNat 8),(OfNat.ofNat 8),(OfNat.ofNat 8),(OfNat.ofNat 8),(OfNat.ofNat 8),(OfNat.ofNat 8),(OfNat.ofNat 8),(OfNat.ofNat 8),(OfNat.ofNat 8),(OfNat.ofNat 8),(OfNat.ofNat 8),(OfNat.ofNat 8),(OfNat.ofNat 8),(OfNat.ofNat 8),(OfNat.ofNat 8),(OfNat.ofNat 8),(OfNat.ofNat 8),(OfNat.ofNat 8),(OfNat.ofNat 8),(OfNat.ofNat 8),(OfNat.ofNat 8),(OfNat.ofNat 8),(OfNat.ofNat 8),(OfNat.ofNat 8),(OfNat.ofNat 8),(OfNat.ofNat 8),(OfNat.ofNat 8),(OfNat.ofNat 8),(OfNat.ofNat 8),(OfNat.ofNat 8),(OfNat.ofNat 8),(OfNat.ofNat 8),(OfNat.ofNat 8),(OfNat.ofNat 8),(OfNat.ofNat 8),(OfNat.ofNat 8),(OfNat.ofNat 8),(OfNat.ofNat 8),(OfNat.ofNat 8),(OfNat.ofNat 8),(OfNat.ofNat 8),(OfNat.ofNat 8),(OfNat.ofNat 8),(OfNat.ofNat 8),(OfNat.ofNat 8),(OfNat.ofNat 8),(OfNat.ofNat 8),(OfNat.ofNat 8),(OfNat.ofNat 8),(OfNat.ofNat 8)]++ [(OfNat.ofNat 8),(OfNat.ofNat 8),(OfNat.ofNat 8),(OfNat.ofNat 8),(OfNat.ofNat 8),(OfNat.ofNat 8),(OfNat.ofNat 8),(OfNat.ofNat 8),(OfNat.ofNat 8),(OfNat.ofNat 8),(OfNat.ofNat 8),(OfNat.ofNat 8),(OfNat.ofNat 8),(OfNat.ofNat 8),(OfNat.ofNat 8),(OfNat.ofNat 8),(OfNat.ofNat 8),(OfNat.ofNat 8),(OfNat.ofNat 8),(OfNat.ofNat 8),(OfNat.ofNat 8),(OfNat.ofNat 8),(OfNat.ofNat 8),(OfNat.ofNat 8),(OfNat.ofNat 8),(OfNat.ofNat 8),(OfNat.ofNat 8),(OfNat.ofNat 8),(OfNat.ofNat 8),(OfNat.ofNat 8),(OfNat.ofNat 8),(OfNat.ofNat 8),(OfNat.ofNat 8),(OfNat.ofNat 8),(OfNat.ofNat 8),(OfNat.ofNat 8),(OfNat.ofNat 8),(OfNat.ofNat 8),(OfNat.ofNat 8),(OfNat.ofNat 8),(OfNat.ofNat 8),(OfNat.ofNat 8),(OfNat.ofNat 8),(OfNat.ofNat 8),(OfNat.ofNat 8),(OfNat.ofNat 8),(OfNat.ofNat 8),(OfNat.ofNat 8),(OfNat.ofNat 8),(OfNat.ofNat 8),(OfNat.ofNat 8),(OfNat.ofNat 8),(OfNat.ofNat 8),(OfNat.ofNat 8),(OfNat.ofNat 8),(OfNat.ofNat 8),(OfNat.ofNat 8),(OfNat.ofNat 8),(OfNat.ofNat 8),(OfNat.ofNat 8),(OfNat.ofNat 8),(OfNat.ofNat 8),(OfNat.ofNat 8),(OfNat.ofNat 8)]))))
def ZJ (x:Int):Int:=
 (if (x>=4294967296) then
 (if ((Int.fdiv x 4294967296)>=65536) then
 (if ((Int.fdiv (Int.fdiv x 4294967296) 65536)>=256) then
 (au (56+(au (((UInt8.toNat (ByteArray.get! wM (Int.toNat (IntKind.wrap IntKind.u8 (Int.fdiv (Int.fdiv (Int.fdiv x 4294967296) 65536) 256))))):Nat):Int)))) else
 (au (48+(au (((UInt8.toNat (ByteArray.get! wM (Int.toNat (IntKind.wrap IntKind.u8 (Int.fdiv (Int.fdiv x 4294967296) 65536))))):Nat):Int))))) else
 (if ((Int.fdiv x 4294967296)>=256) then
 (au (40+(au (((UInt8.toNat (ByteArray.get! wM (Int.toNat (IntKind.wrap IntKind.u8 (Int.fdiv (Int.fdiv x 4294967296) 256))))):Nat):Int)))) else
 (au (32+(au (((UInt8.toNat (ByteArray.get! wM (Int.toNat (IntKind.wrap IntKind.u8 (Int.fdiv x 4294967296))))):Nat):Int)))))) else
 (if (x>=65536) then
 (if ((Int.fdiv x 65536)>=256) then
 (au (24+(au (((UInt8.toNat (ByteArray.get! wM (Int.toNat (IntKind.wrap IntKind.u8 (Int.fdiv (Int.fdiv x 65536) 256))))):Nat):Int)))) else
 (au (16+(au (((UInt8.toNat (ByteArray.get! wM (Int.toNat (IntKind.wrap IntKind.u8 (Int.fdiv x 65536))))):Nat):Int))))) else
 (if (x>=256) then
 (au (8+(au (((UInt8.toNat (ByteArray.get! wM (Int.toNat (IntKind.wrap IntKind.u8 (Int.fdiv x 256))))):Nat):Int)))) else
 (au (0+(au (((UInt8.toNat (ByteArray.get! wM (Int.toNat (IntKind.wrap IntKind.u8 x)))):Nat):Int)))))))
def rY (x:Int):Prop:=
 (((x>=4294967296)->
 ((((Int.fdiv x 4294967296)>=65536)->
 ((((Int.fdiv (Int.fdiv x 4294967296) 65536)>=256)->
 ((0<=(IntKind.wrap IntKind.u8 (Int.fdiv (Int.fdiv (Int.fdiv x 4294967296) 65536) 256)))/\ ((IntKind.wrap IntKind.u8 (Int.fdiv (Int.fdiv (Int.fdiv x 4294967296) 65536) 256))<256)))/\
 (¬((Int.fdiv (Int.fdiv x 4294967296) 65536)>=256)->
 ((0<=(IntKind.wrap IntKind.u8 (Int.fdiv (Int.fdiv x 4294967296) 65536)))/\ ((IntKind.wrap IntKind.u8 (Int.fdiv (Int.fdiv x 4294967296) 65536))<256)))))/\
 (¬((Int.fdiv x 4294967296)>=65536)->
 ((((Int.fdiv x 4294967296)>=256)->
 ((0<=(IntKind.wrap IntKind.u8 (Int.fdiv (Int.fdiv x 4294967296) 256)))/\ ((IntKind.wrap IntKind.u8 (Int.fdiv (Int.fdiv x 4294967296) 256))<256)))/\
 (¬((Int.fdiv x 4294967296)>=256)->
 ((0<=(IntKind.wrap IntKind.u8 (Int.fdiv x 4294967296)))/\ ((IntKind.wrap IntKind.u8 (Int.fdiv x 4294967296))<256)))))))/\
 (¬(x>=4294967296)->
 (((x>=65536)->
 ((((Int.fdiv x 65536)>=256)->
 ((0<=(IntKind.wrap IntKind.u8 (Int.fdiv (Int.fdiv x 65536) 256)))/\ ((IntKind.wrap IntKind.u8 (Int.fdiv (Int.fdiv x 65536) 256))<256)))/\
 (¬((Int.fdiv x 65536)>=256)->
 ((0<=(IntKind.wrap IntKind.u8 (Int.fdiv x 65536)))/\ ((IntKind.wrap IntKind.u8 (Int.fdiv x 65536))<256)))))/\
 (¬(x>=65536)->
 (((x>=256)->
 ((0<=(IntKind.wrap IntKind.u8 (Int.fdiv x 256)))/\ ((IntKind.wrap IntKind.u8 (Int.fdiv x 256))<256)))/\
 (¬(x>=256)->
 ((0<=(IntKind.wrap IntKind.u8 x))/\ ((IntKind.wrap IntKind.u8 x)<256))))))))
def ZK (x:Int):Tr Int true:=
 (.i11 (x>=4294967296)
 (.i11 ((Int.fdiv x 4294967296)>=65536)
 (.i11 ((Int.fdiv (Int.fdiv x 4294967296) 65536)>=256)
 (.oR (IntKind.wrap IntKind.u8 (Int.fdiv (Int.fdiv (Int.fdiv x 4294967296) 65536) 256)) 256
 (.ret (au (56+(au (((UInt8.toNat (ByteArray.get! wM (tN (IntKind.wrap IntKind.u8 (Int.fdiv (Int.fdiv (Int.fdiv x 4294967296) 65536) 256))))):Nat):Int))))))
 (.oR (IntKind.wrap IntKind.u8 (Int.fdiv (Int.fdiv x 4294967296) 65536)) 256
 (.ret (au (48+(au (((UInt8.toNat (ByteArray.get! wM (tN (IntKind.wrap IntKind.u8 (Int.fdiv (Int.fdiv x 4294967296) 65536))))):Nat):Int)))))))
 (.i11 ((Int.fdiv x 4294967296)>=256)
 (.oR (IntKind.wrap IntKind.u8 (Int.fdiv (Int.fdiv x 4294967296) 256)) 256
 (.ret (au (40+(au (((UInt8.toNat (ByteArray.get! wM (tN (IntKind.wrap IntKind.u8 (Int.fdiv (Int.fdiv x 4294967296) 256))))):Nat):Int))))))
 (.oR (IntKind.wrap IntKind.u8 (Int.fdiv x 4294967296)) 256
 (.ret (au (32+(au (((UInt8.toNat (ByteArray.get! wM (tN (IntKind.wrap IntKind.u8 (Int.fdiv x 4294967296))))):Nat):Int))))))))
 (.i11 (x>=65536)
 (.i11 ((Int.fdiv x 65536)>=256)
 (.oR (IntKind.wrap IntKind.u8 (Int.fdiv (Int.fdiv x 65536) 256)) 256
 (.ret (au (24+(au (((UInt8.toNat (ByteArray.get! wM (tN (IntKind.wrap IntKind.u8 (Int.fdiv (Int.fdiv x 65536) 256))))):Nat):Int))))))
 (.oR (IntKind.wrap IntKind.u8 (Int.fdiv x 65536)) 256
 (.ret (au (16+(au (((UInt8.toNat (ByteArray.get! wM (tN (IntKind.wrap IntKind.u8 (Int.fdiv x 65536))))):Nat):Int)))))))
 (.i11 (x>=256)
 (.oR (IntKind.wrap IntKind.u8 (Int.fdiv x 256)) 256
 (.ret (au (8+(au (((UInt8.toNat (ByteArray.get! wM (tN (IntKind.wrap IntKind.u8 (Int.fdiv x 256))))):Nat):Int))))))
 (.oR (IntKind.wrap IntKind.u8 x) 256
 (.ret (au (z0+(au (((UInt8.toNat (ByteArray.get! wM (tN (IntKind.wrap IntKind.u8 x)))):Nat):Int)))))))))
abbrev zw:cf:=⟨(.one (Ty.int IntKind.u64)),(.one yi),rY,ZJ⟩
theorem VW:ah Tryz.prog 225 (ak zw):=ah.tr zw ZK (fn:=Tryz.f225) az Gt mixed (by kernel_rfl) (av.nil _ _) (fun x=>ax.nil) (fun x=>(by kernel_rfl)) fun x Q=>(by kernel_rfl)
def Ke:List (Nat×Ev.Spec):=(225,ak zw)::T7
theorem Av:af Tryz.prog Ke:=af.add (fn:=Tryz.f225) (by kernel_rfl) VW Gt
def agy (x:Int):Int:=
 (aj (ZJ x) fun y=>
 y)
def NY (x:Int):Prop:=
 (rY x)
def agz (x:Int):Tr Int true:=
 (.fn zw x fun y=>
 (.ret y))
abbrev LM:cf:=⟨(.one (Ty.int IntKind.u64)),(.one yi),NY,agy⟩
theorem adr:ah Tryz.prog 201 (ak LM):=ah.tr LM agz (fn:=Tryz.f201) az Av mixed (by kernel_rfl) (av.nil _ _) (fun x=>ax.nil) (fun x=>(by kernel_rfl)) fun x Q=>(by kernel_rfl)
def Ua:List (Nat×Ev.Spec):=(201,ak LM)::Ke
theorem yn:af Tryz.prog Ua:=af.add (fn:=Tryz.f201) (by kernel_rfl) adr Av
def aah (x:(List Int×Int×Int×Int×List I9×Int)):(Bool×List Int×Bool×Bool×Bool×Bool):=
 (if ((au (x.2.2.1- x.2.1))<=12) then
 (aj (LC (x.1,x.2.1,x.2.2.1,x.2.2.2.2)) fun y=>
 (false,y.2.1,false,false,false,false)) else
 (if ((x.2.2.2.1==0)=true) then
 default else
 default))
def FP (x:(List Int×Int×Int×Int×List I9×Int)):Prop:=
 ((((au (x.2.2.1- x.2.1))<=12)->
 ((zm (x.1,x.2.1,x.2.2.1,x.2.2.2.2))/\
 aB (LC (x.1,x.2.1,x.2.2.1,x.2.2.2.2)) fun y=>
 (y.2.1.length=x.1.length)))/\
 (¬((au (x.2.2.1- x.2.1))<=12)->
 ((((x.2.2.2.1==0)=true)->
 False)/\
 (¬((x.2.2.2.1==0)=true)->
 False))))
def agP (x:(List Int×Int×Int×Int×List I9×Int)):Tr (Bool×List Int×Bool×Bool×Bool×Bool) true:=
 (.i11 ((au (x.2.2.1- x.2.1))<=12)
 (.fnW LD (x.1,x.2.1,x.2.2.1,x.2.2.2.2) fun y=>
 (.pn 0 2
 (.og ((decide (y.2.1.length=x.1.length))&&true) (y.2.1.length=x.1.length) (fun h=>(gh (decide_eq_true h) rfl))
 (.ret (false,y.2.1,false,false,false,false)))))
 (.Dq (x.2.2.2.1==z0)
 (.og false False False.elim (.ret default))
 (.og false False False.elim (.ret default))))
abbrev L0:FnW:=⟨(.pair (.row yi) (.pair (.val (.one yi)) (.pair (.val (.one yi)) (.pair (.val (.one yi)) (.val afw))))),.none,FP,aah⟩
theorem adK:ah Tryz.prog 200 (kg L0):=ah.trW L0 agP (fn:=Tryz.f200) az yn mixed (by kernel_rfl) (av.nil _ _) (fun x=>(ax.nD az (af.eA yn (av.nil _ _)) mixed 0 2 ax.nil (by kernel_rfl))) (fun x=>(by kernel_rfl)) fun x r0 Q=>(by kernel_rfl)
def Ud:List (Nat×Ev.Spec):=(200,kg L0)::Ua
theorem GC:af Tryz.prog Ud:=af.add (fn:=Tryz.f200) (by kernel_rfl) adK yn
def Gc (x:(List Int×List I9×Int)):(Bool×List Int×Bool):=
 (aj (agy (IntKind.wrap IntKind.u64 (x.1.length:Int))) fun y=>
 (aj (aah (x.1,0,(x.1.length:Int),y,x.2)) fun aA=>
 (false,aA.2.1,false)))
def qX (x:(List Int×List I9×Int)):Prop:=
 ((NY (IntKind.wrap IntKind.u64 (x.1.length:Int)))/\
 aB (agy (IntKind.wrap IntKind.u64 (x.1.length:Int))) fun y=>
 ((FP (x.1,0,(x.1.length:Int),y,x.2))/\
 aB (aah (x.1,0,(x.1.length:Int),y,x.2)) fun aA=>
 (aA.2.1.length=x.1.length)))
def adW (x:(List Int×List I9×Int)):Tr (Bool×List Int×Bool) true:=
 (.fn LM (IntKind.wrap IntKind.u64 (nL x.1)) fun y=>
 (.fnW L0 (x.1,z0,(nL x.1),y,x.2) fun aA=>
 (.pn 0 2
 (.og ((decide (aA.2.1.length=x.1.length))&&true) (aA.2.1.length=x.1.length) (fun h=>(gh (decide_eq_true h) rfl))
 (.ret (false,aA.2.1,false))))))
abbrev Ma:FnW:=⟨(.pair (.row yi) (.val afw)),.none,qX,Gc⟩
theorem aaC:ah Tryz.prog 180 (kg Ma):=ah.trW Ma adW (fn:=Tryz.f180) az GC mixed (by kernel_rfl) (av.nil _ _) (fun x=>ax.nil) (fun x=>(by kernel_rfl)) fun x r0 Q=>(by kernel_rfl)
def Pe:List (Nat×Ev.Spec):=(180,kg Ma)::Ud
theorem vj:af Tryz.prog Pe:=af.add (fn:=Tryz.f180) (by kernel_rfl) aaC GC
end Go.Proofs.YtngdehlpoomaiaaGreat
