/- Model of GatherRange. -/
import Derived.Test.YtngdehlpoomaiaaGreatLm
noncomputable section
set_option linter.unusedSectionVars false
set_option linter.unusedVariables false
set_option linter.unusedSimpArgs false
namespace Go.Proofs.YtngdehlpoomaiaaGreat
open Go Go.Ev Go.Proofs
def Cs:HF Tryz.prog:=⟨_,(av.walk az ek mixed 9 (fn:=Tryz.f9) (by kernel_rfl) (av.nil _ _) fun ys hy=>ax.nil)⟩
def Ct (x:(List I9×(Int×Int×Int×Int×List (Int×I3×I3×I2))×I3×I3)):aL:=⟨[],⟨dL 142 0 [(5,.v (.one (.ptr 0 0))),(7,.v (.one (.ptr 2 0))),(13,.v (.one (.i .i64))),(15,.v (.one (.i .i64))),(16,.v (.one (.i .i64))),(17,.v (.one (.ptr 3 0))),(18,.v (.one (.i .i64))),(19,.v (.one (.full 4))),(20,.v (.one (.i .i64)))],[.cells [.i .i64,.i .i64,.i .i64,.i .i64,.full 1] 25,.row (Ty.prod yi (Ty.prod aO (Ty.prod aO gZ))) 0,.cells [.i .i64,.i .i64,.i .i64] 27,.cells [.i .i64,.i .i64,.i .i64] 27,.row yi 2],0,none,[],[5,6,7,8,9,10,11,12],[0,1,2,13,14,15,3,16,4],[.i,.i,.i,.i,.i,.i,.i,(.l yi),.i],[.i x.2.1.1,.i x.2.1.2.1,.i x.2.1.2.2.1,.i x.2.1.2.2.2.1,.l (Ty.prod yi (Ty.prod aO (Ty.prod aO gZ))) x.2.1.2.2.2.2,.i x.2.2.2.1,.i x.2.2.2.2.1,.i x.2.2.2.2.2]⟩,[⟨.ret,.ret,⟨dL 142 0 [(8,.v (.one (.b)))],[],0,none,[],[0],[],[],[.b false]⟩⟩,⟨(.exit 0),.normal,⟨dL 142 0 [(13,.v (.one (.i .i64))),(15,.v (.one (.i .i64))),(16,.v (.one (.i .i64))),(18,.v (.one (.i .i64))),(19,.v (.one (.full 0)))],[.row yi 2],0,none,[],[],[0,1,2,3,4],[.i,.i,.i,.i,(.l yi)],[]⟩⟩]⟩
def dS (x:(List I9×(Int×Int×Int×Int×List (Int×I3×I3×I2))×I3×I3)) (s:(Int×Int×Int×Int×Int×Int×Int×List Int×Int)):(Int×Int×Int×Int×Int×Int×Int×List Int×Int)⊕(Unit⊕(Int×Int×Int×Int×List Int)):=
 (if (s.2.2.2.2.2.2.2.2<(x.2.1.2.2.2.2.length:Int)) then
 (aj (xX ((x.2.1.2.2.2.2.getD s.2.2.2.2.2.2.2.2.toNat (0,(0,0,0),(0,0,0),0,0)),(s.2.2.2.1,s.2.2.2.2.1,s.2.2.2.2.2.1),x.2.2.2)) fun y=>
 (if ((y.2 !=0)=true) then
 (Sum.inr (Sum.inl ())) else
 (Sum.inl (s.1,s.2.1,s.2.2.1,s.2.2.2.1,s.2.2.2.2.1,s.2.2.2.2.2.1,s.2.2.2.2.2.2.1,(s.2.2.2.2.2.2.2.1++ [y.1]),(au (s.2.2.2.2.2.2.2.2+1)))))) else
 (Sum.inr (Sum.inr ((s.1,s.2.1,s.2.2.1,s.2.2.2.2.2.2.1,s.2.2.2.2.2.2.2.1)))))
def jt (x:(List I9×(Int×Int×Int×Int×List (Int×I3×I3×I2))×I3×I3)) (s:(Int×Int×Int×Int×Int×Int×Int×List Int×Int)):Prop:=
 ((s.2.2.2.2.2.2.2.2<(x.2.1.2.2.2.2.length:Int))->
 (((0<=s.2.2.2.2.2.2.2.2)/\ (s.2.2.2.2.2.2.2.2<(x.2.1.2.2.2.2.length:Int)))/\
 ((s.2.2.2.2.2.2.2.2.toNat<x.2.1.2.2.2.2.length)/\
 ((s.2.2.2.2.2.2.2.2.toNat<x.2.1.2.2.2.2.length)/\
 ((ow ((x.2.1.2.2.2.2.getD s.2.2.2.2.2.2.2.2.toNat (0,(0,0,0),(0,0,0),0,0)),(s.2.2.2.1,s.2.2.2.2.1,s.2.2.2.2.2.1),x.2.2.2))/\
 aB (xX ((x.2.1.2.2.2.2.getD s.2.2.2.2.2.2.2.2.toNat (0,(0,0,0),(0,0,0),0,0)),(s.2.2.2.1,s.2.2.2.2.1,s.2.2.2.2.2.1),x.2.2.2)) fun y=>
 (¬((y.2 !=0)=true)->
 ((s.2.2.2.2.2.2.2.1.length+1)<1099511627776)))))))
def w9 (x:(List I9×(Int×Int×Int×Int×List (Int×I3×I3×I2))×I3×I3)) (s:(Int×Int×Int×Int×Int×Int×Int×List Int×Int)):Tr ((Int×Int×Int×Int×Int×Int×Int×List Int×Int)⊕(Unit⊕(Int×Int×Int×Int×List Int))) true:=
 (.i10 (s.2.2.2.2.2.2.2.2<(nL x.2.1.2.2.2.2))
 (.nc s.2.2.2.2.2.2.2.2 x.2.1.2.2.2.2
 (.fn uE ((gT x.2.1.2.2.2.2 s.2.2.2.2.2.2.2.2 (z0,bH,bH,A2)),(s.2.2.2.1,s.2.2.2.2.1,s.2.2.2.2.2.1),x.2.2.2) fun y=>
 (.kO (y.2 !=z0)
 (.ret (.inr (Sum.inl ())))
 (.od ((s.2.2.2.2.2.2.2.1.length+1)<1099511627776)
 (.ret (.inl (s.1,s.2.1,s.2.2.1,s.2.2.2.1,s.2.2.2.2.1,s.2.2.2.2.2.1,s.2.2.2.2.2.2.1,(s.2.2.2.2.2.2.2.1++ [y.1]),(w1 s.2.2.2.2.2.2.2.2))))))))
 (.ret (.inr (Sum.inr ((s.1,s.2.1,s.2.2.1,s.2.2.2.2.2.2.1,s.2.2.2.2.2.2.2.1))))))
def Fv (x:(List I9×(Int×Int×Int×Int×List (Int×I3×I3×I2))×I3×I3)):Bool:=
 (aj (wV (x.1,x.2.1)) fun y=>
 (if ((!y)=true) then
 true else
 (if ((x.1.length:Int)>500) then
 (aj (bA ([],false)) fun aA=>
 (if (aA=true) then
 (aj (bp false) fun y_2=>
 (if (y_2=true) then
 false else
 false)) else
 (aj (dF []) fun y_2=>
 (aj (bp false) fun bg=>
 (if (bg=true) then
 true else
 false))))) else
 (aj (bA (x.1,false)) fun aA=>
 (if (aA=true) then
 (aj (bA ([],false)) fun y_2=>
 (if (y_2=true) then
 (aj (bp false) fun bg=>
 (if (bg=true) then
 false else
 false)) else
 (aj (dF []) fun bg=>
 (aj (bp false) fun bW=>
 (if (bW=true) then
 true else
 false))))) else
 (aj (dF x.1) fun y_2=>
 (aj (bA ([],false)) fun bg=>
 (if (bg=true) then
 (aj (bp false) fun bW=>
 (if (bW=true) then
 false else
 false)) else
 (aj (dF []) fun bW=>
 (aj (jz (y_2,[],x.2.1.2.2.2.2,(0,0,0),(x.2.1.1,x.2.1.2.1,x.2.1.2.2.1,x.2.1.2.2.2.1),x.2.2)) fun cC=>
 (aj (jz (bW,[],x.2.1.2.2.2.2,(0,0,0),(x.2.1.1,x.2.1.2.1,x.2.1.2.2.1,x.2.1.2.2.2.1),x.2.2)) fun fP=>
 (aj (eI x.2) fun ig=>
 (if ((cC.1.2 !=0)=true) then
 (aj (bp false) fun wN=>
 (if (wN=true) then
 (if ((fP.1.2==cC.1.2)=true) then
 (if ((ig.2==cC.1.2)=true) then
 (cC.1.1==0) else
 false) else
 false) else
 false)) else
 (aj (run (dS x) (cC.1.1,fP.1.1,fP.1.2,ig.1.1,ig.1.2.1,ig.1.2.2,ig.2,[x.2.1.2.2.2.1],0)) fun r=>
 (Sum.elim (fun a=>
 false) (fun b=>
 (aj (bp false) fun wN=>
 (if (wN=true) then
 (if ((b.2.2.1==0)=true) then
 (if ((b.2.2.2.1==0)=true) then
 (if (b.1>=0) then
 (if (b.1<=b.2.1) then
 (aj (V4 b.2.2.2.2) fun Dp=>
 (if ((b.2.1==Dp)=true) then
 (decide (b.2.1<=255)) else
 false)) else
 false) else
 false) else
 false) else
 false) else
 false))) r)))))))))))))))
def rX (x:(List I9×(Int×Int×Int×Int×List (Int×I3×I3×I2))×I3×I3)):Prop:=
 (aB (wV (x.1,x.2.1)) fun y=>
 (¬((!y)=true)->
 ((((x.1.length:Int)>500)->
 ((bJ ([],false))/\
 aB (bA ([],false)) fun aA=>
 (((aA=true)->
 (aJ false))/\
 (¬(aA=true)->
 ((cO [])/\
 aB (dF []) fun y_2=>
 (aJ false))))))/\
 (¬((x.1.length:Int)>500)->
 ((bJ (x.1,false))/\
 aB (bA (x.1,false)) fun aA=>
 (((aA=true)->
 ((bJ ([],false))/\
 aB (bA ([],false)) fun y_2=>
 (((y_2=true)->
 (aJ false))/\
 (¬(y_2=true)->
 ((cO [])/\
 aB (dF []) fun bg=>
 (aJ false))))))/\
 (¬(aA=true)->
 ((cO x.1)/\
 aB (dF x.1) fun y_2=>
 ((bJ ([],false))/\
 aB (bA ([],false)) fun bg=>
 (((bg=true)->
 (aJ false))/\
 (¬(bg=true)->
 ((cO [])/\
 aB (dF []) fun bW=>
 ((dr (y_2,[],x.2.1.2.2.2.2,(0,0,0),(x.2.1.1,x.2.1.2.1,x.2.1.2.2.1,x.2.1.2.2.2.1),x.2.2))/\
 aB (jz (y_2,[],x.2.1.2.2.2.2,(0,0,0),(x.2.1.1,x.2.1.2.1,x.2.1.2.2.1,x.2.1.2.2.2.1),x.2.2)) fun cC=>
 ((dr (bW,[],x.2.1.2.2.2.2,(0,0,0),(x.2.1.1,x.2.1.2.1,x.2.1.2.2.1,x.2.1.2.2.2.1),x.2.2))/\
 aB (jz (bW,[],x.2.1.2.2.2.2,(0,0,0),(x.2.1.1,x.2.1.2.1,x.2.1.2.2.1,x.2.1.2.2.2.1),x.2.2)) fun fP=>
 ((cQ x.2)/\
 aB (eI x.2) fun ig=>
 ((((cC.1.2 !=0)=true)->
 (aJ false))/\
 (¬((cC.1.2 !=0)=true)->
 (Term (dS x) (jt x) (cC.1.1,fP.1.1,fP.1.2,ig.1.1,ig.1.2.1,ig.1.2.2,ig.2,[x.2.1.2.2.2.1],0)/\
 aB (run (dS x) (cC.1.1,fP.1.1,fP.1.2,ig.1.1,ig.1.2.1,ig.1.2.2,ig.2,[x.2.1.2.2.2.1],0)) fun r=>
 (cS r (fun a=>
 True) (fun b=>
 ((aJ false)/\
 aB (bp false) fun wN=>
 ((wN=true)->
 (((b.2.2.1==0)=true)->
 (((b.2.2.2.1==0)=true)->
 ((b.1>=0)->
 ((b.1<=b.2.1)->
 (qO b.2.2.2.2)))))))))))))))))))))))))))
def Rm (x:(List I9×(Int×Int×Int×Int×List (Int×I3×I3×I2))×I3×I3)):Tr Bool true:=
 (.fn0 yX (x.1,x.2.1) trivial fun y=>
 (.kO (!y)
 (.ret true)
 (.qz
 (.i11 ((nL x.1)>500)
 (.pn 0 5
 (.qz
 (.fn bY ([],false) fun aA=>
 (.Dq aA
 (.pn 1 6
 (.fn aQ false fun y_2=>
 (.iQ y_2
 (.ret false)
 (.ret false))))
 (.fn eN [] fun y_2=>
 (.pn 1 6
 (.fn aQ false fun bg=>
 (.iQ bg
 (.ret true)
 (.ret false)))))))))
 (.fn bY (x.1,false) fun aA=>
 (.Dq aA
 (.pn 0 5
 (.qz
 (.fn bY ([],false) fun y_2=>
 (.Dq y_2
 (.pn 1 6
 (.fn aQ false fun bg=>
 (.iQ bg
 (.ret false)
 (.ret false))))
 (.fn eN [] fun bg=>
 (.pn 1 6
 (.fn aQ false fun bW=>
 (.iQ bW
 (.ret true)
 (.ret false)))))))))
 (.fn eN x.1 fun y_2=>
 (.pn 0 5
 (.qz
 (.fn bY ([],false) fun bg=>
 (.Dq bg
 (.pn 1 8
 (.fn aQ false fun bW=>
 (.iQ bW
 (.ret false)
 (.ret false))))
 (.fn eN [] fun bW=>
 (.pn 1 8
 (.fn jc (y_2,[],x.2.1.2.2.2.2,bH,(x.2.1.1,x.2.1.2.1,x.2.1.2.2.1,x.2.1.2.2.2.1),x.2.2) fun cC=>
 (.fn jc (bW,[],x.2.1.2.2.2.2,bH,(x.2.1.1,x.2.1.2.1,x.2.1.2.2.1,x.2.1.2.2.2.1),x.2.2) fun fP=>
 (.fn e7 x.2 fun ig=>
 (.Dq (cC.1.2 !=z0)
 (.fn aQ false fun wN=>
 (.iQ wN
 (.iQ (fP.1.2==cC.1.2)
 (.iQ (ig.2==cC.1.2)
 (.ret (cC.1.1==z0))
 (.ret false))
 (.ret false))
 (.ret false)))
 (aL.lp (Ct x) (w9 x) (cC.1.1,fP.1.1,fP.1.2,ig.1.1,ig.1.2.1,ig.1.2.2,ig.2,[x.2.1.2.2.2.1],z0) fun r=>
 (.s01 r (fun a=>
 (.ret false)) (fun b=>
 (.fn aQ false fun wN=>
 (.Db wN
 (.Db (b.2.2.1==z0)
 (.Db (b.2.2.2.1==z0)
 (.i10 (b.1>=z0)
 (.i10 (b.1<=b.2.1)
 (.fn Bw b.2.2.2.2 fun Dp=>
 (.iQ (b.2.1==Dp)
 (.ret (decide (b.2.1<=255)))
 (.ret false)))
 (.ret false))
 (.ret false))
 (.ret false))
 (.ret false))
 (.ret false)))))))))))))))))))))))
abbrev xW:cf:=⟨(.pair (.one (Ty.sl ff)) (.pair (.agg (Ty.prod yi (Ty.prod yi (Ty.prod yi (Ty.prod yi (Ty.sl (Ty.prod yi (Ty.prod aO (Ty.prod aO gZ))))))))) (.pair (.agg aO) (.agg aO)))),(.one Ty.bool),rX,Fv⟩
theorem NV:ah Tryz.prog 3 (ak xW):=ah.tr xW Rm (fn:=Tryz.f3) az ek mixed (by kernel_rfl) Cs.ok (fun x=>(ax.tr az (af.eA ek Cs.ok) mixed 0 (Ct x) (w9 x) ax.nil (by kernel_rfl) fun g s Q=>(by kernel_rfl))) (fun x=>(by kernel_rfl)) fun x Q=>(by kernel_rfl)
end Go.Proofs.YtngdehlpoomaiaaGreat
