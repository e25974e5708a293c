/- Model of GatherDarker. -/
import Derived.Test.YtngdehlpoomaiaaGreatLm
noncomputable section
set_option linter.unusedSectionVars false
set_option linter.unusedVariables false
set_option linter.unusedSimpArgs false
namespace Go.Proofs.YtngdehlpoomaiaaGreat
open Go Go.Ev Go.Proofs
def LJ:HF Tryz.prog:=⟨_,(av.walk az ek mixed 9 (fn:=Tryz.f9) (by kernel_rfl) (av.nil _ _) fun ys hy=>ax.nil)⟩
def Bs (x:(List I9×I9×(Int×Int×Int×Int×List (Int×I3×I3×I2))×I3×I3×Int)):Bool:=
 (aj (wV (x.1,x.2.2.1)) fun y=>
 (if ((!y)=true) then
 (aj (bp false) fun aA=>
 aA) else
 (if (x.2.2.1.2.2.2.1<0) then
 (aj (bp false) fun aA=>
 aA) else
 (if (x.2.2.2.2.2<x.2.2.1.2.2.2.1) then
 (aj (bp false) fun aA=>
 aA) else
 (if (x.2.2.2.2.2>255) then
 (aj (bp false) fun aA=>
 aA) else
 (if ((x.1.length:Int)>7) then
 (aj (bp false) fun aA=>
 aA) else
 (if ((x.1.length:Int)>500) then
 (if (((([]++x.1)++ [x.2.1]).length:Int)>500) then
 (aj (bp false) fun aA=>
 (if (aA=true) then
 true else
 false)) else
 (aj (bA ((([]++x.1)++ [x.2.1]),false)) fun aA=>
 (if (aA=true) then
 (aj (bp false) fun y_2=>
 (if (y_2=true) then
 true else
 false)) else
 (aj (dF (([]++x.1)++ [x.2.1])) fun y_2=>
 (aj (bp false) fun bg=>
 (if (bg=true) then
 false else
 false)))))) else
 (aj (bA (x.1,false)) fun aA=>
 (if (aA=true) then
 (if (((([]++x.1)++ [x.2.1]).length:Int)>500) then
 (aj (bp false) fun y_2=>
 (if (y_2=true) then
 true else
 false)) else
 (aj (bA ((([]++x.1)++ [x.2.1]),false)) fun y_2=>
 (if (y_2=true) then
 (aj (bp false) fun bg=>
 (if (bg=true) then
 true else
 false)) else
 (aj (dF (([]++x.1)++ [x.2.1])) fun bg=>
 (aj (bp false) fun bW=>
 (if (bW=true) then
 false else
 false)))))) else
 (aj (dF x.1) fun y_2=>
 (if (((([]++x.1)++ [x.2.1]).length:Int)>500) then
 (aj (bp false) fun bg=>
 (if (bg=true) then
 true else
 false)) else
 (aj (bA ((([]++x.1)++ [x.2.1]),false)) fun bg=>
 (if (bg=true) then
 (aj (bp false) fun bW=>
 (if (bW=true) then
 true else
 false)) else
 (aj (dF (([]++x.1)++ [x.2.1])) fun bW=>
 (if ((x.2.2.1.2.2.2.2.length:Int)>0) then
 (aj (jz (y_2,[],x.2.2.1.2.2.2.2,(0,0,0),(x.2.2.1.1,x.2.2.1.2.1,x.2.2.1.2.2.1,x.2.2.1.2.2.2.1),x.2.2.2.1,x.2.2.2.2.1)) fun cC=>
 (aj (jz (bW,[],x.2.2.1.2.2.2.2,(0,0,0),(x.2.2.1.1,x.2.2.1.2.1,x.2.2.1.2.2.1,x.2.2.1.2.2.2.1),x.2.2.2.1,x.2.2.2.2.1)) fun fP=>
 (aj (jz (y_2,cC.2.1,x.2.2.1.2.2.2.2,cC.2.2,(x.2.2.1.1,x.2.2.1.2.1,x.2.2.1.2.2.1,x.2.2.2.2.2),x.2.2.2.1,x.2.2.2.2.1)) fun ig=>
 (aj (jz (y_2,ig.2.1,(List.take (Int.toNat (au ((x.2.2.1.2.2.2.2.length:Int)- 1))) x.2.2.1.2.2.2.2),ig.2.2,(x.2.2.1.1,x.2.2.1.2.1,x.2.2.1.2.2.1,x.2.2.1.2.2.2.1),x.2.2.2.1,x.2.2.2.2.1)) fun wN=>
 (if ((cC.1.2 !=0)=true) then
 (aj (bp false) fun Dp=>
 (if (Dp=true) then
 (if ((fP.1.2==cC.1.2)=true) then
 (ig.1.2==cC.1.2) else
 false) else
 false)) else
 (aj (bp false) fun Dp=>
 (if (Dp=true) then
 (if ((fP.1.2==0)=true) then
 (if ((ig.1.2==0)=true) then
 (if ((wN.1.2==0)=true) then
 (if (fP.1.1<=cC.1.1) then
 (if (ig.1.1>=cC.1.1) then
 (decide (wN.1.1<=cC.1.1)) else
 false) else
 false) else
 false) else
 false) else
 false) else
 false))))))) else
 (aj (jz (y_2,[],x.2.2.1.2.2.2.2,(0,0,0),(x.2.2.1.1,x.2.2.1.2.1,x.2.2.1.2.2.1,x.2.2.1.2.2.2.1),x.2.2.2.1,x.2.2.2.2.1)) fun cC=>
 (aj (jz (bW,[],x.2.2.1.2.2.2.2,(0,0,0),(x.2.2.1.1,x.2.2.1.2.1,x.2.2.1.2.2.1,x.2.2.1.2.2.2.1),x.2.2.2.1,x.2.2.2.2.1)) fun fP=>
 (aj (jz (y_2,cC.2.1,x.2.2.1.2.2.2.2,cC.2.2,(x.2.2.1.1,x.2.2.1.2.1,x.2.2.1.2.2.1,x.2.2.2.2.2),x.2.2.2.1,x.2.2.2.2.1)) fun ig=>
 (aj (jz (y_2,ig.2.1,[],ig.2.2,(x.2.2.1.1,x.2.2.1.2.1,x.2.2.1.2.2.1,x.2.2.1.2.2.2.1),x.2.2.2.1,x.2.2.2.2.1)) fun wN=>
 (if ((cC.1.2 !=0)=true) then
 (aj (bp false) fun Dp=>
 (if (Dp=true) then
 (if ((fP.1.2==cC.1.2)=true) then
 (ig.1.2==cC.1.2) else
 false) else
 false)) else
 (aj (bp false) fun Dp=>
 (if (Dp=true) then
 (if ((fP.1.2==0)=true) then
 (if ((ig.1.2==0)=true) then
 (if ((wN.1.2==0)=true) then
 (if (fP.1.1<=cC.1.1) then
 (if (ig.1.1>=cC.1.1) then
 (decide (wN.1.1<=cC.1.1)) else
 false) else
 false) else
 false) else
 false) else
 false) else
 false))))))))))))))))))))))
def qf (x:(List I9×I9×(Int×Int×Int×Int×List (Int×I3×I3×I2))×I3×I3×Int)):Prop:=
 (aB (wV (x.1,x.2.2.1)) fun y=>
 ((((!y)=true)->
 (aJ false))/\
 (¬((!y)=true)->
 (((x.2.2.1.2.2.2.1<0)->
 (aJ false))/\
 (¬(x.2.2.1.2.2.2.1<0)->
 (((x.2.2.2.2.2<x.2.2.1.2.2.2.1)->
 (aJ false))/\
 (¬(x.2.2.2.2.2<x.2.2.1.2.2.2.1)->
 (((x.2.2.2.2.2>255)->
 (aJ false))/\
 (¬(x.2.2.2.2.2>255)->
 ((((x.1.length:Int)>7)->
 (aJ false))/\
 (¬((x.1.length:Int)>7)->
 (((0+x.1.length)<1099511627776)/\
 ((((List.length ([]++x.1))+1)<1099511627776)/\
 ((((x.1.length:Int)>500)->
 (((((([]++x.1)++ [x.2.1]).length:Int)>500)->
 (aJ false))/\
 (¬(((([]++x.1)++ [x.2.1]).length:Int)>500)->
 ((bJ ((([]++x.1)++ [x.2.1]),false))/\
 aB (bA ((([]++x.1)++ [x.2.1]),false)) fun aA=>
 (((aA=true)->
 (aJ false))/\
 (¬(aA=true)->
 ((cO (([]++x.1)++ [x.2.1]))/\
 aB (dF (([]++x.1)++ [x.2.1])) fun y_2=>
 (aJ false))))))))/\
 (¬((x.1.length:Int)>500)->
 ((bJ (x.1,false))/\
 aB (bA (x.1,false)) fun aA=>
 (((aA=true)->
 (((((([]++x.1)++ [x.2.1]).length:Int)>500)->
 (aJ false))/\
 (¬(((([]++x.1)++ [x.2.1]).length:Int)>500)->
 ((bJ ((([]++x.1)++ [x.2.1]),false))/\
 aB (bA ((([]++x.1)++ [x.2.1]),false)) fun y_2=>
 (((y_2=true)->
 (aJ false))/\
 (¬(y_2=true)->
 ((cO (([]++x.1)++ [x.2.1]))/\
 aB (dF (([]++x.1)++ [x.2.1])) fun bg=>
 (aJ false))))))))/\
 (¬(aA=true)->
 ((cO x.1)/\
 aB (dF x.1) fun y_2=>
 (((((([]++x.1)++ [x.2.1]).length:Int)>500)->
 (aJ false))/\
 (¬(((([]++x.1)++ [x.2.1]).length:Int)>500)->
 ((bJ ((([]++x.1)++ [x.2.1]),false))/\
 aB (bA ((([]++x.1)++ [x.2.1]),false)) fun bg=>
 (((bg=true)->
 (aJ false))/\
 (¬(bg=true)->
 ((cO (([]++x.1)++ [x.2.1]))/\
 aB (dF (([]++x.1)++ [x.2.1])) fun bW=>
 ((((x.2.2.1.2.2.2.2.length:Int)>0)->
 (((0<=(au ((x.2.2.1.2.2.2.2.length:Int)- 1)))/\ ((au ((x.2.2.1.2.2.2.2.length:Int)- 1))<=(x.2.2.1.2.2.2.2.length:Int)))/\
 ((dr (y_2,[],x.2.2.1.2.2.2.2,(0,0,0),(x.2.2.1.1,x.2.2.1.2.1,x.2.2.1.2.2.1,x.2.2.1.2.2.2.1),x.2.2.2.1,x.2.2.2.2.1))/\
 aB (jz (y_2,[],x.2.2.1.2.2.2.2,(0,0,0),(x.2.2.1.1,x.2.2.1.2.1,x.2.2.1.2.2.1,x.2.2.1.2.2.2.1),x.2.2.2.1,x.2.2.2.2.1)) fun cC=>
 ((dr (bW,[],x.2.2.1.2.2.2.2,(0,0,0),(x.2.2.1.1,x.2.2.1.2.1,x.2.2.1.2.2.1,x.2.2.1.2.2.2.1),x.2.2.2.1,x.2.2.2.2.1))/\
 aB (jz (bW,[],x.2.2.1.2.2.2.2,(0,0,0),(x.2.2.1.1,x.2.2.1.2.1,x.2.2.1.2.2.1,x.2.2.1.2.2.2.1),x.2.2.2.1,x.2.2.2.2.1)) fun fP=>
 ((dr (y_2,cC.2.1,x.2.2.1.2.2.2.2,cC.2.2,(x.2.2.1.1,x.2.2.1.2.1,x.2.2.1.2.2.1,x.2.2.2.2.2),x.2.2.2.1,x.2.2.2.2.1))/\
 aB (jz (y_2,cC.2.1,x.2.2.1.2.2.2.2,cC.2.2,(x.2.2.1.1,x.2.2.1.2.1,x.2.2.1.2.2.1,x.2.2.2.2.2),x.2.2.2.1,x.2.2.2.2.1)) fun ig=>
 ((dr (y_2,ig.2.1,(List.take (Int.toNat (au ((x.2.2.1.2.2.2.2.length:Int)- 1))) x.2.2.1.2.2.2.2),ig.2.2,(x.2.2.1.1,x.2.2.1.2.1,x.2.2.1.2.2.1,x.2.2.1.2.2.2.1),x.2.2.2.1,x.2.2.2.2.1))/\
 aB (jz (y_2,ig.2.1,(List.take (Int.toNat (au ((x.2.2.1.2.2.2.2.length:Int)- 1))) x.2.2.1.2.2.2.2),ig.2.2,(x.2.2.1.1,x.2.2.1.2.1,x.2.2.1.2.2.1,x.2.2.1.2.2.2.1),x.2.2.2.1,x.2.2.2.2.1)) fun wN=>
 ((((cC.1.2 !=0)=true)->
 (aJ false))/\
 (¬((cC.1.2 !=0)=true)->
 (aJ false)))))))))/\
 (¬((x.2.2.1.2.2.2.2.length:Int)>0)->
 ((dr (y_2,[],x.2.2.1.2.2.2.2,(0,0,0),(x.2.2.1.1,x.2.2.1.2.1,x.2.2.1.2.2.1,x.2.2.1.2.2.2.1),x.2.2.2.1,x.2.2.2.2.1))/\
 aB (jz (y_2,[],x.2.2.1.2.2.2.2,(0,0,0),(x.2.2.1.1,x.2.2.1.2.1,x.2.2.1.2.2.1,x.2.2.1.2.2.2.1),x.2.2.2.1,x.2.2.2.2.1)) fun cC=>
 ((dr (bW,[],x.2.2.1.2.2.2.2,(0,0,0),(x.2.2.1.1,x.2.2.1.2.1,x.2.2.1.2.2.1,x.2.2.1.2.2.2.1),x.2.2.2.1,x.2.2.2.2.1))/\
 aB (jz (bW,[],x.2.2.1.2.2.2.2,(0,0,0),(x.2.2.1.1,x.2.2.1.2.1,x.2.2.1.2.2.1,x.2.2.1.2.2.2.1),x.2.2.2.1,x.2.2.2.2.1)) fun fP=>
 ((dr (y_2,cC.2.1,x.2.2.1.2.2.2.2,cC.2.2,(x.2.2.1.1,x.2.2.1.2.1,x.2.2.1.2.2.1,x.2.2.2.2.2),x.2.2.2.1,x.2.2.2.2.1))/\
 aB (jz (y_2,cC.2.1,x.2.2.1.2.2.2.2,cC.2.2,(x.2.2.1.1,x.2.2.1.2.1,x.2.2.1.2.2.1,x.2.2.2.2.2),x.2.2.2.1,x.2.2.2.2.1)) fun ig=>
 ((dr (y_2,ig.2.1,[],ig.2.2,(x.2.2.1.1,x.2.2.1.2.1,x.2.2.1.2.2.1,x.2.2.1.2.2.2.1),x.2.2.2.1,x.2.2.2.2.1))/\
 aB (jz (y_2,ig.2.1,[],ig.2.2,(x.2.2.1.1,x.2.2.1.2.1,x.2.2.1.2.2.1,x.2.2.1.2.2.2.1),x.2.2.2.1,x.2.2.2.2.1)) fun wN=>
 ((((cC.1.2 !=0)=true)->
 (aJ false))/\
 (¬((cC.1.2 !=0)=true)->
 (aJ false))))))))))))))))))))))))))))))))))
def NU (x:(List I9×I9×(Int×Int×Int×Int×List (Int×I3×I3×I2))×I3×I3×Int)):Tr Bool true:=
 (.fn0 yX (x.1,x.2.2.1) trivial fun y=>
 (.Dq (!y)
 (.fn aQ false fun aA=>
 (.ret aA))
 (.i11 (x.2.2.1.2.2.2.1<z0)
 (.fn aQ false fun aA=>
 (.ret aA))
 (.i11 (x.2.2.2.2.2<x.2.2.1.2.2.2.1)
 (.fn aQ false fun aA=>
 (.ret aA))
 (.i11 (x.2.2.2.2.2>255)
 (.fn aQ false fun aA=>
 (.ret aA))
 (.i11 ((nL x.1)>7)
 (.fn aQ false fun aA=>
 (.ret aA))
 (.od ((0+x.1.length)<1099511627776)
 (.od (((List.length ([]++x.1))+1)<1099511627776)
 (.qz
 (.i11 ((nL x.1)>500)
 (.pn 0 9
 (.qz
 (.i11 ((nL (([]++x.1)++ [x.2.1]))>500)
 (.pn 1 10
 (.fn aQ false fun aA=>
 (.iQ aA
 (.ret true)
 (.ret false))))
 (.fn bY ((([]++x.1)++ [x.2.1]),false) fun aA=>
 (.Dq aA
 (.pn 1 10
 (.fn aQ false fun y_2=>
 (.iQ y_2
 (.ret true)
 (.ret false))))
 (.fn eN (([]++x.1)++ [x.2.1]) fun y_2=>
 (.pn 1 10
 (.fn aQ false fun bg=>
 (.iQ bg
 (.ret false)
 (.ret false))))))))))
 (.fn bY (x.1,false) fun aA=>
 (.Dq aA
 (.pn 0 9
 (.qz
 (.i11 ((nL (([]++x.1)++ [x.2.1]))>500)
 (.pn 1 10
 (.fn aQ false fun y_2=>
 (.iQ y_2
 (.ret true)
 (.ret false))))
 (.fn bY ((([]++x.1)++ [x.2.1]),false) fun y_2=>
 (.Dq y_2
 (.pn 1 10
 (.fn aQ false fun bg=>
 (.iQ bg
 (.ret true)
 (.ret false))))
 (.fn eN (([]++x.1)++ [x.2.1]) fun bg=>
 (.pn 1 10
 (.fn aQ false fun bW=>
 (.iQ bW
 (.ret false)
 (.ret false))))))))))
 (.fn eN x.1 fun y_2=>
 (.pn 0 9
 (.qz
 (.i11 ((nL (([]++x.1)++ [x.2.1]))>500)
 (.pn 1 12
 (.fn aQ false fun bg=>
 (.iQ bg
 (.ret true)
 (.ret false))))
 (.fn bY ((([]++x.1)++ [x.2.1]),false) fun bg=>
 (.Dq bg
 (.pn 1 12
 (.fn aQ false fun bW=>
 (.iQ bW
 (.ret true)
 (.ret false))))
 (.fn eN (([]++x.1)++ [x.2.1]) fun bW=>
 (.pn 1 12
 (.i11 ((nL x.2.2.1.2.2.2.2)>z0)
 (.og ((decide (z0<=(wm (nL x.2.2.1.2.2.2.2))))&&(decide ((wm (nL x.2.2.1.2.2.2.2))<=(nL x.2.2.1.2.2.2.2)))) ((z0<=(wm (nL x.2.2.1.2.2.2.2)))/\ ((wm (nL x.2.2.1.2.2.2.2))<=(nL x.2.2.1.2.2.2.2))) (fun h=>(gh (decide_eq_true h.1) (decide_eq_true h.2)))
 (.fn jc (y_2,[],x.2.2.1.2.2.2.2,bH,(x.2.2.1.1,x.2.2.1.2.1,x.2.2.1.2.2.1,x.2.2.1.2.2.2.1),x.2.2.2.1,x.2.2.2.2.1) fun cC=>
 (.fn jc (bW,[],x.2.2.1.2.2.2.2,bH,(x.2.2.1.1,x.2.2.1.2.1,x.2.2.1.2.2.1,x.2.2.1.2.2.2.1),x.2.2.2.1,x.2.2.2.2.1) fun fP=>
 (.fn jc (y_2,cC.2.1,x.2.2.1.2.2.2.2,cC.2.2,(x.2.2.1.1,x.2.2.1.2.1,x.2.2.1.2.2.1,x.2.2.2.2.2),x.2.2.2.1,x.2.2.2.2.1) fun ig=>
 (.fn jc (y_2,ig.2.1,(List.take (tN (wm (nL x.2.2.1.2.2.2.2))) x.2.2.1.2.2.2.2),ig.2.2,(x.2.2.1.1,x.2.2.1.2.1,x.2.2.1.2.2.1,x.2.2.1.2.2.2.1),x.2.2.2.1,x.2.2.2.2.1) fun wN=>
 (.Dq (cC.1.2 !=z0)
 (.fn aQ false fun Dp=>
 (.iQ Dp
 (.iQ (fP.1.2==cC.1.2)
 (.ret (ig.1.2==cC.1.2))
 (.ret false))
 (.ret false)))
 (.fn aQ false fun Dp=>
 (.iQ Dp
 (.iQ (fP.1.2==z0)
 (.iQ (ig.1.2==z0)
 (.iQ (wN.1.2==z0)
 (.oq (fP.1.1<=cC.1.1)
 (.oq (ig.1.1>=cC.1.1)
 (.ret (decide (wN.1.1<=cC.1.1)))
 (.ret false))
 (.ret false))
 (.ret false))
 (.ret false))
 (.ret false))
 (.ret false)))))))))
 (.fn jc (y_2,[],x.2.2.1.2.2.2.2,bH,(x.2.2.1.1,x.2.2.1.2.1,x.2.2.1.2.2.1,x.2.2.1.2.2.2.1),x.2.2.2.1,x.2.2.2.2.1) fun cC=>
 (.fn jc (bW,[],x.2.2.1.2.2.2.2,bH,(x.2.2.1.1,x.2.2.1.2.1,x.2.2.1.2.2.1,x.2.2.1.2.2.2.1),x.2.2.2.1,x.2.2.2.2.1) fun fP=>
 (.fn jc (y_2,cC.2.1,x.2.2.1.2.2.2.2,cC.2.2,(x.2.2.1.1,x.2.2.1.2.1,x.2.2.1.2.2.1,x.2.2.2.2.2),x.2.2.2.1,x.2.2.2.2.1) fun ig=>
 (.fn jc (y_2,ig.2.1,[],ig.2.2,(x.2.2.1.1,x.2.2.1.2.1,x.2.2.1.2.2.1,x.2.2.1.2.2.2.1),x.2.2.2.1,x.2.2.2.2.1) fun wN=>
 (.Dq (cC.1.2 !=z0)
 (.fn aQ false fun Dp=>
 (.iQ Dp
 (.iQ (fP.1.2==cC.1.2)
 (.ret (ig.1.2==cC.1.2))
 (.ret false))
 (.ret false)))
 (.fn aQ false fun Dp=>
 (.iQ Dp
 (.iQ (fP.1.2==z0)
 (.iQ (ig.1.2==z0)
 (.iQ (wN.1.2==z0)
 (.oq (fP.1.1<=cC.1.1)
 (.oq (ig.1.1>=cC.1.1)
 (.ret (decide (wN.1.1<=cC.1.1)))
 (.ret false))
 (.ret false))
 (.ret false))
 (.ret false))
 (.ret false))
 (.ret false)))))))))))))))))))))))))))))
abbrev ux:cf:=⟨(.pair (.one (Ty.sl ff)) (.pair (.agg ff) (.pair (.agg (Ty.prod yi (Ty.prod yi (Ty.prod yi (Ty.prod yi (Ty.sl (Ty.prod yi (Ty.prod aO (Ty.prod aO gZ))))))))) (.pair (.agg aO) (.pair (.agg aO) (.one yi)))))),(.one Ty.bool),qf,Bs⟩
theorem LK:ah Tryz.prog 4 (ak ux):=ah.tr ux NU (fn:=Tryz.f4) az ek mixed (by kernel_rfl) LJ.ok (fun x=>ax.nil) (fun x=>(by kernel_rfl)) fun x Q=>(by kernel_rfl)
end Go.Proofs.YtngdehlpoomaiaaGreat
