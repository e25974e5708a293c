/- Building a tree: the function that calls itself. -/
import Derived.Test.YtngdehlpoomaiaaGreatTq
import Derived.Test.YtngdehlpoomaiaaGreatEvU
noncomputable section
set_option linter.unusedSectionVars false
set_option linter.unusedVariables false
set_option linter.unusedSimpArgs false
namespace Go.Proofs.YtngdehlpoomaiaaGreat
open Go Go.Ev Go.Proofs
abbrev Uo:Type:=(List Int×List I9×List ((I3×I3)×Int×Int×List Int))
abbrev gP:Ty:= .prod (.prod (.prod (.int .i64) (.prod (.int .i64) (.int .i64))) (.prod (.int .i64) (.prod (.int .i64) (.int .i64)))) (.prod (.int .i64) (.prod (.int .i64) (.sl (.int .i64))))
abbrev OQ:Ty:= .prod (.prod (.int .i64) (.prod (.int .i64) (.int .i64))) (.prod (.prod (.int .i64) (.prod (.int .i64) (.int .i64))) (.prod (.int .i64) (.prod (.int .i64) (.int .i64))))
abbrev VB:Ko:=⟨gP,OQ,155,75,202,203⟩
abbrev zy:Type:=((Int×Int×Int)×Int×Int×Int)×(Int×Int×List Int)
abbrev adB:Type:=List Int×(List ((Int×Int×Int)×(Int×Int×Int)×Int×Int×Int)×List zy)
class w8 where
 pre:adB->Prop
 f:adB->List zy
 ok:aq Tryz.prog 155 (jP ⟨VB,pre,f⟩)
section
variable [w8]
def Lj (x:adB):List zy:=w8.f x
def tV (x:adB):Prop:=w8.pre x
abbrev JI:FnO:=⟨VB,tV,Lj⟩
theorem ahV:aq Tryz.prog 155 (jP JI):=w8.ok
def akg:List (Nat×Ev.Spec):=(155,jP JI)::RB
theorem XF:aj Tryz.prog akg:=aA (fn:=Tryz.f155) ahV Uc
def ab7 (x:Uo):(List ((I3×I3)×Int×Int×List Int)):=
 (ak (gH (x.2.1,x.1)) fun y=>
 (if ((x.1.length:Int)<=2) then
 (ak (xm x.1) fun aB=>
 (ak (List.set (x.2.2++ [(y,0,0,[])]) x.2.2.length ((List.getD (x.2.2++ [(y,0,0,[])]) x.2.2.length (((0,0,0),0,0,0),0,0,[])).1,(List.getD (x.2.2++ [(y,0,0,[])]) x.2.2.length (((0,0,0),0,0,0),0,0,[])).2.1,(List.getD (x.2.2++ [(y,0,0,[])]) x.2.2.length (((0,0,0),0,0,0),0,0,[])).2.2.1,aB)) fun y_2=>
 y_2)) else
 (ak (wz (x.2.1,x.1)) fun aB=>
 (ak (Lj (aB.1,x.2.1,(x.2.2++ [(y,0,0,[])]))) fun y_2=>
 (ak (Lj (aB.2,x.2.1,y_2)) fun bI=>
 (ak (List.set bI x.2.2.length ((bI.getD x.2.2.length (((0,0,0),0,0,0),0,0,[])).1,(au ((x.2.2.length:Int)+1)),(bI.getD x.2.2.length (((0,0,0),0,0,0),0,0,[])).2.2)) fun dG=>
 (ak (List.set dG x.2.2.length ((dG.getD x.2.2.length (((0,0,0),0,0,0),0,0,[])).1,(dG.getD x.2.2.length (((0,0,0),0,0,0),0,0,[])).2.1,(y_2.length:Int),(dG.getD x.2.2.length (((0,0,0),0,0,0),0,0,[])).2.2.2)) fun tw=>
 tw)))))))
def z5 (x:Uo):Prop:=
 ((tJ (x.2.1,x.1))/\
 az (gH (x.2.1,x.1)) fun y=>
 (((x.2.2.length+1)<1099511627776)/\
 ((((x.1.length:Int)<=2)->
 ((mN x.1)/\
 az (xm x.1) fun aB=>
 (((x.2.2.length:Int)<((x.2.2++ [(y,0,0,[])]).length:Int))/\
 ((x.2.2.length<(List.length (x.2.2++ [(y,0,0,[])])))/\
 ((x.2.2.length<(List.length (x.2.2++ [(y,0,0,[])])))/\
 (x.2.2.length<(List.length (x.2.2++ [(y,0,0,[])]))))))))/\
 (¬((x.1.length:Int)<=2)->
 ((kR (x.2.1,x.1))/\
 az (wz (x.2.1,x.1)) fun aB=>
 ((tV (aB.1,x.2.1,(x.2.2++ [(y,0,0,[])])))/\
 az (Lj (aB.1,x.2.1,(x.2.2++ [(y,0,0,[])]))) fun y_2=>
 ((tV (aB.2,x.2.1,y_2))/\
 az (Lj (aB.2,x.2.1,y_2)) fun bI=>
 (((x.2.2.length:Int)<(bI.length:Int))/\
 ((x.2.2.length<bI.length)/\
 ((x.2.2.length<bI.length)/\
 ((x.2.2.length<bI.length)/\
 (az (List.set bI x.2.2.length ((bI.getD x.2.2.length (((0,0,0),0,0,0),0,0,[])).1,(au ((x.2.2.length:Int)+1)),(bI.getD x.2.2.length (((0,0,0),0,0,0),0,0,[])).2.2)) fun dG=>
 (((x.2.2.length:Int)<(dG.length:Int))/\
 ((x.2.2.length<dG.length)/\
 ((x.2.2.length<dG.length)/\
 (x.2.2.length<dG.length))))))))))))))))
def amh (x:Uo):Tr (List ((I3×I3)×Int×Int×List Int)) true:=
 (.fn Sc (x.2.1,x.1) fun y=>
 (.od ((x.2.2.length+1)<1099511627776)
 (.i11 ((nL x.1)<=2)
 (.fn C1 x.1 fun aB=>
 (.og ((decide (z0<=(nL x.2.2)))&&(decide ((nL x.2.2)<(nL (x.2.2++ [(y,z0,z0,[])]))))) ((nL x.2.2)<(nL (x.2.2++ [(y,z0,z0,[])]))) (fun h=>(iu rfl (decide_eq_true h)))
 (.od (x.2.2.length<(List.length (x.2.2++ [(y,z0,z0,[])])))
 (.od (x.2.2.length<(List.length (x.2.2++ [(y,z0,z0,[])])))
 (.od (x.2.2.length<(List.length (x.2.2++ [(y,z0,z0,[])])))
 (.lt (List.set (x.2.2++ [(y,z0,z0,[])]) x.2.2.length ((List.getD (x.2.2++ [(y,z0,z0,[])]) x.2.2.length ((bn,bn),z0,z0,[])).1,(List.getD (x.2.2++ [(y,z0,z0,[])]) x.2.2.length ((bn,bn),z0,z0,[])).2.1,(List.getD (x.2.2++ [(y,z0,z0,[])]) x.2.2.length ((bn,bn),z0,z0,[])).2.2.1,aB)) fun y_2=>
 (.pn 0 6
 (.ret y_2))))))))
 (.fn Ny (x.2.1,x.1) fun aB=>
 (.fnO JI (aB.1,x.2.1,(x.2.2++ [(y,z0,z0,[])])) fun y_2=>
 (.fnO JI (aB.2,x.2.1,y_2) fun bI=>
 (.og ((decide (z0<=(nL x.2.2)))&&(decide ((nL x.2.2)<(nL bI)))) ((nL x.2.2)<(nL bI)) (fun h=>(iu rfl (decide_eq_true h)))
 (.od (x.2.2.length<bI.length)
 (.od (x.2.2.length<bI.length)
 (.od (x.2.2.length<bI.length)
 (.lt (List.set bI x.2.2.length ((bI.getD x.2.2.length ((bn,bn),z0,z0,[])).1,(w1 (nL x.2.2)),(bI.getD x.2.2.length ((bn,bn),z0,z0,[])).2.2)) fun dG=>
 (.og ((decide (z0<=(nL x.2.2)))&&(decide ((nL x.2.2)<(nL dG)))) ((nL x.2.2)<(nL dG)) (fun h=>(iu rfl (decide_eq_true h)))
 (.od (x.2.2.length<dG.length)
 (.od (x.2.2.length<dG.length)
 (.od (x.2.2.length<dG.length)
 (.lt (List.set dG x.2.2.length ((dG.getD x.2.2.length ((bn,bn),z0,z0,[])).1,(dG.getD x.2.2.length ((bn,bn),z0,z0,[])).2.1,(nL y_2),(dG.getD x.2.2.length ((bn,bn),z0,z0,[])).2.2.2)) fun tw=>
 (.pn 0 6
 (.ret tw))))))))))))))))))
abbrev ab8:FnO:=⟨VB,z5,ab7⟩
theorem ahU:aq Tryz.prog 155 (jP ab8):=aq.trO ab8 amh (fn:=Tryz.f155) bt XF mixed (by kernel_rfl) (aH.nil _ _) (fun x=>aK.nil) (fun x=>(by kernel_rfl)) fun x r0 Q=>(by kernel_rfl)
end
end Go.Proofs.YtngdehlpoomaiaaGreat
namespace Go.Proofs.YtngdehlpoomaiaaGreat
open Go Go.Ev Go.Proofs
theorem VC:aq Tryz.prog 155 (jP ⟨VB,fun _=>False,fun x=> []⟩):=by
 intro X args hp nm k hs
 unfold jP at hs
 split at hs
 ·split at hs
  ·split at hs
   ·split at hs
    ·obtain ⟨_,h,_⟩:=bh hs
     exact h.elim
    ·exact hs.elim
   ·exact hs.elim
  ·exact hs.elim
 ·exact hs.elim
@[reducible] noncomputable def A2:Nat->w8
 |0=>⟨fun _=>False,fun x=> [],VC⟩
 |n+1=>⟨@z5 (A2 n),@ab7 (A2 n),@ahU (A2 n)⟩
def Gd (x:adB):Prop:= @tV (A2 (x.1.length+1)) x
def ahW (x:adB):List zy:= @Lj (A2 (x.1.length+1)) x
abbrev SH:FnO:=⟨VB,Gd,ahW⟩
theorem ahX:aq Tryz.prog 155 (jP SH):=by
 intro X args hp nm k hs
 unfold jP at hs
 split at hs
 rotate_left
 ·exact hs.elim
 rename_i a nT nF nG
 split at hs
 rotate_left
 ·exact hs.elim
 rename_i pl J8 b1 cT eT cF eF cG eG xN hT1 hF1 hG1
 split at hs
 rotate_left
 ·exact hs.elim
 rename_i l rr L w7 b2 UF JJ
 have au5:yN hp gP cT=some (l,rr):=UF
 have auy:fJ hp (.one (.sl OQ)) [.v (.one cF)]=some (L,[],w7,b2):=JJ
 refine (A2 (pl.length+1)).ok X _ hp nm k ?_
 simp only [jP,xN,hT1,hF1,hG1,au5,auy]
 exact hs
end Go.Proofs.YtngdehlpoomaiaaGreat
