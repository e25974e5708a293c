/- Building a tree: the function that calls itself. -/
import Derived.Test.YtngdehlpoomaiaaGreatTq
import Derived.Test.YtngdehlpoomaiaaGreatEvU
noncomputable section
set_option linter.unusedSectionVars false
set_option linter.unusedVariables false
set_option linter.unusedSimpArgs false
namespace Go.Proofs.YtngdehlpoomaiaaGreat
open Go Go.Ev Go.Proofs
abbrev fS:Ty:= .prod (.prod (.prod (.int .i64) (.prod (.int .i64) (.int .i64))) (.prod (.int .i64) (.prod (.int .i64) (.int .i64)))) (.prod (.int .i64) (.prod (.int .i64) (.sl (.int .i64))))
abbrev Sf:Ty:= .prod (.prod (.int .i64) (.prod (.int .i64) (.int .i64))) (.prod (.prod (.int .i64) (.prod (.int .i64) (.int .i64))) (.prod (.int .i64) (.prod (.int .i64) (.int .i64))))
abbrev Nn:Ed:=⟨fS,Sf,155,75,202,203⟩
abbrev vy:Type:=((Int×Int×Int)×Int×Int×Int)×(Int×Int×List Int)
abbrev Uw:Type:=List Int×(List ((Int×Int×Int)×(Int×Int×Int)×Int×Int×Int)×List vy)
class td where
 pre:Uw->Prop
 f:Uw->List vy
 ok:ah Tryz.prog 155 (iV ⟨Nn,pre,f⟩)
section
variable [td]
def E0 (x:Uw):List vy:=td.f x
def qK (x:Uw):Prop:=td.pre x
abbrev Dz:FnO:=⟨Nn,qK,E0⟩
theorem YK:ah Tryz.prog 155 (iV Dz):=td.ok
def aaJ:List (Nat×Ev.Spec):=(155,iV Dz)::Kq
theorem O1:af Tryz.prog aaJ:=af.add (fn:=Tryz.f155) (by kernel_rfl) YK Mb
def S1 (x:(List Int×List I9×List ((I3×I3)×Int×Int×List Int))):(List ((I3×I3)×Int×Int×List Int)):=
 (aj (fO (x.2.1,x.1)) fun y=>
 (if ((x.1.length:Int)<=2) then
 (aj (tw x.1) fun aA=>
 (aj (List.set (x.2.2++ [(y,0,0,[])]) x.2.2.length ((List.getD (x.2.2++ [(y,0,0,[])]) x.2.2.length (((0,0,0),0,0,0),0,0,[])).1,(List.getD (x.2.2++ [(y,0,0,[])]) x.2.2.length (((0,0,0),0,0,0),0,0,[])).2.1,(List.getD (x.2.2++ [(y,0,0,[])]) x.2.2.length (((0,0,0),0,0,0),0,0,[])).2.2.1,aA)) fun y_2=>
 y_2)) else
 (aj (sI (x.2.1,x.1)) fun aA=>
 (aj (E0 (aA.1,x.2.1,(x.2.2++ [(y,0,0,[])]))) fun y_2=>
 (aj (E0 (aA.2,x.2.1,y_2)) fun bg=>
 (aj (List.set bg x.2.2.length ((bg.getD x.2.2.length (((0,0,0),0,0,0),0,0,[])).1,(au ((x.2.2.length:Int)+1)),(bg.getD x.2.2.length (((0,0,0),0,0,0),0,0,[])).2.2)) fun bW=>
 (aj (List.set bW x.2.2.length ((bW.getD x.2.2.length (((0,0,0),0,0,0),0,0,[])).1,(bW.getD x.2.2.length (((0,0,0),0,0,0),0,0,[])).2.1,(y_2.length:Int),(bW.getD x.2.2.length (((0,0,0),0,0,0),0,0,[])).2.2.2)) fun cC=>
 cC)))))))
def vT (x:(List Int×List I9×List ((I3×I3)×Int×Int×List Int))):Prop:=
 ((qB (x.2.1,x.1))/\
 aB (fO (x.2.1,x.1)) fun y=>
 (((x.2.2.length+1)<1099511627776)/\
 ((((x.1.length:Int)<=2)->
 ((kV x.1)/\
 aB (tw x.1) fun aA=>
 (((x.2.2.length:Int)<((x.2.2++ [(y,0,0,[])]).length:Int))/\
 ((x.2.2.length<(List.length (x.2.2++ [(y,0,0,[])])))/\
 ((x.2.2.length<(List.length (x.2.2++ [(y,0,0,[])])))/\
 (x.2.2.length<(List.length (x.2.2++ [(y,0,0,[])]))))))))/\
 (¬((x.1.length:Int)<=2)->
 ((jG (x.2.1,x.1))/\
 aB (sI (x.2.1,x.1)) fun aA=>
 ((qK (aA.1,x.2.1,(x.2.2++ [(y,0,0,[])])))/\
 aB (E0 (aA.1,x.2.1,(x.2.2++ [(y,0,0,[])]))) fun y_2=>
 ((qK (aA.2,x.2.1,y_2))/\
 aB (E0 (aA.2,x.2.1,y_2)) fun bg=>
 (((x.2.2.length:Int)<(bg.length:Int))/\
 ((x.2.2.length<bg.length)/\
 ((x.2.2.length<bg.length)/\
 ((x.2.2.length<bg.length)/\
 (aB (List.set bg x.2.2.length ((bg.getD x.2.2.length (((0,0,0),0,0,0),0,0,[])).1,(au ((x.2.2.length:Int)+1)),(bg.getD x.2.2.length (((0,0,0),0,0,0),0,0,[])).2.2)) fun bW=>
 (((x.2.2.length:Int)<(bW.length:Int))/\
 ((x.2.2.length<bW.length)/\
 ((x.2.2.length<bW.length)/\
 (x.2.2.length<bW.length))))))))))))))))
def acK (x:(List Int×List I9×List ((I3×I3)×Int×Int×List Int))):Tr (List ((I3×I3)×Int×Int×List Int)) true:=
 (.fn KZ (x.2.1,x.1) fun y=>
 (.od ((x.2.2.length+1)<1099511627776)
 (.i11 ((nL x.1)<=2)
 (.fn yN x.1 fun aA=>
 (.og ((decide (z0<=(nL x.2.2)))&&(decide ((nL x.2.2)<(nL (x.2.2++ [(y,z0,z0,[])]))))) ((nL x.2.2)<(nL (x.2.2++ [(y,z0,z0,[])]))) (fun h=>(gh rfl (decide_eq_true h)))
 (.od (x.2.2.length<(List.length (x.2.2++ [(y,z0,z0,[])])))
 (.od (x.2.2.length<(List.length (x.2.2++ [(y,z0,z0,[])])))
 (.od (x.2.2.length<(List.length (x.2.2++ [(y,z0,z0,[])])))
 (.lt (List.set (x.2.2++ [(y,z0,z0,[])]) x.2.2.length ((List.getD (x.2.2++ [(y,z0,z0,[])]) x.2.2.length ((bH,bH),z0,z0,[])).1,(List.getD (x.2.2++ [(y,z0,z0,[])]) x.2.2.length ((bH,bH),z0,z0,[])).2.1,(List.getD (x.2.2++ [(y,z0,z0,[])]) x.2.2.length ((bH,bH),z0,z0,[])).2.2.1,aA)) fun y_2=>
 (.pn 0 6
 (.ret y_2))))))))
 (.fn GQ (x.2.1,x.1) fun aA=>
 (.fnO Dz (aA.1,x.2.1,(x.2.2++ [(y,z0,z0,[])])) fun y_2=>
 (.fnO Dz (aA.2,x.2.1,y_2) fun bg=>
 (.og ((decide (z0<=(nL x.2.2)))&&(decide ((nL x.2.2)<(nL bg)))) ((nL x.2.2)<(nL bg)) (fun h=>(gh rfl (decide_eq_true h)))
 (.od (x.2.2.length<bg.length)
 (.od (x.2.2.length<bg.length)
 (.od (x.2.2.length<bg.length)
 (.lt (List.set bg x.2.2.length ((bg.getD x.2.2.length ((bH,bH),z0,z0,[])).1,(w1 (nL x.2.2)),(bg.getD x.2.2.length ((bH,bH),z0,z0,[])).2.2)) fun bW=>
 (.og ((decide (z0<=(nL x.2.2)))&&(decide ((nL x.2.2)<(nL bW)))) ((nL x.2.2)<(nL bW)) (fun h=>(gh rfl (decide_eq_true h)))
 (.od (x.2.2.length<bW.length)
 (.od (x.2.2.length<bW.length)
 (.od (x.2.2.length<bW.length)
 (.lt (List.set bW x.2.2.length ((bW.getD x.2.2.length ((bH,bH),z0,z0,[])).1,(bW.getD x.2.2.length ((bH,bH),z0,z0,[])).2.1,(nL y_2),(bW.getD x.2.2.length ((bH,bH),z0,z0,[])).2.2.2)) fun cC=>
 (.pn 0 6
 (.ret cC))))))))))))))))))
abbrev S2:FnO:=⟨Nn,vT,S1⟩
theorem YJ:ah Tryz.prog 155 (iV S2):=ah.trO S2 acK (fn:=Tryz.f155) az O1 mixed (by kernel_rfl) (av.nil _ _) (fun x=>ax.nil) (fun x=>(by kernel_rfl)) fun x r0 Q=>(by kernel_rfl)
end
end Go.Proofs.YtngdehlpoomaiaaGreat
namespace Go.Proofs.YtngdehlpoomaiaaGreat
open Go Go.Ev Go.Proofs
theorem Np:ah Tryz.prog 155 (iV ⟨Nn,fun _=>False,fun x=> []⟩):=by
 intro X args hp nm k hs
 unfold iV at hs
 split at hs
 ·split at hs
  ·split at hs
   ·split at hs
    ·obtain ⟨_,h,_⟩:=bk hs
     exact h.elim
    ·exact hs.elim
   ·exact hs.elim
  ·exact hs.elim
 ·exact hs.elim
@[reducible] noncomputable def wX:Nat->td
 |0=>⟨fun _=>False,fun x=> [],Np⟩
 |n+1=>⟨@vT (wX n),@S1 (wX n),@YJ (wX n)⟩
def Bl (x:Uw):Prop:= @qK (wX (x.1.length+1)) x
def YL (x:Uw):List vy:= @E0 (wX (x.1.length+1)) x
abbrev Lm:FnO:=⟨Nn,Bl,YL⟩
theorem YM:ah Tryz.prog 155 (iV Lm):=by
 intro X args hp nm k hs
 unfold iV at hs
 split at hs
 rotate_left
 ·exact hs.elim
 rename_i a nT nF nG
 split at hs
 rotate_left
 ·exact hs.elim
 rename_i pl DX b1 cT eT cF eF cG eG tX hT1 hF1 hG1
 split at hs
 rotate_left
 ·exact hs.elim
 rename_i l rr L ta b2 Mu DA
 have ali:uV hp fS cT=some (l,rr):=Mu
 have akL:fa hp (.one (.sl Sf)) [.v (.one cF)]=some (L,[],ta,b2):=DA
 refine (wX (pl.length+1)).ok X _ hp nm k ?_
 simp only [iV,tX,hT1,hF1,hG1,ali,akL]
 exact hs
end Go.Proofs.YtngdehlpoomaiaaGreat
