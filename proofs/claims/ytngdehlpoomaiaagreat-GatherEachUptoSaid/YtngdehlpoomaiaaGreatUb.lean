/- Building a tree: the function that calls itself. -/
import Derived.Test.YtngdehlpoomaiaaGreatTq
import Derived.Test.YtngdehlpoomaiaaGreatEvU
noncomputable section
set_option linter.unusedSectionVars false
set_option linter.unusedVariables false
set_option linter.unusedSimpArgs false
namespace Go.Proofs.YtngdehlpoomaiaaGreat
open Go Go.Ev Go.Proofs
abbrev fM:Ty:= .prod (.prod (.prod (.int .i64) (.prod (.int .i64) (.int .i64))) (.prod (.int .i64) (.prod (.int .i64) (.int .i64)))) (.prod (.int .i64) (.prod (.int .i64) (.sl (.int .i64))))
abbrev IS:Ty:= .prod (.prod (.int .i64) (.prod (.int .i64) (.int .i64))) (.prod (.prod (.int .i64) (.prod (.int .i64) (.int .i64))) (.prod (.int .i64) (.prod (.int .i64) (.int .i64))))
abbrev Ol:EA:=⟨fM,IS,155,75,202,203⟩
abbrev vQ:Type:=((Int×Int×Int)×Int×Int×Int)×(Int×Int×List Int)
abbrev Vo:Type:=List Int×(List ((Int×Int×Int)×(Int×Int×Int)×Int×Int×Int)×List vQ)
class tI where
 pre:Vo->Prop
 f:Vo->List vQ
 ok:ai Tryz.prog 155 (iQ ⟨Ol,pre,f⟩)
section
variable [tI]
def Fy (x:Vo):List vQ:=tI.f x
def qT (x:Vo):Prop:=tI.pre x
abbrev DY:FnO:=⟨Ol,qT,Fy⟩
theorem Zu:ai Tryz.prog 155 (iQ DY):=tI.ok
def abH:List (Nat×Ev.Spec):=(155,iQ DY)::K3
theorem P4:ah Tryz.prog abH:=ah.add (fn:=Tryz.f155) (by kernel_rfl) Zu MS
def TO (x:(List Int×List I9×List ((I3×I3)×Int×Int×List Int))):(List ((I3×I3)×Int×Int×List Int)):=
 (aq (fH (x.2.1,x.1)) fun y=>
 (if ((x.1.length:Int)<=2) then
 (aq (tS x.1) fun aB=>
 (aq (List.set (x.2.2++ [(y,0,0,[])]) x.2.2.length ((List.getD (x.2.2++ [(y,0,0,[])]) x.2.2.length (((0,0,0),0,0,0),0,0,[])).1,(List.getD (x.2.2++ [(y,0,0,[])]) x.2.2.length (((0,0,0),0,0,0),0,0,[])).2.1,(List.getD (x.2.2++ [(y,0,0,[])]) x.2.2.length (((0,0,0),0,0,0),0,0,[])).2.2.1,aB)) fun y_2=>
 y_2)) else
 (aq (sV (x.2.1,x.1)) fun aB=>
 (aq (Fy (aB.1,x.2.1,(x.2.2++ [(y,0,0,[])]))) fun y_2=>
 (aq (Fy (aB.2,x.2.1,y_2)) fun bk=>
 (aq (List.set bk x.2.2.length ((bk.getD x.2.2.length (((0,0,0),0,0,0),0,0,[])).1,(av ((x.2.2.length:Int)+1)),(bk.getD x.2.2.length (((0,0,0),0,0,0),0,0,[])).2.2)) fun bQ=>
 (aq (List.set bQ x.2.2.length ((bQ.getD x.2.2.length (((0,0,0),0,0,0),0,0,[])).1,(bQ.getD x.2.2.length (((0,0,0),0,0,0),0,0,[])).2.1,(y_2.length:Int),(bQ.getD x.2.2.length (((0,0,0),0,0,0),0,0,[])).2.2.2)) fun jt=>
 jt)))))))
def wq (x:(List Int×List I9×List ((I3×I3)×Int×Int×List Int))):Prop:=
 ((qK (x.2.1,x.1))/\
 aC (fH (x.2.1,x.1)) fun y=>
 (((x.2.2.length+1)<1099511627776)/\
 ((((x.1.length:Int)<=2)->
 ((kU x.1)/\
 aC (tS x.1) fun aB=>
 (((x.2.2.length:Int)<((x.2.2++ [(y,0,0,[])]).length:Int))/\
 ((x.2.2.length<(List.length (x.2.2++ [(y,0,0,[])])))/\
 ((x.2.2.length<(List.length (x.2.2++ [(y,0,0,[])])))/\
 (x.2.2.length<(List.length (x.2.2++ [(y,0,0,[])]))))))))/\
 (¬((x.1.length:Int)<=2)->
 ((jB (x.2.1,x.1))/\
 aC (sV (x.2.1,x.1)) fun aB=>
 ((qT (aB.1,x.2.1,(x.2.2++ [(y,0,0,[])])))/\
 aC (Fy (aB.1,x.2.1,(x.2.2++ [(y,0,0,[])]))) fun y_2=>
 ((qT (aB.2,x.2.1,y_2))/\
 aC (Fy (aB.2,x.2.1,y_2)) fun bk=>
 (((x.2.2.length:Int)<(bk.length:Int))/\
 ((x.2.2.length<bk.length)/\
 ((x.2.2.length<bk.length)/\
 ((x.2.2.length<bk.length)/\
 (aC (List.set bk x.2.2.length ((bk.getD x.2.2.length (((0,0,0),0,0,0),0,0,[])).1,(av ((x.2.2.length:Int)+1)),(bk.getD x.2.2.length (((0,0,0),0,0,0),0,0,[])).2.2)) fun bQ=>
 (((x.2.2.length:Int)<(bQ.length:Int))/\
 ((x.2.2.length<bQ.length)/\
 ((x.2.2.length<bQ.length)/\
 (x.2.2.length<bQ.length))))))))))))))))
def adR (x:(List Int×List I9×List ((I3×I3)×Int×Int×List Int))):Tr (List ((I3×I3)×Int×Int×List Int)) true:=
 (.fn LG (x.2.1,x.1) fun y=>
 (.od ((x.2.2.length+1)<1099511627776)
 (.i11 ((nL x.1)<=2)
 (.fn zc x.1 fun aB=>
 (.og ((decide (z0<=(nL x.2.2)))&&(decide ((nL x.2.2)<(nL (x.2.2++ [(y,z0,z0,[])]))))) ((nL x.2.2)<(nL (x.2.2++ [(y,z0,z0,[])]))) (fun h=>(gV rfl (decide_eq_true h)))
 (.od (x.2.2.length<(List.length (x.2.2++ [(y,z0,z0,[])])))
 (.od (x.2.2.length<(List.length (x.2.2++ [(y,z0,z0,[])])))
 (.od (x.2.2.length<(List.length (x.2.2++ [(y,z0,z0,[])])))
 (.lt (List.set (x.2.2++ [(y,z0,z0,[])]) x.2.2.length ((List.getD (x.2.2++ [(y,z0,z0,[])]) x.2.2.length ((bX,bX),z0,z0,[])).1,(List.getD (x.2.2++ [(y,z0,z0,[])]) x.2.2.length ((bX,bX),z0,z0,[])).2.1,(List.getD (x.2.2++ [(y,z0,z0,[])]) x.2.2.length ((bX,bX),z0,z0,[])).2.2.1,aB)) fun y_2=>
 (.pn 0 6
 (.ret y_2))))))))
 (.fn Hx (x.2.1,x.1) fun aB=>
 (.fnO DY (aB.1,x.2.1,(x.2.2++ [(y,z0,z0,[])])) fun y_2=>
 (.fnO DY (aB.2,x.2.1,y_2) fun bk=>
 (.og ((decide (z0<=(nL x.2.2)))&&(decide ((nL x.2.2)<(nL bk)))) ((nL x.2.2)<(nL bk)) (fun h=>(gV rfl (decide_eq_true h)))
 (.od (x.2.2.length<bk.length)
 (.od (x.2.2.length<bk.length)
 (.od (x.2.2.length<bk.length)
 (.lt (List.set bk x.2.2.length ((bk.getD x.2.2.length ((bX,bX),z0,z0,[])).1,(w1 (nL x.2.2)),(bk.getD x.2.2.length ((bX,bX),z0,z0,[])).2.2)) fun bQ=>
 (.og ((decide (z0<=(nL x.2.2)))&&(decide ((nL x.2.2)<(nL bQ)))) ((nL x.2.2)<(nL bQ)) (fun h=>(gV rfl (decide_eq_true h)))
 (.od (x.2.2.length<bQ.length)
 (.od (x.2.2.length<bQ.length)
 (.od (x.2.2.length<bQ.length)
 (.lt (List.set bQ x.2.2.length ((bQ.getD x.2.2.length ((bX,bX),z0,z0,[])).1,(bQ.getD x.2.2.length ((bX,bX),z0,z0,[])).2.1,(nL y_2),(bQ.getD x.2.2.length ((bX,bX),z0,z0,[])).2.2.2)) fun jt=>
 (.pn 0 6
 (.ret jt))))))))))))))))))
abbrev TP:FnO:=⟨Ol,wq,TO⟩
theorem Zt:ai Tryz.prog 155 (iQ TP):=ai.trO TP adR (fn:=Tryz.f155) aA P4 mixed (by kernel_rfl) (ax.nil _ _) (fun x=>ay.nil) (fun x=>(by kernel_rfl)) fun x r0 Q=>(by kernel_rfl)
end
end Go.Proofs.YtngdehlpoomaiaaGreat
namespace Go.Proofs.YtngdehlpoomaiaaGreat
open Go Go.Ev Go.Proofs
theorem Om:ai Tryz.prog 155 (iQ ⟨Ol,fun _=>False,fun x=> []⟩):=by
 intro X args hp nm k hs
 unfold iQ at hs
 split at hs
 ·split at hs
  ·split at hs
   ·split at hs
    ·obtain ⟨_,h,_⟩:=bg hs
     exact h.elim
    ·exact hs.elim
   ·exact hs.elim
  ·exact hs.elim
 ·exact hs.elim
@[reducible] noncomputable def xm:Nat->tI
 |0=>⟨fun _=>False,fun x=> [],Om⟩
 |n+1=>⟨@wq (xm n),@TO (xm n),@Zt (xm n)⟩
def BJ (x:Vo):Prop:= @qT (xm (x.1.length+1)) x
def Zv (x:Vo):List vQ:= @Fy (xm (x.1.length+1)) x
abbrev L4:FnO:=⟨Ol,BJ,Zv⟩
theorem Zw:ai Tryz.prog 155 (iQ L4):=by
 intro X args hp nm k hs
 unfold iQ at hs
 split at hs
 rotate_left
 ·exact hs.elim
 rename_i a nT nF nG
 split at hs
 rotate_left
 ·exact hs.elim
 rename_i pl El b1 cT eT cF eF cG eG uy hT1 hF1 hG1
 split at hs
 rotate_left
 ·exact hs.elim
 rename_i l rr L tH b2 Ng DZ
 have amv:vm hp fM cT=some (l,rr):=Ng
 have alX:eY hp (.one (.sl IS)) [.v (.one cF)]=some (L,[],tH,b2):=DZ
 refine (xm (pl.length+1)).ok X _ hp nm k ?_
 simp only [iQ,uy,hT1,hF1,hG1,amv,alX]
 exact hs
end Go.Proofs.YtngdehlpoomaiaaGreat
