/- Building a tree: the function that calls itself. -/
import Derived.Test.YtlkgabjhkfhgaaaGreatTq
import Derived.Test.YtlkgabjhkfhgaaaGreatEvU
noncomputable section
set_option linter.unusedSectionVars false
set_option linter.unusedVariables false
set_option linter.unusedSimpArgs false
namespace Go.Proofs.YtlkgabjhkfhgaaaGreat
open Go Go.Ev Go.Proofs
abbrev zP:Ty:= .prod (.prod (.prod (.int .i64) (.prod (.int .i64) (.int .i64))) (.prod (.int .i64) (.prod (.int .i64) (.int .i64)))) (.prod (.int .i64) (.prod (.int .i64) (.sl (.int .i64))))
abbrev XK:Ty:= .prod (.prod (.int .i64) (.prod (.int .i64) (.int .i64))) (.prod (.prod (.int .i64) (.prod (.int .i64) (.int .i64))) (.prod (.int .i64) (.prod (.int .i64) (.int .i64))))
abbrev H9:Ax:=⟨zP,XK,45,23,103,104⟩
abbrev u6:Type:=((Int×(Int×Int))×(Int×(Int×Int)))×(Int×(Int×(List Int)))
abbrev Nh:Type:=List Int×(List ((Int×(Int×Int))×((Int×(Int×Int))×(Int×(Int×Int))))×List u6)
class qF where
 pre:Nh->Prop
 f:Nh->List u6
 ok:ak Tryz.prog 45 (iq ⟨H9,pre,f⟩)
section
variable [qF]
def A7 (x:Nh):List u6:=qF.f x
def oN (x:Nh):Prop:=qF.pre x
abbrev zY:Wf:=⟨H9,oN,A7⟩
theorem Qq:ak Tryz.prog 45 (iq zY):=qF.ok
def SF:List (Nat×Ev.Spec):=(45,iq zY)::FA
theorem Jf:ah Tryz.prog SF:=ah.add (fn:=Tryz.f45) (by kernel_rfl) Qq GV
def L2 (x:((List Int)×((List I9)×(List ((I3×I3)×(Int×(Int×(List Int)))))))):(List ((I3×I3)×(Int×(Int×(List Int))))):=
 (ai (fy (x.2.1,x.1)) fun y=>
 (if ((x.1.length:Int)<=(2:Int)) then
 (ai (qO x.1) fun aq=>
 (ai (List.set (x.2.2++ [(y,((0:Int),((0:Int),[])))]) (List.length x.2.2) ((List.getD (x.2.2++ [(y,((0:Int),((0:Int),[])))]) (List.length x.2.2) ((((0:Int),((0:Int),(0:Int))),((0:Int),((0:Int),(0:Int)))),((0:Int),((0:Int),[])))).1,((List.getD (x.2.2++ [(y,((0:Int),((0:Int),[])))]) (List.length x.2.2) ((((0:Int),((0:Int),(0:Int))),((0:Int),((0:Int),(0:Int)))),((0:Int),((0:Int),[])))).2.1,((List.getD (x.2.2++ [(y,((0:Int),((0:Int),[])))]) (List.length x.2.2) ((((0:Int),((0:Int),(0:Int))),((0:Int),((0:Int),(0:Int)))),((0:Int),((0:Int),[])))).2.2.1,aq)))) fun y_2=>
 y_2)) else
 (ai (qm (x.2.1,x.1)) fun aq=>
 (ai (A7 (aq.1,(x.2.1,(x.2.2++ [(y,((0:Int),((0:Int),[])))])))) fun y_2=>
 (ai (A7 (aq.2,(x.2.1,y_2))) fun au=>
 (ai (List.set au (List.length x.2.2) ((List.getD au (List.length x.2.2) ((((0:Int),((0:Int),(0:Int))),((0:Int),((0:Int),(0:Int)))),((0:Int),((0:Int),[])))).1,((ae ((x.2.2.length:Int)+(1:Int))),(List.getD au (List.length x.2.2) ((((0:Int),((0:Int),(0:Int))),((0:Int),((0:Int),(0:Int)))),((0:Int),((0:Int),[])))).2.2))) fun aG=>
 (ai (List.set aG (List.length x.2.2) ((List.getD aG (List.length x.2.2) ((((0:Int),((0:Int),(0:Int))),((0:Int),((0:Int),(0:Int)))),((0:Int),((0:Int),[])))).1,((List.getD aG (List.length x.2.2) ((((0:Int),((0:Int),(0:Int))),((0:Int),((0:Int),(0:Int)))),((0:Int),((0:Int),[])))).2.1,((y_2.length:Int),(List.getD aG (List.length x.2.2) ((((0:Int),((0:Int),(0:Int))),((0:Int),((0:Int),(0:Int)))),((0:Int),((0:Int),[])))).2.2.2)))) fun cu=>
 cu)))))))
def sU (x:((List Int)×((List I9)×(List ((I3×I3)×(Int×(Int×(List Int)))))))):Prop:=
 ((oJ (x.2.1,x.1))/\
 az (fy (x.2.1,x.1)) fun y=>
 ((((List.length x.2.2)+1)<1099511627776)/\
 ((((x.1.length:Int)<=(2:Int))->
 ((jY x.1)/\
 az (qO x.1) fun aq=>
 (((x.2.2.length:Int)<((x.2.2++ [(y,((0:Int),((0:Int),[])))]).length:Int))/\
 (((List.length x.2.2)<(List.length (x.2.2++ [(y,((0:Int),((0:Int),[])))])))/\
 (((List.length x.2.2)<(List.length (x.2.2++ [(y,((0:Int),((0:Int),[])))])))/\
 ((List.length x.2.2)<(List.length (x.2.2++ [(y,((0:Int),((0:Int),[])))]))))))))/\
 (¬((x.1.length:Int)<=(2:Int))->
 ((iZ (x.2.1,x.1))/\
 az (qm (x.2.1,x.1)) fun aq=>
 ((oN (aq.1,(x.2.1,(x.2.2++ [(y,((0:Int),((0:Int),[])))]))))/\
 az (A7 (aq.1,(x.2.1,(x.2.2++ [(y,((0:Int),((0:Int),[])))])))) fun y_2=>
 ((oN (aq.2,(x.2.1,y_2)))/\
 az (A7 (aq.2,(x.2.1,y_2))) fun au=>
 (((x.2.2.length:Int)<(au.length:Int))/\
 (((List.length x.2.2)<(List.length au))/\
 (((List.length x.2.2)<(List.length au))/\
 (((List.length x.2.2)<(List.length au))/\
 (az (List.set au (List.length x.2.2) ((List.getD au (List.length x.2.2) ((((0:Int),((0:Int),(0:Int))),((0:Int),((0:Int),(0:Int)))),((0:Int),((0:Int),[])))).1,((ae ((x.2.2.length:Int)+(1:Int))),(List.getD au (List.length x.2.2) ((((0:Int),((0:Int),(0:Int))),((0:Int),((0:Int),(0:Int)))),((0:Int),((0:Int),[])))).2.2))) fun aG=>
 (((x.2.2.length:Int)<(aG.length:Int))/\
 (((List.length x.2.2)<(List.length aG))/\
 (((List.length x.2.2)<(List.length aG))/\
 ((List.length x.2.2)<(List.length aG)))))))))))))))))
def TN (x:((List Int)×((List I9)×(List ((I3×I3)×(Int×(Int×(List Int)))))))):Tr (List ((I3×I3)×(Int×(Int×(List Int))))) true:=
 (.fn FR (x.2.1,x.1) fun y=>
 (.od (((List.length x.2.2)+1)<1099511627776)
 (.i11 ((nL x.1)<=(2:Int))
 (.fn vm x.1 fun aq=>
 (.og ((decide (z0<=(nL x.2.2)))&&(decide ((nL x.2.2)<(nL (x.2.2++ [(y,(z0,(z0,[])))]))))) ((nL x.2.2)<(nL (x.2.2++ [(y,(z0,(z0,[])))]))) (fun h=>(c7 rfl (decide_eq_true h)))
 (.od ((List.length x.2.2)<(List.length (x.2.2++ [(y,(z0,(z0,[])))])))
 (.od ((List.length x.2.2)<(List.length (x.2.2++ [(y,(z0,(z0,[])))])))
 (.od ((List.length x.2.2)<(List.length (x.2.2++ [(y,(z0,(z0,[])))])))
 (.lt (List.set (x.2.2++ [(y,(z0,(z0,[])))]) (List.length x.2.2) ((List.getD (x.2.2++ [(y,(z0,(z0,[])))]) (List.length x.2.2) ((eE,eE),(z0,(z0,[])))).1,((List.getD (x.2.2++ [(y,(z0,(z0,[])))]) (List.length x.2.2) ((eE,eE),(z0,(z0,[])))).2.1,((List.getD (x.2.2++ [(y,(z0,(z0,[])))]) (List.length x.2.2) ((eE,eE),(z0,(z0,[])))).2.2.1,aq)))) fun y_2=>
 (.pn 0 6
 (.ret y_2))))))))
 (.fn CX (x.2.1,x.1) fun aq=>
 (.Yq zY (aq.1,(x.2.1,(x.2.2++ [(y,(z0,(z0,[])))]))) fun y_2=>
 (.Yq zY (aq.2,(x.2.1,y_2)) fun au=>
 (.og ((decide (z0<=(nL x.2.2)))&&(decide ((nL x.2.2)<(nL au)))) ((nL x.2.2)<(nL au)) (fun h=>(c7 rfl (decide_eq_true h)))
 (.od ((List.length x.2.2)<(List.length au))
 (.od ((List.length x.2.2)<(List.length au))
 (.od ((List.length x.2.2)<(List.length au))
 (.lt (List.set au (List.length x.2.2) ((List.getD au (List.length x.2.2) ((eE,eE),(z0,(z0,[])))).1,((w1 (nL x.2.2)),(List.getD au (List.length x.2.2) ((eE,eE),(z0,(z0,[])))).2.2))) fun aG=>
 (.og ((decide (z0<=(nL x.2.2)))&&(decide ((nL x.2.2)<(nL aG)))) ((nL x.2.2)<(nL aG)) (fun h=>(c7 rfl (decide_eq_true h)))
 (.od ((List.length x.2.2)<(List.length aG))
 (.od ((List.length x.2.2)<(List.length aG))
 (.od ((List.length x.2.2)<(List.length aG))
 (.lt (List.set aG (List.length x.2.2) ((List.getD aG (List.length x.2.2) ((eE,eE),(z0,(z0,[])))).1,((List.getD aG (List.length x.2.2) ((eE,eE),(z0,(z0,[])))).2.1,((nL y_2),(List.getD aG (List.length x.2.2) ((eE,eE),(z0,(z0,[])))).2.2.2)))) fun cu=>
 (.pn 0 6
 (.ret cu))))))))))))))))))
abbrev L3:Wf:=⟨H9,sU,L2⟩
theorem Qp:ak Tryz.prog 45 (iq L3):=ak.trO L3 TN (fn:=Tryz.f45) aC Jf mixed (by kernel_rfl) (aA.nil _ _) (fun x=>aB.nil) (fun x=>(by kernel_rfl)) fun x r0 Q=>(by kernel_rfl)
end
end Go.Proofs.YtlkgabjhkfhgaaaGreat
namespace Go.Proofs.YtlkgabjhkfhgaaaGreat
open Go Go.Ev Go.Proofs
theorem Ia:ak Tryz.prog 45 (iq ⟨H9,fun _=>False,fun x=> []⟩):=by
 intro X args hp nm k hs
 unfold iq at hs
 split at hs
 ·split at hs
  ·split at hs
   ·split at hs
    ·obtain ⟨_,h,_⟩:=br hs
     exact h.elim
    ·exact hs.elim
   ·exact hs.elim
  ·exact hs.elim
 ·exact hs.elim
@[reducible] noncomputable def tH:Nat->qF
 |0=>⟨fun _=>False,fun x=> [],Ia⟩
 |n+1=>⟨@sU (tH n),@L2 (tH n),@Qp (tH n)⟩
def xQ (x:Nh):Prop:= @oN (tH (x.1.length+1)) x
def Qr (x:Nh):List u6:= @A7 (tH (x.1.length+1)) x
abbrev Gd:Wf:=⟨H9,xQ,Qr⟩
theorem Qs:ak Tryz.prog 45 (iq Gd):=by
 intro X args hp nm k hs
 unfold iq at hs
 split at hs
 rotate_left
 ·exact hs.elim
 rename_i a nT nF nG
 split at hs
 rotate_left
 ·exact hs.elim
 rename_i pl Al b1 cT eT cF eF cG eG ri ZX hF1 hG1
 split at hs
 rotate_left
 ·exact hs.elim
 rename_i l rr L FE b2 JW Ee
 have abC:Cs hp zP cT=some (l,rr):=JW
 have aa4:iG hp (.one (.sl XK)) [.v (.one cF)]=some (L,[],FE,b2):=Ee
 refine (tH (pl.length+1)).ok X _ hp nm k ?_
 simp only [iq,ri,ZX,hF1,hG1,abC,aa4]
 exact hs
end Go.Proofs.YtlkgabjhkfhgaaaGreat
