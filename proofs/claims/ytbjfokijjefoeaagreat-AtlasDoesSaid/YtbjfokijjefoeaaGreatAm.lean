/- Models of functions of layer 18: all triangles. -/
import Derived.Test.YtbjfokijjefoeaaGreatAd
noncomputable section
set_option linter.unusedSectionVars false
set_option linter.unusedVariables false
set_option linter.unusedSimpArgs false
namespace Go.Proofs.YtbjfokijjefoeaaGreat
open Go Go.Ev Go.Proofs
def UB:List (Nat×Ev.Spec):=(32,aj sQ)::aau
theorem Tc:ae Tryz.prog UB:=ae.add (fn:=Tryz.f32) (by kernel_rfl) Ip Xp
def UC:List (Nat×Ev.Spec):=(34,aj AK)::UB
theorem zQ:ae Tryz.prog UC:=ae.add (fn:=Tryz.f34) (by kernel_rfl) VT Tc
def TK (x:(Int×Int×Int×List (List Int×List I6×I2)×List (Int×I3))):aB:=⟨[],⟨bB 64 0 [(1,.v (.one (.ptr 0 0))),(5,.v (.one (.full 3))),(6,.v (.one (.full 4))),(15,.v (.one (.full 1))),(16,.v (.one (.i .i64))),(17,.v (.one (.i .i64)))],[.cells [.i .i64,.i .i64,.i .i64,.full 1,.full 2] 25,.row (Ty.prod (Ty.sl yi) (Ty.prod (Ty.sl aV) aS)) 0,.row (Ty.prod yi cq) 0,.row aV 2,.row yi 2],0,none,[],[0,2,3,4,5,6],[7,8,1],[(.l aV),(.l yi),.i],[.i (x.2.2.2.1.length:Int),.i x.1,.i x.2.1,.i x.2.2.1,.l (Ty.prod (Ty.sl yi) (Ty.prod (Ty.sl aV) aS)) x.2.2.2.1,.l (Ty.prod yi cq) x.2.2.2.2]⟩,[⟨.ret,.ret,⟨bB 64 0 [(2,.v (.one (.raw))),(3,.v (.one (.raw))),(4,.v (.one (.i .i64)))],[],0,none,[],[0,1],[2],[.i],[.v (.slice none 0 0),.v (.slice none 0 0)]⟩⟩,⟨(.exit 0),.normal,⟨bB 64 0 [(5,.v (.one (.full 0))),(6,.v (.one (.full 1)))],[.row aV 2,.row yi 2],0,none,[],[],[0,1],[(.l aV),(.l yi)],[]⟩⟩]⟩
def k7 (x:(Int×Int×Int×List (List Int×List I6×I2)×List (Int×I3))) (s:(List I6×List Int×Int)):(List I6×List Int×Int)⊕(Int⊕(List I6×List Int)):=
 (if (s.2.2<(x.2.2.2.1.length:Int)) then
 (ai (Ay ((x.2.2.2.1.getD s.2.2.toNat ([],[],0,0)),(az (16*(az ((x.2.2.2.2.getD s.2.2.toNat (0,0,0,0)).1+x.2.2.1)))),(az (16*(az ((x.2.2.2.2.getD s.2.2.toNat (0,0,0,0)).2.1+x.2.2.1)))))) fun y=>
 (if ((y.2 !=0)=true) then
 (Sum.inr (Sum.inl y.2)) else
 (ai (repeatM ([s.2.2],(y.1.length:Int))) fun aO=>
 (Sum.inl ((s.1++y.1),(s.2.1++aO),(az (s.2.2+1))))))) else
 (Sum.inr (Sum.inr ((s.1,s.2.1)))))
def qy (x:(Int×Int×Int×List (List Int×List I6×I2)×List (Int×I3))) (s:(List I6×List Int×Int)):Prop:=
 ((s.2.2<(x.2.2.2.1.length:Int))->
 (((0<=s.2.2)/\ (s.2.2<(x.2.2.2.1.length:Int)))/\
 ((s.2.2.toNat<x.2.2.2.1.length)/\
 ((s.2.2.toNat<x.2.2.2.1.length)/\
 (((0<=s.2.2)/\ (s.2.2<(x.2.2.2.2.length:Int)))/\
 ((s.2.2.toNat<x.2.2.2.2.length)/\
 ((s.2.2.toNat<x.2.2.2.2.length)/\
 ((s.2.2.toNat<x.2.2.2.2.length)/\
 (((0<=s.2.2)/\ (s.2.2<(x.2.2.2.2.length:Int)))/\
 ((s.2.2.toNat<x.2.2.2.2.length)/\
 ((s.2.2.toNat<x.2.2.2.2.length)/\
 ((s.2.2.toNat<x.2.2.2.2.length)/\
 ((xk ((x.2.2.2.1.getD s.2.2.toNat ([],[],0,0)),(az (16*(az ((x.2.2.2.2.getD s.2.2.toNat (0,0,0,0)).1+x.2.2.1)))),(az (16*(az ((x.2.2.2.2.getD s.2.2.toNat (0,0,0,0)).2.1+x.2.2.1))))))/\
 aA (Ay ((x.2.2.2.1.getD s.2.2.toNat ([],[],0,0)),(az (16*(az ((x.2.2.2.2.getD s.2.2.toNat (0,0,0,0)).1+x.2.2.1)))),(az (16*(az ((x.2.2.2.2.getD s.2.2.toNat (0,0,0,0)).2.1+x.2.2.1)))))) fun y=>
 (¬((y.2 !=0)=true)->
 (((s.1.length+y.1.length)<1099511627776)/\
 ((qY ([s.2.2],(y.1.length:Int)))/\
 aA (repeatM ([s.2.2],(y.1.length:Int))) fun aO=>
 ((s.2.1.length+aO.length)<1099511627776)))))))))))))))))
def J1 (x:(Int×Int×Int×List (List Int×List I6×I2)×List (Int×I3))) (s:(List I6×List Int×Int)):Tr ((List I6×List Int×Int)⊕(Int⊕(List I6×List Int))) true:=
 (.i10 (s.2.2<(nL x.2.2.2.1))
 (.gK s.2.2 x.2.2.2.1
 (.zF s.2.2 x.2.2.2.2
 (.zF s.2.2 x.2.2.2.2
 (.fn Fq ((gT x.2.2.2.1 s.2.2 ([],[],iR)),(az (16*(az ((gT x.2.2.2.2 s.2.2 (z0,rX)).1+x.2.2.1)))),(az (16*(az ((gT x.2.2.2.2 s.2.2 (z0,rX)).2.1+x.2.2.1))))) fun y=>
 (.iK (y.2 !=z0)
 (.ret (.inr (Sum.inl y.2)))
 (.od ((s.1.length+y.1.length)<1099511627776)
 (.fn sQ ([s.2.2],(nL y.1)) fun aO=>
 (.od ((s.2.1.length+aO.length)<1099511627776)
 (.ret (.inl ((s.1++y.1),(s.2.1++aO),(w1 s.2.2))))))))))))
 (.ret (.inr (Sum.inr ((s.1,s.2.1))))))
def allM (x:(Int×Int×Int×List (List Int×List I6×I2)×List (Int×I3))):(List I6×List Int×Int):=
 (ai (GY x) fun y=>
 (if ((!y)=true) then
 ([],[],1) else
 (ai (run (k7 x) ([],[],0)) fun r=>
 (Sum.elim (fun a=>
 ([],[],a)) (fun b=>
 (b.1,b.2,0)) r))))
def pU (x:(Int×Int×Int×List (List Int×List I6×I2)×List (Int×I3))):Prop:=
 ((jw x)/\
 aA (GY x) fun y=>
 (¬((!y)=true)->
 (Term (k7 x) (qy x) ([],[],0))))
def adw (x:(Int×Int×Int×List (List Int×List I6×I2)×List (Int×I3))):Tr (List I6×List Int×Int) true:=
 (.fn uY x fun y=>
 (.iK (!y)
 (.ret ([],[],z1))
 (aB.lp (TK x) (J1 x) ([],[],z0) fun r=>
 (.xW r (fun a=>
 (.ret ([],[],a))) (fun b=>
 (.ret (b.1,b.2,z0)))))))
abbrev CH:cC:=⟨(.agg (Ty.prod yi (Ty.prod yi (Ty.prod yi (Ty.prod (Ty.sl (Ty.prod (Ty.sl yi) (Ty.prod (Ty.sl aV) aS))) (Ty.sl (Ty.prod yi cq))))))),(.pair (.one (Ty.sl aV)) (.pair (.one (Ty.sl yi)) (.one yi))),pU,allM⟩
theorem aa3:ah Tryz.prog 8 (aj CH):=ah.tr CH adw (fn:=Tryz.f8) ay zQ mixed (by kernel_rfl) (av.nil _ _) (fun x=>(au.tr ay (ae.bS zQ (av.nil _ _)) mixed 0 (TK x) (J1 x) au.nil (by kernel_rfl) fun g s Q=>(by kernel_rfl))) (fun x=>(by kernel_rfl)) fun x Q=>(by kernel_rfl)
def UD:List (Nat×Ev.Spec):=(8,aj CH)::UC
theorem zS:ae Tryz.prog UD:=ae.add (fn:=Tryz.f8) (by kernel_rfl) aa3 zQ
def Ot (x:((Int×Int×Int×List (List Int×List I6×I2)×List (Int×I3))×Int)):aB:=⟨[],⟨bB 48 0 [(1,.v (.one (.i .i64))),(4,.v (.one (.ptr 0 0))),(6,.v (.one (.full 1))),(9,.v (.one (.i .i64))),(23,.v (.one (.full 2))),(24,.v (.one (.i .i64))),(25,.v (.one (.i .i64)))],[.cells [.i .i64,.i .i64,.i .i64,.i .i64,.i .i64,.i .i64] 38,.row aV 2,.row (Ty.prod (Ty.sl yi) (Ty.prod (Ty.sl aV) aS)) 0],0,none,[],[0,2,4,5,6,7,8,9,11],[10,1,3],[(.l aV),.i,.i],[.i x.2,.i (x.1.2.2.2.1.length:Int),.i 0,.i 0,.i 0,.i 0,.i 0,.i 0,.l (Ty.prod (Ty.sl yi) (Ty.prod (Ty.sl aV) aS)) x.1.2.2.2.1]⟩,[⟨.ret,.ret,⟨bB 48 0 [(4,.v (.one (.ptr 0 0))),(5,.v (.one (.b)))],[.cells [.i .i64,.i .i64,.i .i64,.i .i64,.i .i64,.i .i64] 38],0,none,[],[0],[1,2,3,4,5,6],[.i,.i,.i,.i,.i,.i],[.b true]⟩⟩,⟨(.exit 0),.normal,⟨bB 48 0 [(4,.v (.one (.ptr 0 0)))],[.cells [.i .i64,.i .i64,.i .i64,.i .i64,.i .i64,.i .i64] 38],0,none,[],[0,1,2,3,4,5],[],[],[.i 0,.i 0,.i 0,.i 0,.i 0,.i 0]⟩⟩]⟩
def iA (x:((Int×Int×Int×List (List Int×List I6×I2)×List (Int×I3))×Int)) (s:(List I6×I2)):(List I6×I2)⊕((Int×Int×Int×I3)⊕Unit):=
 (if (s.2.2<(x.1.2.2.2.1.length:Int)) then
 (ai (rF ((x.1.2.2.2.1.getD s.2.2.toNat ([],[],0,0)).1,x.2)) fun y=>
 (if (y>=0) then
 (Sum.inr (Sum.inl ((s.1.getD (Int.toNat (az (s.2.1+y))) ((0,0),(0,0),0,0)).1.1,(s.1.getD (Int.toNat (az (s.2.1+y))) ((0,0),(0,0),0,0)).1.2,(s.1.getD (Int.toNat (az (s.2.1+y))) ((0,0),(0,0),0,0)).2.1.1,(s.1.getD (Int.toNat (az (s.2.1+y))) ((0,0),(0,0),0,0)).2.1.2,(s.1.getD (Int.toNat (az (s.2.1+y))) ((0,0),(0,0),0,0)).2.2.1,(s.1.getD (Int.toNat (az (s.2.1+y))) ((0,0),(0,0),0,0)).2.2.2))) else
 (Sum.inl (s.1,(az (s.2.1+((x.1.2.2.2.1.getD s.2.2.toNat ([],[],0,0)).1.length:Int))),(az (s.2.2+1)))))) else
 (Sum.inr (Sum.inr (()))))
def lf (x:((Int×Int×Int×List (List Int×List I6×I2)×List (Int×I3))×Int)) (s:(List I6×I2)):Prop:=
 ((s.2.2<(x.1.2.2.2.1.length:Int))->
 (((0<=s.2.2)/\ (s.2.2<(x.1.2.2.2.1.length:Int)))/\
 ((s.2.2.toNat<x.1.2.2.2.1.length)/\
 ((s.2.2.toNat<x.1.2.2.2.1.length)/\
 ((zw ((x.1.2.2.2.1.getD s.2.2.toNat ([],[],0,0)).1,x.2))/\
 aA (rF ((x.1.2.2.2.1.getD s.2.2.toNat ([],[],0,0)).1,x.2)) fun y=>
 ((y>=0)->
 (((0<=(az (s.2.1+y)))/\ ((az (s.2.1+y))<(s.1.length:Int)))/\
 (((Int.toNat (az (s.2.1+y)))<s.1.length)/\
 ((Int.toNat (az (s.2.1+y)))<s.1.length)))))))))
def Gv (x:((Int×Int×Int×List (List Int×List I6×I2)×List (Int×I3))×Int)) (s:(List I6×I2)):Tr ((List I6×I2)⊕((Int×Int×Int×I3)⊕Unit)) true:=
 (.i10 (s.2.2<(nL x.1.2.2.2.1))
 (.gK s.2.2 x.1.2.2.2.1
 (.fn AK ((gT x.1.2.2.2.1 s.2.2 ([],[],iR)).1,x.2) fun y=>
 (.i10 (y>=z0)
 (.gK (az (s.2.1+y)) s.1
 (.ret (.inr (Sum.inl ((gT s.1 (az (s.2.1+y)) aW).1.1,(gT s.1 (az (s.2.1+y)) aW).1.2,(gT s.1 (az (s.2.1+y)) aW).2.1.1,(gT s.1 (az (s.2.1+y)) aW).2.1.2,(gT s.1 (az (s.2.1+y)) aW).2.2.1,(gT s.1 (az (s.2.1+y)) aW).2.2.2)))))
 (.ret (.inl (s.1,(az (s.2.1+(nL (gT x.1.2.2.2.1 s.2.2 ([],[],iR)).1))),(w1 s.2.2)))))))
 (.ret (.inr (Sum.inr (())))))
def vL (x:((Int×Int×Int×List (List Int×List I6×I2)×List (Int×I3))×Int)):(I6×Bool):=
 (ai (allM x.1) fun y=>
 (if ((y.2.2 !=0)=true) then
 (((0,0),(0,0),0,0),false) else
 (ai (run (iA x) (y.1,0,0)) fun r=>
 (Sum.elim (fun a=>
 (((a.1,a.2.1),(a.2.2.1,a.2.2.2.1),a.2.2.2.2),true)) (fun b=>
 (((0,0),(0,0),0,0),false)) r))))
def pN (x:((Int×Int×Int×List (List Int×List I6×I2)×List (Int×I3))×Int)):Prop:=
 ((pU x.1)/\
 aA (allM x.1) fun y=>
 (¬((y.2.2 !=0)=true)->
 (Term (iA x) (lf x) (y.1,0,0))))
def abl (x:((Int×Int×Int×List (List Int×List I6×I2)×List (Int×I3))×Int)):Tr (I6×Bool) true:=
 (.fn CH x.1 fun y=>
 (.iK (y.2.2 !=z0)
 (.ret (aW,false))
 (aB.lp (Ot x) (Gv x) (y.1,iR) fun r=>
 (.xW r (fun a=>
 (.ret (((a.1,a.2.1),(a.2.2.1,a.2.2.2.1),a.2.2.2.2),true))) (fun b=>
 (.ret (aW,false)))))))
abbrev Au:cC:=⟨(.pair (.agg (Ty.prod yi (Ty.prod yi (Ty.prod yi (Ty.prod (Ty.sl (Ty.prod (Ty.sl yi) (Ty.prod (Ty.sl aV) aS))) (Ty.sl (Ty.prod yi cq))))))) (.one yi)),(.pair (.agg aV) (.one Ty.bool)),pN,vL⟩
theorem Ym:ah Tryz.prog 10 (aj Au):=ah.tr Au abl (fn:=Tryz.f10) ay zS mixed (by kernel_rfl) (av.nil _ _) (fun x=>(au.tr ay (ae.bS zS (av.nil _ _)) mixed 0 (Ot x) (Gv x) au.nil (by kernel_rfl) fun g s Q=>(by kernel_rfl))) (fun x=>(by kernel_rfl)) fun x Q=>(by kernel_rfl)
def Qh:List (Nat×Ev.Spec):=(10,aj Au)::UD
theorem wN:ae Tryz.prog Qh:=ae.add (fn:=Tryz.f10) (by kernel_rfl) Ym zS
def Lh (x:(List Int×List Int)):aB:=⟨[],⟨bB 26 0 [(0,.v (.one (.full 0))),(1,.v (.one (.full 1))),(5,.v (.one (.i .i64)))],[.row yi 0,.row yi 0],0,none,[],[1,2],[0],[.i],[.l yi x.1,.l yi x.2]⟩,[⟨.ret,.ret,⟨bB 26 0 [(4,.v (.one (.b)))],[],0,none,[],[0],[],[],[.b false]⟩⟩,⟨(.exit 0),.normal,⟨bB 26 0 [],[],0,none,[],[],[],[],[]⟩⟩]⟩
def lZ (x:(List Int×List Int)) (s:Int):Int⊕(Unit⊕Unit):=
 (if (s<(x.1.length:Int)) then
 (if (((x.1.getD s.toNat 0) !=(x.2.getD s.toNat 0))=true) then
 (Sum.inr (Sum.inl ())) else
 (Sum.inl (az (s+1)))) else
 (Sum.inr (Sum.inr (()))))
def rO (x:(List Int×List Int)) (s:Int):Prop:=
 ((s<(x.1.length:Int))->
 (((0<=s)/\ (s<(x.1.length:Int)))/\
 ((s.toNat<x.1.length)/\
 ((s.toNat<x.1.length)/\
 (((0<=s)/\ (s<(x.2.length:Int)))/\
 ((s.toNat<x.2.length)/\
 (s.toNat<x.2.length)))))))
def Eo (x:(List Int×List Int)) (s:Int):Tr (Int⊕(Unit⊕Unit)) true:=
 (.i10 (s<(nL x.1))
 (.gK s x.1
 (.gK s x.2
 (.nT ((gI x.1 s) !=(gI x.2 s))
 (.ret (.inr (Sum.inl ())))
 (.ret (.inl (w1 s))))))
 (.ret (.inr (Sum.inr (())))))
def dG (x:(List Int×List Int)):Bool:=
 (if (((x.1.length:Int) !=(x.2.length:Int))=true) then
 false else
 (ai (run (lZ x) 0) fun r=>
 (Sum.elim (fun a=>
 false) (fun b=>
 true) r)))
def cU (x:(List Int×List Int)):Prop:=
 (¬(((x.1.length:Int) !=(x.2.length:Int))=true)->
 (Term (lZ x) (rO x) 0))
def ZP (x:(List Int×List Int)):Tr Bool true:=
 (.iK ((nL x.1) !=(nL x.2))
 (.ret false)
 (aB.lp (Lh x) (Eo x) z0 fun r=>
 (.xW r (fun a=>
 (.ret false)) (fun b=>
 (.ret true)))))
abbrev ff:cC:=⟨(.pair (.one (Ty.sl yi)) (.one (Ty.sl yi))),(.one Ty.bool),cU,dG⟩
theorem WY:ah Tryz.prog 14 (aj ff):=ah.tr ff ZP (fn:=Tryz.f14) ay wN mixed (by kernel_rfl) (av.nil _ _) (fun x=>(au.tr ay (ae.bS wN (av.nil _ _)) mixed 0 (Lh x) (Eo x) au.nil (by kernel_rfl) fun g s Q=>(by kernel_rfl))) (fun x=>(by kernel_rfl)) fun x Q=>(by kernel_rfl)
def L3:List (Nat×Ev.Spec):=(14,aj ff)::Qh
theorem Cf:ae Tryz.prog L3:=ae.add (fn:=Tryz.f14) (by kernel_rfl) WY wN
def zK (x:I3):(List Int×List I6×I2):=
 ([x.1],[((0,0),((az ((az (16*x.2.1))- 1)),0),0,(az ((az (16*x.2.2))- 1)))],x.2)
def Sg (_:I3):Prop:=True
def Zx (x:I3):Tr (List Int×List I6×I2) false:=
 (.ret ([x.1],[(iR,((wm (az (16*x.2.1))),z0),z0,(wm (az (16*x.2.2))))],x.2))
abbrev wj:cC:=⟨(.pair (.one yi) (.pair (.one yi) (.one yi))),(.agg (Ty.prod (Ty.sl yi) (Ty.prod (Ty.sl aV) aS))),Sg,zK⟩
theorem Wu:ah Tryz.prog 38 (aj wj):=ah.tr wj Zx (fn:=Tryz.f38) ay Cf mixed (by kernel_rfl) (av.nil _ _) (fun x=>au.nil) (fun x=>(by kernel_rfl)) fun x Q=>(by kernel_rfl)
def LS:List (Nat×Ev.Spec):=(38,aj wj)::L3
theorem B7:ae Tryz.prog LS:=ae.add (fn:=Tryz.f38) (by kernel_rfl) Wu Cf
end Go.Proofs.YtbjfokijjefoeaaGreat
namespace Go.Proofs.YtbjfokijjefoeaaGreat
open Go Go.Ev Go.Proofs
theorem afS {s:cC} {x:s.p.ty.T} {t:Tr s.r.ty.T true} (h1:s.pre x=t.pre) (h2:s.f x=t.val):(s.pre x,s.f x)=(Tr.pI true t.pre,t.val):=by rw [h1,h2];rfl
set_option maxHeartbeats 20000000
def eZ (x:Bool):Bool:=
 (ai (zK (4,2,1)) fun y=>
 (ai (zK (2,3,3)) fun aO=>
 (ai (jH (8,8,1,[y,aO])) fun y_2=>
 (ai (jH (4,8,1,[y,aO])) fun bf=>
 (ai (jH (8,8,0,[y,aO])) fun bz=>
 (if ((y_2.2 !=0)=true) then
 false else
 (if (((y_2.1.2.2.2.2.length:Int) !=2)=true) then
 false else
 (ai (allM y_2.1) fun kX=>
 (ai (vL (y_2.1,4)) fun rq=>
 (ai (fy [y,aO]) fun vh=>
 (ai (dG (vh,[1,0])) fun vk=>
 (if (vk=true) then
 (if ((((y_2.1.2.2.2.2.getD 0 (0,0,0,0)).1==0)&&(((y_2.1.2.2.2.2.getD 0 (0,0,0,0)).2.1==5)&&(((y_2.1.2.2.2.2.getD 0 (0,0,0,0)).2.2.1==4)&&(((y_2.1.2.2.2.2.getD 0 (0,0,0,0)).2.2.2==3)&&true))))=true) then
 (if ((((y_2.1.2.2.2.2.getD 1 (0,0,0,0)).1==0)&&(((y_2.1.2.2.2.2.getD 1 (0,0,0,0)).2.1==0)&&(((y_2.1.2.2.2.2.getD 1 (0,0,0,0)).2.2.1==5)&&(((y_2.1.2.2.2.2.getD 1 (0,0,0,0)).2.2.2==5)&&true))))=true) then
 (if ((bf.2==9)=true) then
 (if ((bz.2==1)=true) then
 (if ((kX.2.2==0)=true) then
 (ai (dG (kX.2.1,[0,1])) fun XI=>
 (if (XI=true) then
 (if (((kX.1.length:Int)==2)=true) then
 (if (rq.2=true) then
 (if ((((rq.1.1.1==(kX.1.getD 0 ((0,0),(0,0),0,0)).1.1)&&((rq.1.1.2==(kX.1.getD 0 ((0,0),(0,0),0,0)).1.2)&&true))&&(((rq.1.2.1.1==(kX.1.getD 0 ((0,0),(0,0),0,0)).2.1.1)&&((rq.1.2.1.2==(kX.1.getD 0 ((0,0),(0,0),0,0)).2.1.2)&&true))&&(((rq.1.2.2.1==(kX.1.getD 0 ((0,0),(0,0),0,0)).2.2.1)&&((rq.1.2.2.2==(kX.1.getD 0 ((0,0),(0,0),0,0)).2.2.2)&&true))&&true)))=true) then
 (if (((rq.1.1.1==16)&&((rq.1.1.2==96)&&true))=true) then
 (ai (GY y_2.1) fun mD=>
 mD) else
 false) else
 false) else
 false) else
 false) else
 false)) else
 false) else
 false) else
 false) else
 false) else
 false) else
 false))))))))))))
def dU (x:Bool):Prop:=
 (aA (zK (4,2,1)) fun y=>
 (aA (zK (2,3,3)) fun aO=>
 ((fq (8,8,1,[y,aO]))/\
 aA (jH (8,8,1,[y,aO])) fun y_2=>
 ((fq (4,8,1,[y,aO]))/\
 aA (jH (4,8,1,[y,aO])) fun bf=>
 ((fq (8,8,0,[y,aO]))/\
 aA (jH (8,8,0,[y,aO])) fun bz=>
 (¬((y_2.2 !=0)=true)->
 (¬(((y_2.1.2.2.2.2.length:Int) !=2)=true)->
 ((pU y_2.1)/\
 aA (allM y_2.1) fun kX=>
 ((pN (y_2.1,4))/\
 aA (vL (y_2.1,4)) fun rq=>
 ((dD [y,aO])/\
 aA (fy [y,aO]) fun vh=>
 ((cU (vh,[1,0]))/\
 aA (dG (vh,[1,0])) fun vk=>
 ((vk=true)->
 ((0<(y_2.1.2.2.2.2.length:Int))/\
 ((0<y_2.1.2.2.2.2.length)/\
 ((0<y_2.1.2.2.2.2.length)/\
 (((((y_2.1.2.2.2.2.getD 0 (0,0,0,0)).1==0)&&(((y_2.1.2.2.2.2.getD 0 (0,0,0,0)).2.1==5)&&(((y_2.1.2.2.2.2.getD 0 (0,0,0,0)).2.2.1==4)&&(((y_2.1.2.2.2.2.getD 0 (0,0,0,0)).2.2.2==3)&&true))))=true)->
 ((1<(y_2.1.2.2.2.2.length:Int))/\
 ((1<y_2.1.2.2.2.2.length)/\
 ((1<y_2.1.2.2.2.2.length)/\
 (((((y_2.1.2.2.2.2.getD 1 (0,0,0,0)).1==0)&&(((y_2.1.2.2.2.2.getD 1 (0,0,0,0)).2.1==0)&&(((y_2.1.2.2.2.2.getD 1 (0,0,0,0)).2.2.1==5)&&(((y_2.1.2.2.2.2.getD 1 (0,0,0,0)).2.2.2==5)&&true))))=true)->
 (((bf.2==9)=true)->
 (((bz.2==1)=true)->
 (((kX.2.2==0)=true)->
 ((cU (kX.2.1,[0,1]))/\
 aA (dG (kX.2.1,[0,1])) fun XI=>
 ((XI=true)->
 ((((kX.1.length:Int)==2)=true)->
 ((rq.2=true)->
 ((0<(kX.1.length:Int))/\
 ((0<kX.1.length)/\
 ((0<kX.1.length)/\
 (((((rq.1.1.1==(kX.1.getD 0 ((0,0),(0,0),0,0)).1.1)&&((rq.1.1.2==(kX.1.getD 0 ((0,0),(0,0),0,0)).1.2)&&true))&&(((rq.1.2.1.1==(kX.1.getD 0 ((0,0),(0,0),0,0)).2.1.1)&&((rq.1.2.1.2==(kX.1.getD 0 ((0,0),(0,0),0,0)).2.1.2)&&true))&&(((rq.1.2.2.1==(kX.1.getD 0 ((0,0),(0,0),0,0)).2.2.1)&&((rq.1.2.2.2==(kX.1.getD 0 ((0,0),(0,0),0,0)).2.2.2)&&true))&&true)))=true)->
 ((((rq.1.1.1==16)&&((rq.1.1.2==96)&&true))=true)->
 (jw y_2.1)))))))))))))))))))))))))))))))))
def Wd (x:Bool):Tr Bool true:=
 (.fn0 wj (4,2,z1) trivial fun y=>
 (.fn0 wj (2,3,3) trivial fun aO=>
 (.fn k8 (8,8,z1,[y,aO]) fun y_2=>
 (.fn k8 (4,8,z1,[y,aO]) fun bf=>
 (.fn k8 (8,8,z0,[y,aO]) fun bz=>
 (.iK (y_2.2 !=z0)
 (.ret false)
 (.iK ((nL y_2.1.2.2.2.2) !=2)
 (.ret false)
 (.fn CH y_2.1 fun kX=>
 (.fn Au (y_2.1,4) fun rq=>
 (.fn g9 [y,aO] fun vh=>
 (.fn ff (vh,[z1,z0]) fun vk=>
 (.jL vk
 (.og (true&&(decide (z0<(nL y_2.1.2.2.2.2)))) (z0<(nL y_2.1.2.2.2.2)) (fun h=>(cX rfl (decide_eq_true h)))
 (.od (0<y_2.1.2.2.2.2.length)
 (.od (0<y_2.1.2.2.2.2.length)
 (.jL (((y_2.1.2.2.2.2.getD 0 (z0,rX)).1==z0)&&(((y_2.1.2.2.2.2.getD 0 (z0,rX)).2.1==5)&&(((y_2.1.2.2.2.2.getD 0 (z0,rX)).2.2.1==4)&&(((y_2.1.2.2.2.2.getD 0 (z0,rX)).2.2.2==3)&&true))))
 (.og (true&&(decide (z1<(nL y_2.1.2.2.2.2)))) (z1<(nL y_2.1.2.2.2.2)) (fun h=>(cX rfl (decide_eq_true h)))
 (.od (1<y_2.1.2.2.2.2.length)
 (.od (1<y_2.1.2.2.2.2.length)
 (.jL (((y_2.1.2.2.2.2.getD 1 (z0,rX)).1==z0)&&(((y_2.1.2.2.2.2.getD 1 (z0,rX)).2.1==z0)&&(((y_2.1.2.2.2.2.getD 1 (z0,rX)).2.2.1==5)&&(((y_2.1.2.2.2.2.getD 1 (z0,rX)).2.2.2==5)&&true))))
 (.jL (bf.2==9)
 (.jL (bz.2==z1)
 (.jL (kX.2.2==z0)
 (.fn ff (kX.2.1,[z0,z1]) fun XI=>
 (.jL XI
 (.jL ((nL kX.1)==2)
 (.jL rq.2
 (.og (true&&(decide (z0<(nL kX.1)))) (z0<(nL kX.1)) (fun h=>(cX rfl (decide_eq_true h)))
 (.od (0<kX.1.length)
 (.od (0<kX.1.length)
 (.jL (((rq.1.1.1==(kX.1.getD 0 aW).1.1)&&((rq.1.1.2==(kX.1.getD 0 aW).1.2)&&true))&&(((rq.1.2.1.1==(kX.1.getD 0 aW).2.1.1)&&((rq.1.2.1.2==(kX.1.getD 0 aW).2.1.2)&&true))&&(((rq.1.2.2.1==(kX.1.getD 0 aW).2.2.1)&&((rq.1.2.2.2==(kX.1.getD 0 aW).2.2.2)&&true))&&true)))
 (.jL ((rq.1.1.1==16)&&((rq.1.1.2==96)&&true))
 (.fn uY y_2.1 fun mD=>
 (.ret mD))
 (.ret false))
 (.ret false)))))
 (.ret false))
 (.ret false))
 (.ret false)))
 (.ret false))
 (.ret false))
 (.ret false))
 (.ret false)))))
 (.ret false)))))
 (.ret false)))))))))))))
abbrev iD:cC:=⟨.none,(.one Ty.bool),dU,eZ⟩
theorem RX:ah Tryz.prog 15 (aj iD):=ah.tr iD Wd (fn:=Tryz.f15) ay B7 mixed (by kernel_rfl) (av.nil _ _) (fun x=>au.nil) (fun x=>afS (by kernel_rfl) (by kernel_rfl)) fun x Q=>(by kernel_rfl)
def IG:List (Nat×Ev.Spec):=(15,aj iD)::LS
theorem yN:ae Tryz.prog IG:=ae.add (fn:=Tryz.f15) (by kernel_rfl) RX B7
end Go.Proofs.YtbjfokijjefoeaaGreat
