/- Models: a new caster, the document's rows. -/
import Derived.Test.YtngdehlpoomaiaaGreatLk
noncomputable section
set_option linter.unusedSectionVars false
set_option linter.unusedVariables false
set_option linter.unusedSimpArgs false
namespace Go.Proofs.YtngdehlpoomaiaaGreat
open Go Go.Ev Go.Proofs
abbrev M0:Type:=(List I9×Int×Int×Int×Int×List (Int×I3×I3×I2))
def ai5 (x:I9):Bool:=
 (aq (dR [x.1,x.2.1,x.2.2]) fun y=>
 (!y))
def N7 (x:I9):Prop:=
 (ct [x.1,x.2.1,x.2.2])
def agR (x:I9):Tr Bool true:=
 (.fn dS [x.1,x.2.1,x.2.2] fun y=>
 (.ret (!y)))
abbrev LX:bY:=⟨(.agg dF),(.one Ty.bool),N7,ai5⟩
theorem adA:ai Tryz.prog 25 (ak LX):=ai.tr LX agR (fn:=Tryz.f25) aA GL mixed (by kernel_rfl) (ax.nil _ _) (fun x=>ay.nil) (fun x=>(by kernel_rfl)) fun x Q=>(by kernel_rfl)
def UL:List (Nat×Ev.Spec):=(25,ak LX)::UH
theorem yD:ah Tryz.prog UL:=ah.add (fn:=Tryz.f25) (by kernel_rfl) adA GL
def JC (x:(List I9×Bool)):aK:=⟨[],⟨di 19 0 [(0,.v (.one (.full 0))),(1,.v (.one (.iP 25 0 []))),(7,.v (.one (.i .i64))),(8,.v (.one (.i .i64)))],[.row dF 0],0,none,[],[0,2],[1],[.i],[.i (x.1.length:Int),.l dF x.1]⟩,[⟨.ret,.ret,⟨di 19 0 [(4,.v (.one (.i .i64)))],[],0,none,[],[],[0],[.i],[]⟩⟩,⟨(.exit 0),.normal,⟨di 19 0 [],[],0,none,[],[],[],[],[]⟩⟩]⟩
def uN (x:(List I9×Bool)) (s:Int):Int⊕(Int⊕Unit):=
 (if (s<(x.1.length:Int)) then
 (aq (ai5 (x.1.getD s.toNat ((0,0,0),(0,0,0),0,0,0))) fun y=>
 (if (y=true) then
 (Sum.inr (Sum.inl s)) else
 (Sum.inl (av (s+1))))) else
 (Sum.inr (Sum.inr (()))))
def IB (x:(List I9×Bool)) (s:Int):Prop:=
 ((s<(x.1.length:Int))->
 (((0<=s)/\ (s<(x.1.length:Int)))/\
 ((s.toNat<x.1.length)/\
 ((s.toNat<x.1.length)/\
 (N7 (x.1.getD s.toNat ((0,0,0),(0,0,0),0,0,0)))))))
def CF (x:(List I9×Bool)) (s:Int):Tr (Int⊕(Int⊕Unit)) true:=
 (.i10 (s<(nL x.1))
 (.mS s x.1
 (.fn LX (gT x.1 s Lm) fun y=>
 (.qH y
 (.ret (.inr (Sum.inl s)))
 (.ret (.inl (w1 s))))))
 (.ret (.inr (Sum.inr (())))))
def Z9 (x:(List I9×Bool)):Int:=
 (aq (run (uN x) 0) fun r=>
 (Sum.elim (fun a=>
 a) (fun b=>
 (-1)) r))
def FR (x:(List I9×Bool)):Prop:=
 (Term (uN x) (IB x) 0)
def aac (x:(List I9×Bool)):Tr Int true:=
 (aK.lp (JC x) (CF x) z0 fun r=>
 (.MK r (fun a=>
 (.ret a)) (fun b=>
 (.ret (-1)))))
abbrev uM:bY:=⟨(.pair (.one (Ty.sl dF)) (.iP 25 .none)),(.one yi),FR,Z9⟩
theorem Wt:ai Tryz.prog 59 (ak uM):=ai.tr uM aac (fn:=Tryz.f59) aA yD mixed (by kernel_rfl) (ax.nil _ _) (fun x=>(ay.tr aA (ah.dX yD (ax.nil _ _)) mixed 0 (JC x) (CF x) ay.nil (by kernel_rfl) fun g s Q=>(by kernel_rfl))) (fun x=>(by kernel_rfl)) fun x Q=>(by kernel_rfl)
def KL:List (Nat×Ev.Spec):=(59,vT uM.p (ak uM) (ak uL))::UL
theorem AI:ah Tryz.prog KL:=ah.add (fn:=Tryz.f59) (by kernel_rfl) (rG Wt (JB)) yD
def dK (x:(List I9×Bool)):Bool:=
 (aq (Z9 (x.1,false)) fun y=>
 (decide (y>=0)))
def dH (x:(List I9×Bool)):Prop:=
 (FR (x.1,false))
def NP (x:(List I9×Bool)):Tr Bool true:=
 (.fn uM (x.1,false) fun y=>
 (.ret (decide (y>=z0))))
abbrev fI:bY:=⟨(.pair (.one (Ty.sl dF)) (.iP 25 .none)),(.one Ty.bool),dH,dK⟩
theorem LL:ai Tryz.prog 27 (ak fI):=ai.tr fI NP (fn:=Tryz.f27) aA AI mixed (by kernel_rfl) (ax.nil _ _) (fun x=>ay.nil) (fun x=>(by kernel_rfl)) fun x Q=>(by kernel_rfl)
def Ax:List (Nat×Ev.Spec):=(27,vT fI.p (ak fI) (ak l5))::KL
theorem tn:ah Tryz.prog Ax:=ah.add (fn:=Tryz.f27) (by kernel_rfl) (rG LL (ze)) AI
def n9 (x:(List I9)):(List I9):=
 ((List.replicate 0 (((0:Int),(0:Int),(0:Int)),((0:Int),(0:Int),(0:Int)),0,0,0))++x)
def jv (x:(List I9)):Prop:=
 (∀b:Bool,((0<x.length)->(b=false))->(((if (b=true) then
 [] else
 ((List.replicate 0 (((0:Int),(0:Int),(0:Int)),((0:Int),(0:Int),(0:Int)),0,0,0))++x))=((List.replicate 0 (((0:Int),(0:Int),(0:Int)),((0:Int),(0:Int),(0:Int)),0,0,0))++x))/\ (¬(b=true)->
 ((0+x.length)<1099511627776))))
def YO (x:(List I9)):Tr (List I9) true:=
 (.nil (fun b=>((0<x.length)->(b=false))) fun b=>
 (.nM b
 (.ret [])
 (.od ((0+x.length)<1099511627776)
 (.ret ((List.replicate 0 Lm)++x)))))
abbrev oe:bY:=⟨(.one (Ty.sl dF)),(.one (Ty.sl dF)),jv,n9⟩
theorem VC:ai Tryz.prog 28 (ak oe):=ai.tr oe YO (fn:=Tryz.f28) aA tn mixed (by kernel_rfl) (ax.dead 28 (fn:=Tryz.f28) (by kernel_rfl)) (fun x=>ay.nil) (fun x=>(by kernel_rfl)) fun x Q=>(by kernel_rfl)
def Kw:List (Nat×Ev.Spec):=(28,ak oe)::Ax
theorem Au:ah Tryz.prog Kw:=ah.add (fn:=Tryz.f28) (by kernel_rfl) VC tn
def Fo (x:M0):Bool:=
 (if ((x.1.length:Int)<=8) then
 (if ((x.2.2.2.2.2.length:Int)<=10) then
 (if (x.2.1<=12) then
 true else
 (decide (x.2.1>64))) else
 false) else
 false)
def VZ (_:M0):Prop:=True
def adD (x:M0):Tr Bool false:=
 (.tF ((nL x.1)<=8)
 (.tF ((nL x.2.2.2.2.2)<=10)
 (.tF (x.2.1<=12)
 (.ret true)
 (.ret (decide (x.2.1>64))))
 (.ret false))
 (.ret false))
abbrev DS:bY:=⟨(.pair (.one (Ty.sl dF)) (.agg (Ty.prod yi (Ty.prod yi (Ty.prod yi (Ty.prod yi (Ty.sl (Ty.prod yi (Ty.prod aM (Ty.prod aM fX)))))))))),(.one Ty.bool),VZ,Fo⟩
theorem Zc:ai Tryz.prog 8 (ak DS):=ai.tr DS adD (fn:=Tryz.f8) aA Au mixed (by kernel_rfl) (ax.nil _ _) (fun x=>ay.nil) (fun x=>(by kernel_rfl)) fun x Q=>(by kernel_rfl)
def PT:List (Nat×Ev.Spec):=(8,ak DS)::Kw
theorem vv:ah Tryz.prog PT:=ah.add (fn:=Tryz.f8) (by kernel_rfl) Zc Au
def Og:Lr Tryz.prog:=⟨_,(ax.walk aA vv mixed 9 (fn:=Tryz.f9) (by kernel_rfl) (ax.nil _ _) fun ys hy=>ay.nil)⟩
def ow (x:Bool):Bool:=
 (aq (dK ([],false)) fun y=>
 (if (y=true) then
 (aq (dK ([(((-4000),(-4000),100),(4000,(-4000),100),0,8000,100)],false)) fun aB=>
 (if (aB=true) then
 (aq (rE ((4,512,0,100,[]),(0,0,0),0,0,1)) fun y_2=>
 (aq (rE ((4,512,0,100,[]),(0,0,0),0,0,1)) fun bk=>
 (aq (jc ((0,0,10,0,[]),(5,0,0),0,0,1)) fun bQ=>
 (aq (rE ((4,512,0,100,[]),(0,0,0),0,0,1)) fun jt=>
 (aq (jc ((4,512,0,100,[]),(4161,0,0),0,0,1)) fun nI=>
 false))))) else
 (aq (n9 [(((-4000),(-4000),100),(4000,(-4000),100),0,8000,100)]) fun y_2=>
 (aq (rE ((4,512,0,100,[]),(0,0,0),0,0,1)) fun bk=>
 (aq (EC (y_2,[],[],(0,0,0),(4,512,0,100),(0,0,0),0,0,1)) fun bQ=>
 (aq (jc ((0,0,10,0,[]),(5,0,0),0,0,1)) fun jt=>
 (aq (rE ((4,512,0,100,[]),(0,0,0),0,0,1)) fun nI=>
 (aq (jc ((4,512,0,100,[]),(4161,0,0),0,0,1)) fun Nk=>
 false)))))))) else
 (aq (n9 []) fun aB=>
 (aq (dK ([(((-4000),(-4000),100),(4000,(-4000),100),0,8000,100)],false)) fun y_2=>
 (if (y_2=true) then
 (aq (EC (aB,[],[],(0,0,0),(4,512,0,100),(0,0,0),0,0,1)) fun bk=>
 (aq (rE ((4,512,0,100,[]),(0,0,0),0,0,1)) fun bQ=>
 (aq (jc ((0,0,10,0,[]),(5,0,0),0,0,1)) fun jt=>
 (aq (rE ((4,512,0,100,[]),(0,0,0),0,0,1)) fun nI=>
 (aq (jc ((4,512,0,100,[]),(4161,0,0),0,0,1)) fun Nk=>
 false))))) else
 (aq (n9 [(((-4000),(-4000),100),(4000,(-4000),100),0,8000,100)]) fun bk=>
 (aq (EC (aB,[],[],(0,0,0),(4,512,0,100),(0,0,0),0,0,1)) fun bQ=>
 (aq (EC (bk,[],[],(0,0,0),(4,512,0,100),(0,0,0),0,0,1)) fun jt=>
 (aq (jc ((0,0,10,0,[]),(5,0,0),0,0,1)) fun nI=>
 (aq (rE ((4,512,0,100,[]),(0,0,0),0,0,1)) fun Nk=>
 (aq (jc ((4,512,0,100,[]),(4161,0,0),0,0,1)) fun y_8=>
 (if ((bQ.1.2==0)=true) then
 (if ((bQ.1.1==100)=true) then
 (if ((jt.1.2==0)=true) then
 (if ((jt.1.1==0)=true) then
 (if ((nI.2==0)=true) then
 (if (((nI.1.1==5)&&((nI.1.2.1==0)&&((nI.1.2.2==10)&&true)))=true) then
 (if ((Nk.2==1)=true) then
 (if ((y_8.2==5)=true) then
 (aq (gis (4,512,0,100,[])) fun y_9=>
 (if (y_9=true) then
 (aq false fun aik=>
 (!aik)) else
 false)) else
 false) else
 false) else
 false) else
 false) else
 false) else
 false) else
 false) else
 false))))))))))))
def iR (x:Bool):Prop:=
 ((dH ([],false))/\
 aC (dK ([],false)) fun y=>
 (((y=true)->
 ((dH ([(((-4000),(-4000),100),(4000,(-4000),100),0,8000,100)],false))/\
 aC (dK ([(((-4000),(-4000),100),(4000,(-4000),100),0,8000,100)],false)) fun aB=>
 (((aB=true)->
 ((ie ((4,512,0,100,[]),(0,0,0),0,0,1))/\
 aC (rE ((4,512,0,100,[]),(0,0,0),0,0,1)) fun y_2=>
 ((ie ((4,512,0,100,[]),(0,0,0),0,0,1))/\
 aC (rE ((4,512,0,100,[]),(0,0,0),0,0,1)) fun bk=>
 ((dV ((0,0,10,0,[]),(5,0,0),0,0,1))/\
 aC (jc ((0,0,10,0,[]),(5,0,0),0,0,1)) fun bQ=>
 ((ie ((4,512,0,100,[]),(0,0,0),0,0,1))/\
 aC (rE ((4,512,0,100,[]),(0,0,0),0,0,1)) fun jt=>
 (dV ((4,512,0,100,[]),(4161,0,0),0,0,1)))))))/\
 (¬(aB=true)->
 ((jv [(((-4000),(-4000),100),(4000,(-4000),100),0,8000,100)])/\
 aC (n9 [(((-4000),(-4000),100),(4000,(-4000),100),0,8000,100)]) fun y_2=>
 ((ie ((4,512,0,100,[]),(0,0,0),0,0,1))/\
 aC (rE ((4,512,0,100,[]),(0,0,0),0,0,1)) fun bk=>
 ((nY (y_2,[],[],(0,0,0),(4,512,0,100),(0,0,0),0,0,1))/\
 aC (EC (y_2,[],[],(0,0,0),(4,512,0,100),(0,0,0),0,0,1)) fun bQ=>
 ((dV ((0,0,10,0,[]),(5,0,0),0,0,1))/\
 aC (jc ((0,0,10,0,[]),(5,0,0),0,0,1)) fun jt=>
 ((ie ((4,512,0,100,[]),(0,0,0),0,0,1))/\
 aC (rE ((4,512,0,100,[]),(0,0,0),0,0,1)) fun nI=>
 (dV ((4,512,0,100,[]),(4161,0,0),0,0,1)))))))))))/\
 (¬(y=true)->
 ((jv [])/\
 aC (n9 []) fun aB=>
 ((dH ([(((-4000),(-4000),100),(4000,(-4000),100),0,8000,100)],false))/\
 aC (dK ([(((-4000),(-4000),100),(4000,(-4000),100),0,8000,100)],false)) fun y_2=>
 (((y_2=true)->
 ((nY (aB,[],[],(0,0,0),(4,512,0,100),(0,0,0),0,0,1))/\
 aC (EC (aB,[],[],(0,0,0),(4,512,0,100),(0,0,0),0,0,1)) fun bk=>
 ((ie ((4,512,0,100,[]),(0,0,0),0,0,1))/\
 aC (rE ((4,512,0,100,[]),(0,0,0),0,0,1)) fun bQ=>
 ((dV ((0,0,10,0,[]),(5,0,0),0,0,1))/\
 aC (jc ((0,0,10,0,[]),(5,0,0),0,0,1)) fun jt=>
 ((ie ((4,512,0,100,[]),(0,0,0),0,0,1))/\
 aC (rE ((4,512,0,100,[]),(0,0,0),0,0,1)) fun nI=>
 (dV ((4,512,0,100,[]),(4161,0,0),0,0,1)))))))/\
 (¬(y_2=true)->
 ((jv [(((-4000),(-4000),100),(4000,(-4000),100),0,8000,100)])/\
 aC (n9 [(((-4000),(-4000),100),(4000,(-4000),100),0,8000,100)]) fun bk=>
 ((nY (aB,[],[],(0,0,0),(4,512,0,100),(0,0,0),0,0,1))/\
 aC (EC (aB,[],[],(0,0,0),(4,512,0,100),(0,0,0),0,0,1)) fun bQ=>
 ((nY (bk,[],[],(0,0,0),(4,512,0,100),(0,0,0),0,0,1))/\
 aC (EC (bk,[],[],(0,0,0),(4,512,0,100),(0,0,0),0,0,1)) fun jt=>
 ((dV ((0,0,10,0,[]),(5,0,0),0,0,1))/\
 aC (jc ((0,0,10,0,[]),(5,0,0),0,0,1)) fun nI=>
 ((ie ((4,512,0,100,[]),(0,0,0),0,0,1))/\
 aC (rE ((4,512,0,100,[]),(0,0,0),0,0,1)) fun Nk=>
 ((dV ((4,512,0,100,[]),(4161,0,0),0,0,1))/\
 aC (jc ((4,512,0,100,[]),(4161,0,0),0,0,1)) fun y_8=>
 (((bQ.1.2==0)=true)->
 (((bQ.1.1==100)=true)->
 (((jt.1.2==0)=true)->
 (((jt.1.1==0)=true)->
 (((nI.2==0)=true)->
 ((((nI.1.1==5)&&((nI.1.2.1==0)&&((nI.1.2.2==10)&&true)))=true)->
 (((Nk.2==1)=true)->
 (((y_8.2==5)=true)->
 ((rV (4,512,0,100,[]))/\
 aC (gis (4,512,0,100,[])) fun y_9=>
 ((y_9=true)->
 (rV (65,0,0,0,[])))))))))))))))))))))))))
def Rw (x:Bool):Tr Bool true:=
 (.Bq
 (.fn fI ([],false) fun y=>
 (.b11 y
 (.pn 0 3
 (.Bq
 (.fn fI ([(((-4000),(-4000),100),(4000,(-4000),100),z0,8000,100)],false) fun aB=>
 (.b11 aB
 (.pn 1 5
 (.fn qf ((4,512,z0,100,[]),bX,z0,z0,z1) fun y_2=>
 (.fn qf ((4,512,z0,100,[]),bX,z0,z0,z1) fun bk=>
 (.fn iL ((z0,z0,10,z0,[]),(5,Cq),z0,z0,z1) fun bQ=>
 (.fn qf ((4,512,z0,100,[]),bX,z0,z0,z1) fun jt=>
 (.fn iL ((4,512,z0,100,[]),(4161,Cq),z0,z0,z1) fun nI=>
 (.ret false)))))))
 (.fn oe [(((-4000),(-4000),100),(4000,(-4000),100),z0,8000,100)] fun y_2=>
 (.pn 1 5
 (.fn qf ((4,512,z0,100,[]),bX,z0,z0,z1) fun bk=>
 (.fn Bp (y_2,[],[],bX,(4,512,z0,100),bX,z0,z0,z1) fun bQ=>
 (.fn iL ((z0,z0,10,z0,[]),(5,Cq),z0,z0,z1) fun jt=>
 (.fn qf ((4,512,z0,100,[]),bX,z0,z0,z1) fun nI=>
 (.fn iL ((4,512,z0,100,[]),(4161,Cq),z0,z0,z1) fun Nk=>
 (.ret false))))))))))))
 (.fn oe [] fun aB=>
 (.pn 0 3
 (.Bq
 (.fn fI ([(((-4000),(-4000),100),(4000,(-4000),100),z0,8000,100)],false) fun y_2=>
 (.b11 y_2
 (.pn 1 7
 (.fn Bp (aB,[],[],bX,(4,512,z0,100),bX,z0,z0,z1) fun bk=>
 (.fn qf ((4,512,z0,100,[]),bX,z0,z0,z1) fun bQ=>
 (.fn iL ((z0,z0,10,z0,[]),(5,Cq),z0,z0,z1) fun jt=>
 (.fn qf ((4,512,z0,100,[]),bX,z0,z0,z1) fun nI=>
 (.fn iL ((4,512,z0,100,[]),(4161,Cq),z0,z0,z1) fun Nk=>
 (.ret false)))))))
 (.fn oe [(((-4000),(-4000),100),(4000,(-4000),100),z0,8000,100)] fun bk=>
 (.pn 1 7
 (.fn Bp (aB,[],[],bX,(4,512,z0,100),bX,z0,z0,z1) fun bQ=>
 (.fn Bp (bk,[],[],bX,(4,512,z0,100),bX,z0,z0,z1) fun jt=>
 (.fn iL ((z0,z0,10,z0,[]),(5,Cq),z0,z0,z1) fun nI=>
 (.fn qf ((4,512,z0,100,[]),bX,z0,z0,z1) fun Nk=>
 (.fn iL ((4,512,z0,100,[]),(4161,Cq),z0,z0,z1) fun y_8=>
 (.Dw (bQ.1.2==z0)
 (.Dw (bQ.1.1==100)
 (.Dw (jt.1.2==z0)
 (.Dw (jt.1.1==z0)
 (.Dw (nI.2==z0)
 (.Dw ((nI.1.1==5)&&((nI.1.2.1==z0)&&((nI.1.2.2==10)&&true)))
 (.Dw (Nk.2==z1)
 (.Dw (y_8.2==5)
 (.fn Fx (4,512,z0,100,[]) fun y_9=>
 (.Dw y_9
 (.fn Fx (65,z0,z0,z0,[]) fun aik=>
 (.ret (!aik)))
 (.ret false)))
 (.ret false))
 (.ret false))
 (.ret false))
 (.ret false))
 (.ret false))
 (.ret false))
 (.ret false))
 (.ret false)))))))))))))))))
abbrev lf:bY:=⟨.none,(.one Ty.bool),iR,ow⟩
theorem Oh:ai Tryz.prog 10 (ak lf):=ai.tr lf Rw (fn:=Tryz.f10) aA vv mixed (by kernel_rfl) Og.ok (fun x=>ay.nil) (fun x=>(by kernel_rfl)) fun x Q=>(by kernel_rfl)
def eU:List (Nat×Ev.Spec):=(10,ak lf)::PT
theorem dU:ah Tryz.prog eU:=ah.add (fn:=Tryz.f10) (by kernel_rfl) Oh vv
end Go.Proofs.YtngdehlpoomaiaaGreat
