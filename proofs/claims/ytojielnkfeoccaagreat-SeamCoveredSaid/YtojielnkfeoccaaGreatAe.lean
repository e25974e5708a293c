/- Models of functions of layer 18. -/
import Derived.Test.YtojielnkfeoccaaGreatAa
import Derived.Test.YtojielnkfeoccaaGreatFf
noncomputable section
set_option linter.unusedSectionVars false
set_option linter.unusedVariables false
set_option linter.unusedSimpArgs false
namespace Go.Proofs.YtojielnkfeoccaaGreat
open Go Go.Ev Go.Proofs
theorem uw:jL tt 3 yi:=fun x y=>by rfl
def OT:List (Nat×Ev.Spec):=(58,aq DQ)::KP
theorem No:af Tryz.prog OT:=af.add (fn:=Tryz.f58) (by kernel_rfl) OS KQ
def OU:List (Nat×Ev.Spec):=(32,aq pW)::OT
theorem Np:af Tryz.prog OU:=af.add (fn:=Tryz.f32) (by kernel_rfl) DG No
def OV:List (Nat×Ev.Spec):=(69,aq C0)::OU
theorem DT:af Tryz.prog OV:=af.add (fn:=Tryz.f69) (by kernel_rfl) Qr Np
def pV (x:I3):Bool:=
 (if ((aO (aO x.1 x.2.1) x.2.2)>=1) then
 (if ((aS x.1 x.2.1)<=256) then
 (decide (x.2.2<=8)) else
 false) else
 false)
def Ic (_:I3):Prop:=True
def MU (x:I3):Tr Bool false:=
 (.tB ((aO (aO x.1 x.2.1) x.2.2)>=z1)
 (.tB ((aS x.1 x.2.1)<=256)
 (.ret (decide (x.2.2<=8)))
 (.ret false))
 (.ret false))
abbrev qE:fg:=⟨(.pair (.one yi) (.pair (.one yi) (.one yi))),(.one Ty.bool),Ic,pV⟩
theorem Ki:ak Tryz.prog 55 (aq qE):=ak.tr qE MU (fn:=Tryz.f55) aD DT mixed (by kernel_rfl) (aA.nil _ _) (fun x=>ay.nil) (fun x=>(by kernel_rfl)) fun x Q=>(by kernel_rfl)
def AX:List (Nat×Ev.Spec):=(55,aq qE)::OV
theorem ku:af Tryz.prog AX:=af.add (fn:=Tryz.f55) (by kernel_rfl) Ki DT
def Gd (x:(List (List Int×List I6×I2))):aW:=⟨[],⟨dy 32 0 [(3,.v (.one (.mp 0))),(9,.v (.one (.full 1))),(10,.v (.one (.i .i64))),(11,.v (.one (.i .i64))),(19,.v (.one (.full 2))),(20,.v (.one (.i .i64))),(21,.v (.one (.i .i64)))],[.map Bool.false Bool.false yi Ty.bool,.row (Ty.prod (Ty.sl yi) (Ty.prod (Ty.sl bZ) aH)) 0,.row yi 0],0,none,[],[0,5],[4,1,6,2,3],[(.l (.prod yi Ty.bool)),.i,(.l yi),.i,.i],[.i (x.length:Int),.l (Ty.prod (Ty.sl yi) (Ty.prod (Ty.sl bZ) aH)) x]⟩,[⟨.ret,.ret,⟨dy 32 0 [(2,.v (.one (.b)))],[],0,none,[],[0],[],[],[.b false]⟩⟩,⟨(.exit 2),.normal,⟨dy 32 0 [(3,.v (.one (.mp 0))),(9,.v (.one (.full 1))),(10,.v (.one (.i .i64))),(11,.v (.one (.i .i64)))],[.map Bool.false Bool.false yi Ty.bool,.row (Ty.prod (Ty.sl yi) (Ty.prod (Ty.sl bZ) aH)) 0],0,none,[],[0,3],[2,1],[(.l (.prod yi Ty.bool)),.i],[.i (x.length:Int),.l (Ty.prod (Ty.sl yi) (Ty.prod (Ty.sl bZ) aH)) x]⟩⟩]⟩
def fZ (x:(List (List Int×List I6×I2))) (s:(List (Int×Bool)×Int×List Int×I2)):(List (Int×Bool)×Int×List Int×I2)⊕(Unit⊕(List (Int×Bool)×Int)):=
 (if (s.2.2.2.2<s.2.2.2.1) then
 (au (aU (k:=yi) s.1 (s.2.2.1.getD s.2.2.2.2.toNat 0) false) fun y=>
 (if (y=true) then
 (Sum.inr (Sum.inl ())) else
 (au (bU (k:=yi) s.1 (s.2.2.1.getD s.2.2.2.2.toNat 0) true) fun bq=>
 (Sum.inl (bq,s.2.1,s.2.2.1,s.2.2.2.1,(aj (s.2.2.2.2+1))))))) else
 (Sum.inr (Sum.inr ((s.1,s.2.1)))))
def lB (x:(List (List Int×List I6×I2))) (s:(List (Int×Bool)×Int×List Int×I2)):Prop:=
 ((s.2.2.2.2<s.2.2.2.1)->
 (((0<=s.2.2.2.2)/\ (s.2.2.2.2<(s.2.2.1.length:Int)))/\
 ((s.2.2.2.2.toNat<s.2.2.1.length)/\
 (s.2.2.2.2.toNat<s.2.2.1.length))))
def AI (x:(List (List Int×List I6×I2))) (s:(List (Int×Bool)×Int×List Int×I2)):Tr ((List (Int×Bool)×Int×List Int×I2)⊕(Unit⊕(List (Int×Bool)×Int))) true:=
 (.i10 (s.2.2.2.2<s.2.2.2.1)
 (.lA s.2.2.2.2 s.2.2.1
 (.fact (jL tt 3 yi) uw
 (.lt (aU (k:=yi) s.1 (gI s.2.2.1 s.2.2.2.2) false) fun y=>
 (.jM y
 (.ret (.inr (Sum.inl ())))
 (.fact (jL tt 3 yi) uw
 (.lt (bU (k:=yi) s.1 (gI s.2.2.1 s.2.2.2.2) true) fun bq=>
 (.ret (.inl (bq,s.2.1,s.2.2.1,s.2.2.2.1,(w1 s.2.2.2.2))))))))))
 (.ret (.inr (Sum.inr ((s.1,s.2.1))))))
def Gc (x:(List (List Int×List I6×I2))):aW:=⟨[],⟨dy 32 0 [(3,.v (.one (.mp 0))),(9,.v (.one (.full 1))),(10,.v (.one (.i .i64))),(11,.v (.one (.i .i64)))],[.map Bool.false Bool.false yi Ty.bool,.row (Ty.prod (Ty.sl yi) (Ty.prod (Ty.sl bZ) aH)) 0],0,none,[],[0,3],[2,1],[(.l (.prod yi Ty.bool)),.i],[.i (x.length:Int),.l (Ty.prod (Ty.sl yi) (Ty.prod (Ty.sl bZ) aH)) x]⟩,[⟨.ret,.ret,⟨dy 32 0 [(2,.v (.one (.b)))],[],0,none,[],[0],[],[],[.b false]⟩⟩,⟨(.exit 0),.normal,⟨dy 32 0 [],[],0,none,[],[],[],[],[]⟩⟩]⟩
def eX (x:(List (List Int×List I6×I2))) (s:(List (Int×Bool)×Int)):(List (Int×Bool)×Int)⊕(Unit⊕Unit):=
 (if (s.2<(x.length:Int)) then
 (au (Rn (x.getD s.2.toNat ([],[],0,0))) fun y=>
 (if ((!y)=true) then
 (Sum.inr (Sum.inl ())) else
 (au (run (fZ x) (s.1,s.2,(x.getD s.2.toNat ([],[],0,0)).1,((x.getD s.2.toNat ([],[],0,0)).1.length:Int),0)) fun r=>
 (Sum.elim (fun a=>
 (Sum.inr (Sum.inl ()))) (fun b=>
 (Sum.inl (b.1,(aj (b.2+1))))) r)))) else
 (Sum.inr (Sum.inr (()))))
def jd (x:(List (List Int×List I6×I2))) (s:(List (Int×Bool)×Int)):Prop:=
 ((s.2<(x.length:Int))->
 (((0<=s.2)/\ (s.2<(x.length:Int)))/\
 ((s.2.toNat<x.length)/\
 ((s.2.toNat<x.length)/\
 ((wO (x.getD s.2.toNat ([],[],0,0)))/\
 aM (Rn (x.getD s.2.toNat ([],[],0,0))) fun y=>
 (¬((!y)=true)->
 (Term (fZ x) (lB x) (s.1,s.2,(x.getD s.2.toNat ([],[],0,0)).1,((x.getD s.2.toNat ([],[],0,0)).1.length:Int),0))))))))
def AH (x:(List (List Int×List I6×I2))) (s:(List (Int×Bool)×Int)):Tr ((List (Int×Bool)×Int)⊕(Unit⊕Unit)) true:=
 (.i10 (s.2<(nL x))
 (.lA s.2 x
 (.fn JD (gT x s.2 ([],[],aY)) fun y=>
 (.n9 (!y)
 (.ret (.inr (Sum.inl ())))
 (aW.lp (Gd x) (AI x) (s.1,s.2,(gT x s.2 ([],[],aY)).1,(nL (gT x s.2 ([],[],aY)).1),z0) fun r=>
 (.Bq r (fun a=>
 (.ret (.inr (Sum.inl ())))) (fun b=>
 (.ret (.inl (b.1,(w1 b.2))))))))))
 (.ret (.inr (Sum.inr (())))))
def zJ (x:(List (List Int×List I6×I2))):Bool:=
 (au (run (eX x) ([],0)) fun r=>
 (Sum.elim (fun a=>
 false) (fun b=>
 true) r))
def vC (x:(List (List Int×List I6×I2))):Prop:=
 (Term (eX x) (jd x) ([],0))
def Uj (x:(List (List Int×List I6×I2))):Tr Bool true:=
 (aW.lp (Gc x) (AH x) ([],z0) fun r=>
 (.Bq r (fun a=>
 (.ret false)) (fun b=>
 (.ret true))))
abbrev xP:fg:=⟨(.one (Ty.sl (Ty.prod (Ty.sl yi) (Ty.prod (Ty.sl bZ) aH)))),(.one Ty.bool),vC,zJ⟩
theorem Q2:ak Tryz.prog 56 (aq xP):=ak.tr xP Uj (fn:=Tryz.f56) aD ku mixed (by kernel_rfl) (aA.nil _ _) (fun x=>(ay.tr aD (af.eO ku (aA.nil _ _)) mixed 0 (Gc x) (AH x) (ay.tr aD (af.eO ku (aA.nil _ _)) mixed 2 (Gd x) (AI x) ay.nil (by kernel_rfl) fun g s Q=>(by kernel_rfl)) (by kernel_rfl) fun g s Q=>(by kernel_rfl))) (fun x=>(by kernel_rfl)) fun x Q=>(by kernel_rfl)
def GI:List (Nat×Ev.Spec):=(56,aq xP)::AX
theorem yx:af Tryz.prog GI:=af.add (fn:=Tryz.f56) (by kernel_rfl) Q2 ku
def KE (x:((List Int×List I6×I2)×Int)):I2:=
 ((aj (x.1.2.2.1+(aj (2*x.2)))),(aj (x.1.2.2.2+(aj (2*x.2)))))
def Rc (_:((List Int×List I6×I2)×Int)):Prop:=True
def WV (x:((List Int×List I6×I2)×Int)):Tr I2 false:=
 (.ret ((aj (x.1.2.2.1+(aj (2*x.2)))),(aj (x.1.2.2.2+(aj (2*x.2))))))
abbrev B8:fg:=⟨(.agg (Ty.prod (Ty.prod (Ty.sl yi) (Ty.prod (Ty.sl bZ) aH)) yi)),(.agg aH),Rc,KE⟩
theorem UA:ak Tryz.prog 57 (aq B8):=ak.tr B8 WV (fn:=Tryz.f57) aD yx mixed (by kernel_rfl) (aA.nil _ _) (fun x=>ay.nil) (fun x=>(by kernel_rfl)) fun x Q=>(by kernel_rfl)
def K1:List (Nat×Ev.Spec):=(57,aq B8)::GI
theorem sY:af Tryz.prog K1:=af.add (fn:=Tryz.f57) (by kernel_rfl) UA yx
def Te (x:(Int×Int×Int×List (List Int×List I6×I2)×List (Int×I3))):aW:=⟨[],⟨dy 61 0 [(1,.v (.one (.ptr 0 0))),(30,.v (.one (.full 1))),(31,.v (.one (.i .i64))),(32,.v (.one (.i .i64)))],[.cells [.i .i64,.i .i64,.i .i64,.full 1,.full 2] 45,.row (Ty.prod (Ty.sl yi) (Ty.prod (Ty.sl bZ) aH)) 0,.row (Ty.prod yi cj) 0],0,none,[],[0,2,3,4,5,6],[1],[.i],[.i (x.2.2.2.1.length:Int),.i x.1,.i x.2.1,.i x.2.2.1,.l (Ty.prod (Ty.sl yi) (Ty.prod (Ty.sl bZ) aH)) x.2.2.2.1,.l (Ty.prod yi cj) x.2.2.2.2]⟩,[⟨.ret,.ret,⟨dy 61 0 [(2,.v (.one (.b)))],[],0,none,[],[0],[],[],[.b false]⟩⟩,⟨(.exit 0),.normal,⟨dy 61 0 [(1,.v (.one (.ptr 0 0)))],[.cells [.i .i64,.i .i64,.i .i64,.full 1,.full 2] 45,.row (Ty.prod (Ty.sl yi) (Ty.prod (Ty.sl bZ) aH)) 0,.row (Ty.prod yi cj) 0],0,none,[],[0,1,2,3,4],[],[],[.i x.1,.i x.2.1,.i x.2.2.1,.l (Ty.prod (Ty.sl yi) (Ty.prod (Ty.sl bZ) aH)) x.2.2.2.1,.l (Ty.prod yi cj) x.2.2.2.2]⟩⟩]⟩
def jC (x:(Int×Int×Int×List (List Int×List I6×I2)×List (Int×I3))) (s:Int):Int⊕(Unit⊕Unit):=
 (if (s<(x.2.2.2.1.length:Int)) then
 (au (KE ((x.2.2.2.1.getD s.toNat ([],[],0,0)),x.2.2.1)) fun y=>
 (if ((!(((x.2.2.2.2.getD s.toNat (0,0,0,0)).2.2.1==y.1)&&(((x.2.2.2.2.getD s.toNat (0,0,0,0)).2.2.2==y.2)&&true)))=true) then
 (Sum.inr (Sum.inl ())) else
 (Sum.inl (aj (s+1))))) else
 (Sum.inr (Sum.inr (()))))
def qv (x:(Int×Int×Int×List (List Int×List I6×I2)×List (Int×I3))) (s:Int):Prop:=
 ((s<(x.2.2.2.1.length:Int))->
 (((0<=s)/\ (s<(x.2.2.2.1.length:Int)))/\
 ((s.toNat<x.2.2.2.1.length)/\
 ((s.toNat<x.2.2.2.1.length)/\
 (((0<=s)/\ (s<(x.2.2.2.2.length:Int)))/\
 ((s.toNat<x.2.2.2.2.length)/\
 (s.toNat<x.2.2.2.2.length)))))))
def JW (x:(Int×Int×Int×List (List Int×List I6×I2)×List (Int×I3))) (s:Int):Tr (Int⊕(Unit⊕Unit)) true:=
 (.i10 (s<(nL x.2.2.2.1))
 (.lA s x.2.2.2.1
 (.lA s x.2.2.2.2
 (.fn0 B8 ((gT x.2.2.2.1 s ([],[],aY)),x.2.2.1) trivial fun y=>
 (.jM (!(((gT x.2.2.2.2 s (z0,EY)).2.2.1==y.1)&&(((gT x.2.2.2.2 s (z0,EY)).2.2.2==y.2)&&true)))
 (.ret (.inr (Sum.inl ())))
 (.ret (.inl (w1 s)))))))
 (.ret (.inr (Sum.inr (())))))
def ZL (x:(Int×Int×Int×List (List Int×List I6×I2)×List (Int×I3))):Bool:=
 (au (pV (x.1,x.2.1,x.2.2.1)) fun y=>
 (if ((!y)=true) then
 false else
 (if (((x.2.2.2.2.length:Int) !=(x.2.2.2.1.length:Int))=true) then
 false else
 (au (zJ x.2.2.2.1) fun bq=>
 (if ((!bq)=true) then
 false else
 (au (run (jC x) 0) fun r=>
 (Sum.elim (fun a=>
 false) (fun b=>
 (au (Uy (x.1,x.2.1,x.2.2.2.2)) fun y_2=>
 y_2)) r)))))))
def BW (x:(Int×Int×Int×List (List Int×List I6×I2)×List (Int×I3))):Prop:=
 (aM (pV (x.1,x.2.1,x.2.2.1)) fun y=>
 (¬((!y)=true)->
 (¬(((x.2.2.2.2.length:Int) !=(x.2.2.2.1.length:Int))=true)->
 ((vC x.2.2.2.1)/\
 aM (zJ x.2.2.2.1) fun bq=>
 (¬((!bq)=true)->
 (Term (jC x) (qv x) 0/\
 aM (run (jC x) 0) fun r=>
 (cS r (fun a=>
 True) (fun b=>
 (DR (x.1,x.2.1,x.2.2.2.2))))))))))
def abg (x:(Int×Int×Int×List (List Int×List I6×I2)×List (Int×I3))):Tr Bool true:=
 (.fn0 qE (x.1,x.2.1,x.2.2.1) trivial fun y=>
 (.n9 (!y)
 (.ret false)
 (.n9 ((nL x.2.2.2.2) !=(nL x.2.2.2.1))
 (.ret false)
 (.fn xP x.2.2.2.1 fun bq=>
 (.n9 (!bq)
 (.ret false)
 (aW.lp (Te x) (JW x) z0 fun r=>
 (.s01 r (fun a=>
 (.ret false)) (fun b=>
 (.fn DQ (x.1,x.2.1,x.2.2.2.2) fun y_2=>
 (.ret y_2))))))))))
abbrev N7:fg:=⟨(.agg (Ty.prod yi (Ty.prod yi (Ty.prod yi (Ty.prod (Ty.sl (Ty.prod (Ty.sl yi) (Ty.prod (Ty.sl bZ) aH))) (Ty.sl (Ty.prod yi cj))))))),(.one Ty.bool),BW,ZL⟩
theorem YN:ak Tryz.prog 30 (aq N7):=ak.tr N7 abg (fn:=Tryz.f30) aD sY mixed (by kernel_rfl) (aA.nil _ _) (fun x=>(ay.tr aD (af.eO sY (aA.nil _ _)) mixed 0 (Te x) (JW x) ay.nil (by kernel_rfl) fun g s Q=>(by kernel_rfl))) (fun x=>(by kernel_rfl)) fun x Q=>(by kernel_rfl)
def UH:List (Nat×Ev.Spec):=(30,aq N7)::K1
theorem zU:af Tryz.prog UH:=af.add (fn:=Tryz.f30) (by kernel_rfl) YN sY
def NJ (x:(Int×Int×Int×List (List Int×List I6×I2)×List (Int×I3))):aW:=⟨[],⟨dy 64 0 [(1,.v (.one (.ptr 0 0))),(5,.v (.one (.full 3))),(6,.v (.one (.full 4))),(15,.v (.one (.full 1))),(16,.v (.one (.i .i64))),(17,.v (.one (.i .i64)))],[.cells [.i .i64,.i .i64,.i .i64,.full 1,.full 2] 45,.row (Ty.prod (Ty.sl yi) (Ty.prod (Ty.sl bZ) aH)) 0,.row (Ty.prod yi cj) 0,.row bZ 2,.row yi 2],0,none,[],[0,2,3,4,5,6],[7,8,1],[(.l bZ),(.l yi),.i],[.i (x.2.2.2.1.length:Int),.i x.1,.i x.2.1,.i x.2.2.1,.l (Ty.prod (Ty.sl yi) (Ty.prod (Ty.sl bZ) aH)) x.2.2.2.1,.l (Ty.prod yi cj) x.2.2.2.2]⟩,[⟨.ret,.ret,⟨dy 64 0 [(2,.v (.one (.raw))),(3,.v (.one (.raw))),(4,.v (.one (.i .i64)))],[],0,none,[],[0,1],[2],[.i],[.v (.slice none 0 0),.v (.slice none 0 0)]⟩⟩,⟨(.exit 0),.normal,⟨dy 64 0 [(5,.v (.one (.full 0))),(6,.v (.one (.full 1)))],[.row bZ 2,.row yi 2],0,none,[],[],[0,1],[(.l bZ),(.l yi)],[]⟩⟩]⟩
def jQ (x:(Int×Int×Int×List (List Int×List I6×I2)×List (Int×I3))) (s:(List I6×List Int×Int)):(List I6×List Int×Int)⊕(Int⊕(List I6×List Int)):=
 (if (s.2.2<(x.2.2.2.1.length:Int)) then
 (au (Ap ((x.2.2.2.1.getD s.2.2.toNat ([],[],0,0)),(aj (16*(aj ((x.2.2.2.2.getD s.2.2.toNat (0,0,0,0)).1+x.2.2.1)))),(aj (16*(aj ((x.2.2.2.2.getD s.2.2.toNat (0,0,0,0)).2.1+x.2.2.1)))))) fun y=>
 (if ((y.2 !=0)=true) then
 (Sum.inr (Sum.inl y.2)) else
 (au (repeatM ([s.2.2],(y.1.length:Int))) fun bq=>
 (Sum.inl ((s.1++y.1),(s.2.1++bq),(aj (s.2.2+1))))))) else
 (Sum.inr (Sum.inr ((s.1,s.2.1)))))
def nY (x:(Int×Int×Int×List (List Int×List I6×I2)×List (Int×I3))) (s:(List I6×List Int×Int)):Prop:=
 ((s.2.2<(x.2.2.2.1.length:Int))->
 (((0<=s.2.2)/\ (s.2.2<(x.2.2.2.1.length:Int)))/\
 ((s.2.2.toNat<x.2.2.2.1.length)/\
 ((s.2.2.toNat<x.2.2.2.1.length)/\
 (((0<=s.2.2)/\ (s.2.2<(x.2.2.2.2.length:Int)))/\
 ((s.2.2.toNat<x.2.2.2.2.length)/\
 ((s.2.2.toNat<x.2.2.2.2.length)/\
 ((s.2.2.toNat<x.2.2.2.2.length)/\
 (((0<=s.2.2)/\ (s.2.2<(x.2.2.2.2.length:Int)))/\
 ((s.2.2.toNat<x.2.2.2.2.length)/\
 ((s.2.2.toNat<x.2.2.2.2.length)/\
 ((s.2.2.toNat<x.2.2.2.2.length)/\
 ((tw ((x.2.2.2.1.getD s.2.2.toNat ([],[],0,0)),(aj (16*(aj ((x.2.2.2.2.getD s.2.2.toNat (0,0,0,0)).1+x.2.2.1)))),(aj (16*(aj ((x.2.2.2.2.getD s.2.2.toNat (0,0,0,0)).2.1+x.2.2.1))))))/\
 aM (Ap ((x.2.2.2.1.getD s.2.2.toNat ([],[],0,0)),(aj (16*(aj ((x.2.2.2.2.getD s.2.2.toNat (0,0,0,0)).1+x.2.2.1)))),(aj (16*(aj ((x.2.2.2.2.getD s.2.2.toNat (0,0,0,0)).2.1+x.2.2.1)))))) fun y=>
 (¬((y.2 !=0)=true)->
 (((s.1.length+y.1.length)<1099511627776)/\
 ((jH ([s.2.2],(y.1.length:Int)))/\
 aM (repeatM ([s.2.2],(y.1.length:Int))) fun bq=>
 ((s.2.1.length+bq.length)<1099511627776)))))))))))))))))
def E4 (x:(Int×Int×Int×List (List Int×List I6×I2)×List (Int×I3))) (s:(List I6×List Int×Int)):Tr ((List I6×List Int×Int)⊕(Int⊕(List I6×List Int))) true:=
 (.i10 (s.2.2<(nL x.2.2.2.1))
 (.lA s.2.2 x.2.2.2.1
 (.zx s.2.2 x.2.2.2.2
 (.zx s.2.2 x.2.2.2.2
 (.fn BP ((gT x.2.2.2.1 s.2.2 ([],[],aY)),(aj (16*(aj ((gT x.2.2.2.2 s.2.2 (z0,EY)).1+x.2.2.1)))),(aj (16*(aj ((gT x.2.2.2.2 s.2.2 (z0,EY)).2.1+x.2.2.1))))) fun y=>
 (.n9 (y.2 !=z0)
 (.ret (.inr (Sum.inl y.2)))
 (.od ((s.1.length+y.1.length)<1099511627776)
 (.fn pW ([s.2.2],(nL y.1)) fun bq=>
 (.od ((s.2.1.length+bq.length)<1099511627776)
 (.ret (.inl ((s.1++y.1),(s.2.1++bq),(w1 s.2.2))))))))))))
 (.ret (.inr (Sum.inr ((s.1,s.2.1))))))
def allM (x:(Int×Int×Int×List (List Int×List I6×I2)×List (Int×I3))):(List I6×List Int×Int):=
 (au (ZL x) fun y=>
 (if ((!y)=true) then
 ([],[],1) else
 (au (run (jQ x) ([],[],0)) fun r=>
 (Sum.elim (fun a=>
 ([],[],a)) (fun b=>
 (b.1,b.2,0)) r))))
def rH (x:(Int×Int×Int×List (List Int×List I6×I2)×List (Int×I3))):Prop:=
 ((BW x)/\
 aM (ZL x) fun y=>
 (¬((!y)=true)->
 (Term (jQ x) (nY x) ([],[],0))))
def XZ (x:(Int×Int×Int×List (List Int×List I6×I2)×List (Int×I3))):Tr (List I6×List Int×Int) true:=
 (.fn N7 x fun y=>
 (.n9 (!y)
 (.ret ([],[],z1))
 (aW.lp (NJ x) (E4 x) ([],[],z0) fun r=>
 (.Bq r (fun a=>
 (.ret ([],[],a))) (fun b=>
 (.ret (b.1,b.2,z0)))))))
abbrev Ci:fg:=⟨(.agg (Ty.prod yi (Ty.prod yi (Ty.prod yi (Ty.prod (Ty.sl (Ty.prod (Ty.sl yi) (Ty.prod (Ty.sl bZ) aH))) (Ty.sl (Ty.prod yi cj))))))),(.pair (.one (Ty.sl bZ)) (.pair (.one (Ty.sl yi)) (.one yi))),rH,allM⟩
theorem Vv:ak Tryz.prog 13 (aq Ci):=ak.tr Ci XZ (fn:=Tryz.f13) aD zU mixed (by kernel_rfl) (aA.nil _ _) (fun x=>(ay.tr aD (af.eO zU (aA.nil _ _)) mixed 0 (NJ x) (E4 x) ay.nil (by kernel_rfl) fun g s Q=>(by kernel_rfl))) (fun x=>(by kernel_rfl)) fun x Q=>(by kernel_rfl)
def OW:List (Nat×Ev.Spec):=(13,aq Ci)::UH
theorem DU:af Tryz.prog OW:=af.add (fn:=Tryz.f13) (by kernel_rfl) Vv zU
end Go.Proofs.YtojielnkfeoccaaGreat
