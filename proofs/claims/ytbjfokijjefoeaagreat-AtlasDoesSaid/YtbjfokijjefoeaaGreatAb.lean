/- Models of functions of layer 16: patches. -/
import Derived.Test.YtbjfokijjefoeaaGreatFe
import Derived.Test.YtbjfokijjefoeaaGreatTa
noncomputable section
set_option linter.unusedSectionVars false
set_option linter.unusedVariables false
set_option linter.unusedSimpArgs false
namespace Go.Proofs.YtbjfokijjefoeaaGreat
open Go Go.Ev Go.Proofs
def UI:List (Nat×Ev.Spec):=(105,aj qb)::I0
theorem Tg:ae Tryz.prog UI:=ae.add (fn:=Tryz.f105) (by kernel_rfl) D1 JT
def UJ:List (Nat×Ev.Spec):=(74,aj Ar)::UI
theorem Ti:ae Tryz.prog UJ:=ae.add (fn:=Tryz.f74) (by kernel_rfl) VB Tg
def UK:List (Nat×Ev.Spec):=(72,aj Rg)::UJ
theorem IF:ae Tryz.prog UK:=ae.add (fn:=Tryz.f72) (by kernel_rfl) abj Ti
def QM (x:(List Int×List I6×I2)):Bool:=
 (if ((x.1.length:Int)>500) then
 false else
 (if (((x.2.1.length:Int) !=(x.1.length:Int))=true) then
 false else
 (ai (sj (x.2.1,false)) fun y=>
 (if (y=true) then
 false else
 (ai (gG x.2.1) fun aO=>
 (if ((aO.2.2 !=0)=true) then
 false else
 (if ((!((aO.1.1==0)&&((aO.1.2==0)&&true)))=true) then
 false else
 (ai (GC aO.2.1) fun y_2=>
 (if ((x.2.2.1==y_2.1)=true) then
 (if ((x.2.2.2==y_2.2)=true) then
 (ai (CS x.2.1) fun bf=>
 bf) else
 false) else
 false)))))))))
def Av (x:(List Int×List I6×I2)):Prop:=
 (¬((x.1.length:Int)>500)->
 (¬(((x.2.1.length:Int) !=(x.1.length:Int))=true)->
 ((rB (x.2.1,false))/\
 aA (sj (x.2.1,false)) fun y=>
 (¬(y=true)->
 ((p9 x.2.1)/\
 aA (gG x.2.1) fun aO=>
 (¬((aO.2.2 !=0)=true)->
 (¬((!((aO.1.1==0)&&((aO.1.2==0)&&true)))=true)->
 (aA (GC aO.2.1) fun y_2=>
 (((x.2.2.1==y_2.1)=true)->
 (((x.2.2.2==y_2.2)=true)->
 (zl x.2.1)))))))))))
def afp (x:(List Int×List I6×I2)):Tr Bool true:=
 (.zu ((nL x.1)>500)
 (.ret false)
 (.iK ((nL x.2.1) !=(nL x.1))
 (.ret false)
 (.fn qE (x.2.1,false) fun y=>
 (.iK y
 (.ret false)
 (.fn Rg x.2.1 fun aO=>
 (.iK (aO.2.2 !=z0)
 (.ret false)
 (.iK (!((aO.1.1==z0)&&((aO.1.2==z0)&&true)))
 (.ret false)
 (.fn0 AF aO.2.1 trivial fun y_2=>
 (.jL (x.2.2.1==y_2.1)
 (.jL (x.2.2.2==y_2.2)
 (.fn Ar x.2.1 fun bf=>
 (.ret bf))
 (.ret false))
 (.ret false))))))))))
abbrev Ow:cC:=⟨(.agg (Ty.prod (Ty.sl yi) (Ty.prod (Ty.sl aV) aS))),(.one Ty.bool),Av,QM⟩
theorem adM:ah Tryz.prog 45 (aj Ow):=ah.tr Ow afp (fn:=Tryz.f45) ay IF mixed (by kernel_rfl) (av.nil _ _) (fun x=>au.nil) (fun x=>(by kernel_rfl)) fun x Q=>(by kernel_rfl)
def aas:List (Nat×Ev.Spec):=(45,aj Ow)::UK
theorem LH:ae Tryz.prog aas:=ae.add (fn:=Tryz.f45) (by kernel_rfl) adM IF
def Ay (x:((List Int×List I6×I2)×I2)):(List I6×Int):=
 (ai (QM x.1) fun y=>
 (if ((!y)=true) then
 ([],1) else
 (if ((bG x.2.1 x.2.2)<0) then
 ([],5) else
 (if ((bp x.2.1 x.2.2)>65536) then
 ([],5) else
 (ai (NT (x.1.2.1,x.2)) fun aO=>
 (aO,0))))))
def xk (x:((List Int×List I6×I2)×I2)):Prop:=
 ((Av x.1)/\
 aA (QM x.1) fun y=>
 (¬((!y)=true)->
 (¬((bG x.2.1 x.2.2)<0)->
 (¬((bp x.2.1 x.2.2)>65536)->
 (wZ (x.1.2.1,x.2))))))
def abn (x:((List Int×List I6×I2)×I2)):Tr (List I6×Int) true:=
 (.fn Ow x.1 fun y=>
 (.iK (!y)
 (.ret ([],z1))
 (.zu ((bG x.2.1 x.2.2)<z0)
 (.ret ([],5))
 (.zu ((bp x.2.1 x.2.2)>65536)
 (.ret ([],5))
 (.fn x8 (x.1.2.1,x.2) fun aO=>
 (.ret (aO,z0)))))))
abbrev Fq:cC:=⟨(.pair (.agg (Ty.prod (Ty.sl yi) (Ty.prod (Ty.sl aV) aS))) (.agg aS)),(.pair (.one (Ty.sl aV)) (.one yi)),xk,Ay⟩
theorem Yn:ah Tryz.prog 31 (aj Fq):=ah.tr Fq abn (fn:=Tryz.f31) ay LH mixed (by kernel_rfl) (av.nil _ _) (fun x=>au.nil) (fun x=>(by kernel_rfl)) fun x Q=>(by kernel_rfl)
def Qi:List (Nat×Ev.Spec):=(31,aj Fq)::aas
theorem Ez:ae Tryz.prog Qi:=ae.add (fn:=Tryz.f31) (by kernel_rfl) Yn LH
end Go.Proofs.YtbjfokijjefoeaaGreat
namespace Go.Proofs.YtbjfokijjefoeaaGreat
open Go Go.Ev Go.Proofs
theorem adf:Ad tt 3 yi:=fun x y=>by rfl
def KV (x:(List (List Int×List I6×I2))):aB:=⟨[],⟨bB 23 0 [(0,.v (.one (.full 0))),(3,.v (.one (.full 1))),(9,.v (.one (.i .i64))),(10,.v (.one (.i .i64)))],[.row (Ty.prod (Ty.sl yi) (Ty.prod (Ty.sl aV) aS)) 0,.row yi 2],0,none,[],[0,2],[3,1],[(.l yi),.i],[.i ((List.replicate x.length (0:Int)).length:Int),.l (Ty.prod (Ty.sl yi) (Ty.prod (Ty.sl aV) aS)) x]⟩,[⟨(.exit 0),.normal,⟨bB 23 0 [(0,.v (.one (.full 0))),(3,.v (.one (.full 1)))],[.row (Ty.prod (Ty.sl yi) (Ty.prod (Ty.sl aV) aS)) 0,.row yi 2],0,none,[],[0],[1],[(.l yi)],[.l (Ty.prod (Ty.sl yi) (Ty.prod (Ty.sl aV) aS)) x]⟩⟩]⟩
def fT (x:(List (List Int×List I6×I2))) (s:(List Int×Int)):(List Int×Int)⊕(List Int):=
 (if (s.2<((List.replicate x.length (0:Int)).length:Int)) then
 (ai (List.set s.1 s.2.toNat s.2) fun y=>
 (Sum.inl (y,(az (s.2+1))))) else
 (Sum.inr (s.1)))
def ny (x:(List (List Int×List I6×I2))) (s:(List Int×Int)):Prop:=
 ((s.2<((List.replicate x.length (0:Int)).length:Int))->
 ((((0:Int)<=s.2)/\ (s.2<(s.1.length:Int)))/\
 ((s.2.toNat<s.1.length)/\
 (s.2.toNat<s.1.length))))
def D4 (x:(List (List Int×List I6×I2))) (s:(List Int×Int)):Tr ((List Int×Int)⊕(List Int)) true:=
 (.i10 (s.2<(nL (List.replicate x.length z0)))
 (.gK s.2 s.1
 (.lt (List.set s.1 (tN s.2) s.2) fun y=>
 (.ret (.inl (y,(w1 s.2))))))
 (.ret (.inr (s.1))))
def fy (x:(List (List Int×List I6×I2))):(List Int):=
 (ai (run (fT x) ((List.replicate x.length (0:Int)),(0:Int))) fun r=>
 (ai (UA (r,x)) fun y=>
 y.2.1))
def dD (x:(List (List Int×List I6×I2))):Prop:=
 ((((x.length:Int)<=(x.length:Int))/\ (x.length<1099511627776))/\
 (Term (fT x) (ny x) ((List.replicate x.length (0:Int)),(0:Int))/\
 aA (run (fT x) ((List.replicate x.length (0:Int)),(0:Int))) fun r=>
 (x6 (r,x))))
def Zs (x:(List (List Int×List I6×I2))):Tr (List Int) true:=
 (.og (((decide (z0<=(nL x)))&&(decide ((nL x)<=(nL x))))&&(decide (x.length<1099511627776))) (((nL x)<=(nL x))/\ (x.length<1099511627776)) (fun h=>(cX (cX rfl (decide_eq_true h.1)) (decide_eq_true h.2)))
 (aB.lp (KV x) (D4 x) ((List.replicate x.length z0),z0) fun r=>
 (.fnW FP (r,x) fun y=>
 (.ret y.2.1))))
abbrev g9:cC:=⟨(.one (Ty.sl (Ty.prod (Ty.sl yi) (Ty.prod (Ty.sl aV) aS)))),(.one (Ty.sl yi)),dD,fy⟩
theorem Ws:ah Tryz.prog 16 (aj g9):=ah.tr g9 Zs (fn:=Tryz.f16) ay EY mixed (by kernel_rfl) (av.nil _ _) (fun x=>(au.tr ay (ae.bS EY (av.nil _ _)) mixed 0 (KV x) (D4 x) au.nil (by kernel_rfl) fun g s Q=>(by kernel_rfl))) (fun x=>(by kernel_rfl)) fun x Q=>(by kernel_rfl)
def lH (x:I3):Bool:=
 (if ((bG (bG x.1 x.2.1) x.2.2)>=1) then
 (if ((bp x.1 x.2.1)<=256) then
 (decide (x.2.2<=8)) else
 false) else
 false)
def Na (_:I3):Prop:=True
def R6 (x:I3):Tr Bool false:=
 (.o7 ((bG (bG x.1 x.2.1) x.2.2)>=z1)
 (.o7 ((bp x.1 x.2.1)<=256)
 (.ret (decide (x.2.2<=8)))
 (.ret false))
 (.ret false))
abbrev qc:cC:=⟨(.pair (.one yi) (.pair (.one yi) (.one yi))),(.one Ty.bool),Na,lH⟩
theorem O7:ah Tryz.prog 23 (aj qc):=ah.tr qc R6 (fn:=Tryz.f23) ay Ez mixed (by kernel_rfl) (av.nil _ _) (fun x=>au.nil) (fun x=>(by kernel_rfl)) fun x Q=>(by kernel_rfl)
def ED:List (Nat×Ev.Spec):=(23,aj qc)::Qi
theorem mg:ae Tryz.prog ED:=ae.add (fn:=Tryz.f23) (by kernel_rfl) O7 Ez
def Lr (x:(List (List Int×List I6×I2))):aB:=⟨[],⟨bB 32 0 [(3,.v (.one (.mp 0))),(9,.v (.one (.full 1))),(10,.v (.one (.i .i64))),(11,.v (.one (.i .i64))),(19,.v (.one (.full 2))),(20,.v (.one (.i .i64))),(21,.v (.one (.i .i64)))],[.map Bool.false Bool.false yi Ty.bool,.row (Ty.prod (Ty.sl yi) (Ty.prod (Ty.sl aV) aS)) 0,.row yi 0],0,none,[],[0,5],[4,1,6,2,3],[(.l (.prod yi Ty.bool)),.i,(.l yi),.i,.i],[.i (x.length:Int),.l (Ty.prod (Ty.sl yi) (Ty.prod (Ty.sl aV) aS)) x]⟩,[⟨.ret,.ret,⟨bB 32 0 [(2,.v (.one (.b)))],[],0,none,[],[0],[],[],[.b false]⟩⟩,⟨(.exit 2),.normal,⟨bB 32 0 [(3,.v (.one (.mp 0))),(9,.v (.one (.full 1))),(10,.v (.one (.i .i64))),(11,.v (.one (.i .i64)))],[.map Bool.false Bool.false yi Ty.bool,.row (Ty.prod (Ty.sl yi) (Ty.prod (Ty.sl aV) aS)) 0],0,none,[],[0,3],[2,1],[(.l (.prod yi Ty.bool)),.i],[.i (x.length:Int),.l (Ty.prod (Ty.sl yi) (Ty.prod (Ty.sl aV) aS)) x]⟩⟩]⟩
def gp (x:(List (List Int×List I6×I2))) (s:(List (Int×Bool)×Int×List Int×I2)):(List (Int×Bool)×Int×List Int×I2)⊕(Unit⊕(List (Int×Bool)×Int)):=
 (if (s.2.2.2.2<s.2.2.2.1) then
 (ai (fQ (k:=yi) s.1 (s.2.2.1.getD s.2.2.2.2.toNat 0) false) fun y=>
 (if (y=true) then
 (Sum.inr (Sum.inl ())) else
 (ai (kV (k:=yi) s.1 (s.2.2.1.getD s.2.2.2.2.toNat 0) true) fun aO=>
 (Sum.inl (aO,s.2.1,s.2.2.1,s.2.2.2.1,(az (s.2.2.2.2+1))))))) else
 (Sum.inr (Sum.inr ((s.1,s.2.1)))))
def nJ (x:(List (List Int×List I6×I2))) (s:(List (Int×Bool)×Int×List Int×I2)):Prop:=
 ((s.2.2.2.2<s.2.2.2.1)->
 (((0<=s.2.2.2.2)/\ (s.2.2.2.2<(s.2.2.1.length:Int)))/\
 ((s.2.2.2.2.toNat<s.2.2.1.length)/\
 (s.2.2.2.2.toNat<s.2.2.1.length))))
def Es (x:(List (List Int×List I6×I2))) (s:(List (Int×Bool)×Int×List Int×I2)):Tr ((List (Int×Bool)×Int×List Int×I2)⊕(Unit⊕(List (Int×Bool)×Int))) true:=
 (.i10 (s.2.2.2.2<s.2.2.2.1)
 (.gK s.2.2.2.2 s.2.2.1
 (.fact (Ad tt 3 yi) adf
 (.lt (fQ (k:=yi) s.1 (gI s.2.2.1 s.2.2.2.2) false) fun y=>
 (.nT y
 (.ret (.inr (Sum.inl ())))
 (.fact (Ad tt 3 yi) adf
 (.lt (kV (k:=yi) s.1 (gI s.2.2.1 s.2.2.2.2) true) fun aO=>
 (.ret (.inl (aO,s.2.1,s.2.2.1,s.2.2.2.1,(w1 s.2.2.2.2))))))))))
 (.ret (.inr (Sum.inr ((s.1,s.2.1))))))
def Lq (x:(List (List Int×List I6×I2))):aB:=⟨[],⟨bB 32 0 [(3,.v (.one (.mp 0))),(9,.v (.one (.full 1))),(10,.v (.one (.i .i64))),(11,.v (.one (.i .i64)))],[.map Bool.false Bool.false yi Ty.bool,.row (Ty.prod (Ty.sl yi) (Ty.prod (Ty.sl aV) aS)) 0],0,none,[],[0,3],[2,1],[(.l (.prod yi Ty.bool)),.i],[.i (x.length:Int),.l (Ty.prod (Ty.sl yi) (Ty.prod (Ty.sl aV) aS)) x]⟩,[⟨.ret,.ret,⟨bB 32 0 [(2,.v (.one (.b)))],[],0,none,[],[0],[],[],[.b false]⟩⟩,⟨(.exit 0),.normal,⟨bB 32 0 [],[],0,none,[],[],[],[],[]⟩⟩]⟩
def eG (x:(List (List Int×List I6×I2))) (s:(List (Int×Bool)×Int)):(List (Int×Bool)×Int)⊕(Unit⊕Unit):=
 (if (s.2<(x.length:Int)) then
 (ai (QM (x.getD s.2.toNat ([],[],0,0))) fun y=>
 (if ((!y)=true) then
 (Sum.inr (Sum.inl ())) else
 (ai (run (gp x) (s.1,s.2,(x.getD s.2.toNat ([],[],0,0)).1,((x.getD s.2.toNat ([],[],0,0)).1.length:Int),0)) fun r=>
 (Sum.elim (fun a=>
 (Sum.inr (Sum.inl ()))) (fun b=>
 (Sum.inl (b.1,(az (b.2+1))))) r)))) else
 (Sum.inr (Sum.inr (()))))
def jV (x:(List (List Int×List I6×I2))) (s:(List (Int×Bool)×Int)):Prop:=
 ((s.2<(x.length:Int))->
 (((0<=s.2)/\ (s.2<(x.length:Int)))/\
 ((s.2.toNat<x.length)/\
 ((s.2.toNat<x.length)/\
 ((Av (x.getD s.2.toNat ([],[],0,0)))/\
 aA (QM (x.getD s.2.toNat ([],[],0,0))) fun y=>
 (¬((!y)=true)->
 (Term (gp x) (nJ x) (s.1,s.2,(x.getD s.2.toNat ([],[],0,0)).1,((x.getD s.2.toNat ([],[],0,0)).1.length:Int),0))))))))
def Er (x:(List (List Int×List I6×I2))) (s:(List (Int×Bool)×Int)):Tr ((List (Int×Bool)×Int)⊕(Unit⊕Unit)) true:=
 (.i10 (s.2<(nL x))
 (.gK s.2 x
 (.fn Ow (gT x s.2 ([],[],iR)) fun y=>
 (.iK (!y)
 (.ret (.inr (Sum.inl ())))
 (aB.lp (Lr x) (Es x) (s.1,s.2,(gT x s.2 ([],[],iR)).1,(nL (gT x s.2 ([],[],iR)).1),z0) fun r=>
 (.xW r (fun a=>
 (.ret (.inr (Sum.inl ())))) (fun b=>
 (.ret (.inl (b.1,(w1 b.2))))))))))
 (.ret (.inr (Sum.inr (())))))
def uz (x:(List (List Int×List I6×I2))):Bool:=
 (ai (run (eG x) ([],0)) fun r=>
 (Sum.elim (fun a=>
 false) (fun b=>
 true) r))
def uA (x:(List (List Int×List I6×I2))):Prop:=
 (Term (eG x) (jV x) ([],0))
def Z7 (x:(List (List Int×List I6×I2))):Tr Bool true:=
 (aB.lp (Lq x) (Er x) ([],z0) fun r=>
 (.xW r (fun a=>
 (.ret false)) (fun b=>
 (.ret true))))
abbrev wJ:cC:=⟨(.one (Ty.sl (Ty.prod (Ty.sl yi) (Ty.prod (Ty.sl aV) aS)))),(.one Ty.bool),uA,uz⟩
theorem Xi:ah Tryz.prog 24 (aj wJ):=ah.tr wJ Z7 (fn:=Tryz.f24) ay mg mixed (by kernel_rfl) (av.nil _ _) (fun x=>(au.tr ay (ae.bS mg (av.nil _ _)) mixed 0 (Lq x) (Er x) (au.tr ay (ae.bS mg (av.nil _ _)) mixed 2 (Lr x) (Es x) au.nil (by kernel_rfl) fun g s Q=>(by kernel_rfl)) (by kernel_rfl) fun g s Q=>(by kernel_rfl))) (fun x=>(by kernel_rfl)) fun x Q=>(by kernel_rfl)
def Ma:List (Nat×Ev.Spec):=(24,aj wJ)::ED
theorem Cl:ae Tryz.prog Ma:=ae.add (fn:=Tryz.f24) (by kernel_rfl) Xi mg
def Eu (x:((List Int×List I6×I2)×Int)):I2:=
 ((az (x.1.2.2.1+(az (2*x.2)))),(az (x.1.2.2.2+(az (2*x.2)))))
def Xm (_:((List Int×List I6×I2)×Int)):Prop:=True
def acw (x:((List Int×List I6×I2)×Int)):Tr I2 false:=
 (.ret ((az (x.1.2.2.1+(az (2*x.2)))),(az (x.1.2.2.2+(az (2*x.2))))))
abbrev BQ:cC:=⟨(.agg (Ty.prod (Ty.prod (Ty.sl yi) (Ty.prod (Ty.sl aV) aS)) yi)),(.agg aS),Xm,Eu⟩
theorem aan:ah Tryz.prog 25 (aj BQ):=ah.tr BQ acw (fn:=Tryz.f25) ay Cl mixed (by kernel_rfl) (av.nil _ _) (fun x=>au.nil) (fun x=>(by kernel_rfl)) fun x Q=>(by kernel_rfl)
def Qz:List (Nat×Ev.Spec):=(25,aj BQ)::Ma
theorem EX:ae Tryz.prog Qz:=ae.add (fn:=Tryz.f25) (by kernel_rfl) aan Cl
def Zt (x:((List Int×List I6×I2)×Int)):(List Int×List I6×I2):=
 (ai (Q8 x.1.1) fun y=>
 (ai (My x.1.2.1) fun aO=>
 (y,aO,x.1.2.2)))
def Hr (x:((List Int×List I6×I2)×Int)):Prop:=
 ((zc x.1.1)/\
 aA (Q8 x.1.1) fun y=>
 (s7 x.1.2.1))
def aew (x:((List Int×List I6×I2)×Int)):Tr (List Int×List I6×I2) true:=
 (.fn Ak x.1.1 fun y=>
 (.fn vz x.1.2.1 fun aO=>
 (.ret (y,aO,x.1.2.2))))
abbrev Nf:cC:=⟨(.agg (Ty.prod (Ty.prod (Ty.sl yi) (Ty.prod (Ty.sl aV) aS)) yi)),(.agg (Ty.prod (Ty.sl yi) (Ty.prod (Ty.sl aV) aS))),Hr,Zt⟩
theorem abZ:ah Tryz.prog 27 (aj Nf):=ah.tr Nf aew (fn:=Tryz.f27) ay EX mixed (by kernel_rfl) (av.nil _ _) (fun x=>au.nil) (fun x=>(by kernel_rfl)) fun x Q=>(by kernel_rfl)
def UP:List (Nat×Ev.Spec):=(27,aj Nf)::Qz
theorem Tj:ae Tryz.prog UP:=ae.add (fn:=Tryz.f27) (by kernel_rfl) abZ EX
end Go.Proofs.YtbjfokijjefoeaaGreat
