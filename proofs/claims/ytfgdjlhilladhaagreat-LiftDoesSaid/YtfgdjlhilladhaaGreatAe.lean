/- Models of functions of layer 18. -/
import Derived.Test.YtfgdjlhilladhaaGreatAa
import Derived.Test.YtfgdjlhilladhaaGreatFf
noncomputable section
set_option linter.unusedSectionVars false
set_option linter.unusedVariables false
set_option linter.unusedSimpArgs false
namespace Go.Proofs.YtfgdjlhilladhaaGreat
open Go Go.Ev Go.Proofs
theorem aiJ:IJ tt 3 yi:=fun x y=>by rfl
abbrev wv:Type:=((Int×Int×Int×List (List Int×List I6×I2)×List (Int×I3))×Int)
abbrev jl:Type:=(Int×Int×Int×List (List Int×List I6×I2)×List (Int×I3))
abbrev Fv:Type:=(List (Int×Bool)×Int×List Int×I2)
def ZA:List (Nat×Ev.Spec):=(89,ak LS)::Vf
theorem Ye:ae Tryz.prog ZA:=ae.add (fn:=Tryz.f89) (by kernel_rfl) Zz Vg
def ZB:List (Nat×Ev.Spec):=(49,ak uw)::ZA
theorem Yf:ae Tryz.prog ZB:=ae.add (fn:=Tryz.f49) (by kernel_rfl) LH Ye
def ZC:List (Nat×Ev.Spec):=(55,ak C6)::ZB
theorem L0:ae Tryz.prog ZC:=ae.add (fn:=Tryz.f55) (by kernel_rfl) aaK Yf
def tX (x:I3):Bool:=
 (if ((aG (aG x.1 x.2.1) x.2.2)>=1) then
 (if ((aI x.1 x.2.1)<=256) then
 (decide (x.2.2<=8)) else
 false) else
 false)
def RF (_:I3):Prop:=True
def W4 (x:I3):Tr Bool false:=
 (.fm ((aG (aG x.1 x.2.1) x.2.2)>=z1)
 (.fm ((aI x.1 x.2.1)<=256)
 (.ret (decide (x.2.2<=8)))
 (.ret false))
 (.ret false))
abbrev vl:bB:=⟨(.pair (.one yi) (.pair (.one yi) (.one yi))),(.one Ty.bool),RF,tX⟩
theorem T7:ah Tryz.prog 86 (ak vl):=ah.tr vl W4 (fn:=Tryz.f86) ax L0 mixed (by kernel_rfl) (av.nil _ _) (fun x=>au.nil) (fun x=>(by kernel_rfl)) fun x Q=>(by kernel_rfl)
def Ic:List (Nat×Ev.Spec):=(86,ak vl)::ZC
theorem mN:ae Tryz.prog Ic:=ae.add (fn:=Tryz.f86) (by kernel_rfl) T7 L0
def Ps (x:(List (List Int×List I6×I2))):aF:=⟨[],⟨bq 32 0 [(3,.v (.one (.mp 0))),(9,.v (.one (.full 1))),(10,.v (.one (.i .i64))),(11,.v (.one (.i .i64))),(19,.v (.one (.full 2))),(20,.v (.one (.i .i64))),(21,.v (.one (.i .i64)))],[.map Bool.false Bool.false yi Ty.bool,.row (Ty.prod (Ty.sl yi) (Ty.prod (Ty.sl aZ) aQ)) 0,.row yi 0],0,none,[],[0,5],[4,1,6,2,3],[(.l (.prod yi Ty.bool)),.i,(.l yi),.i,.i],[.i (x.length:Int),.l (Ty.prod (Ty.sl yi) (Ty.prod (Ty.sl aZ) aQ)) x]⟩,[⟨.ret,.ret,⟨bq 32 0 [(2,.v (.one (.b)))],[],0,none,[],[0],[],[],[.b false]⟩⟩,⟨(.exit 2),.normal,⟨bq 32 0 [(3,.v (.one (.mp 0))),(9,.v (.one (.full 1))),(10,.v (.one (.i .i64))),(11,.v (.one (.i .i64)))],[.map Bool.false Bool.false yi Ty.bool,.row (Ty.prod (Ty.sl yi) (Ty.prod (Ty.sl aZ) aQ)) 0],0,none,[],[0,3],[2,1],[(.l (.prod yi Ty.bool)),.i],[.i (x.length:Int),.l (Ty.prod (Ty.sl yi) (Ty.prod (Ty.sl aZ) aQ)) x]⟩⟩]⟩
def ie (x:(List (List Int×List I6×I2))) (s:Fv):Fv⊕(Unit⊕(List (Int×Bool)×Int)):=
 (if (s.2.2.2.2<s.2.2.2.1) then
 (aq (mX (k:=yi) s.1 (s.2.2.1.getD s.2.2.2.2.toNat 0) false) fun y=>
 (if (y=true) then
 (Sum.inr (Sum.inl ())) else
 (aq (AF (k:=yi) s.1 (s.2.2.1.getD s.2.2.2.2.toNat 0) true) fun aB=>
 (Sum.inl (aB,s.2.1,s.2.2.1,s.2.2.2.1,(aj (s.2.2.2.2+1))))))) else
 (Sum.inr (Sum.inr ((s.1,s.2.1)))))
def n9 (x:(List (List Int×List I6×I2))) (s:Fv):Prop:=
 ((s.2.2.2.2<s.2.2.2.1)->
 (((0<=s.2.2.2.2)/\ (s.2.2.2.2<(s.2.2.1.length:Int)))/\
 ((s.2.2.2.2.toNat<s.2.2.1.length)/\
 (s.2.2.2.2.toNat<s.2.2.1.length))))
def HQ (x:(List (List Int×List I6×I2))) (s:Fv):Tr (Fv⊕(Unit⊕(List (Int×Bool)×Int))) true:=
 (.i10 (s.2.2.2.2<s.2.2.2.1)
 (.gu s.2.2.2.2 s.2.2.1
 (.fact (IJ tt 3 yi) aiJ
 (.lt (mX (k:=yi) s.1 (gI s.2.2.1 s.2.2.2.2) false) fun y=>
 (.cQ y
 (.ret (.inr (Sum.inl ())))
 (.fact (IJ tt 3 yi) aiJ
 (.lt (AF (k:=yi) s.1 (gI s.2.2.1 s.2.2.2.2) true) fun aB=>
 (.ret (.inl (aB,s.2.1,s.2.2.1,s.2.2.2.1,(w1 s.2.2.2.2))))))))))
 (.ret (.inr (Sum.inr ((s.1,s.2.1))))))
def Pr (x:(List (List Int×List I6×I2))):aF:=⟨[],⟨bq 32 0 [(3,.v (.one (.mp 0))),(9,.v (.one (.full 1))),(10,.v (.one (.i .i64))),(11,.v (.one (.i .i64)))],[.map Bool.false Bool.false yi Ty.bool,.row (Ty.prod (Ty.sl yi) (Ty.prod (Ty.sl aZ) aQ)) 0],0,none,[],[0,3],[2,1],[(.l (.prod yi Ty.bool)),.i],[.i (x.length:Int),.l (Ty.prod (Ty.sl yi) (Ty.prod (Ty.sl aZ) aQ)) x]⟩,[⟨.ret,.ret,⟨bq 32 0 [(2,.v (.one (.b)))],[],0,none,[],[0],[],[],[.b false]⟩⟩,⟨(.exit 0),.normal,⟨bq 32 0 [],[],0,none,[],[],[],[],[]⟩⟩]⟩
def fe (x:(List (List Int×List I6×I2))) (s:(List (Int×Bool)×Int)):(List (Int×Bool)×Int)⊕(Unit⊕Unit):=
 (if (s.2<(x.length:Int)) then
 (aq (VO (x.getD s.2.toNat ([],[],0,0))) fun y=>
 (if ((!y)=true) then
 (Sum.inr (Sum.inl ())) else
 (aq (run (ie x) (s.1,s.2,(x.getD s.2.toNat ([],[],0,0)).1,((x.getD s.2.toNat ([],[],0,0)).1.length:Int),0)) fun r=>
 (Sum.elim (fun a=>
 (Sum.inr (Sum.inl ()))) (fun b=>
 (Sum.inl (b.1,(aj (b.2+1))))) r)))) else
 (Sum.inr (Sum.inr (()))))
def kA (x:(List (List Int×List I6×I2))) (s:(List (Int×Bool)×Int)):Prop:=
 ((s.2<(x.length:Int))->
 (((0<=s.2)/\ (s.2<(x.length:Int)))/\
 ((s.2.toNat<x.length)/\
 ((s.2.toNat<x.length)/\
 ((CV (x.getD s.2.toNat ([],[],0,0)))/\
 az (VO (x.getD s.2.toNat ([],[],0,0))) fun y=>
 (¬((!y)=true)->
 (Term (ie x) (n9 x) (s.1,s.2,(x.getD s.2.toNat ([],[],0,0)).1,((x.getD s.2.toNat ([],[],0,0)).1.length:Int),0))))))))
def HO (x:(List (List Int×List I6×I2))) (s:(List (Int×Bool)×Int)):Tr ((List (Int×Bool)×Int)⊕(Unit⊕Unit)) true:=
 (.i10 (s.2<(nL x))
 (.gu s.2 x
 (.fn Tl (gT x s.2 ([],[],jg)) fun y=>
 (.dy (!y)
 (.ret (.inr (Sum.inl ())))
 (aF.lp (Ps x) (HQ x) (s.1,s.2,(gT x s.2 ([],[],jg)).1,(nL (gT x s.2 ([],[],jg)).1),z0) fun r=>
 (.ri r (fun a=>
 (.ret (.inr (Sum.inl ())))) (fun b=>
 (.ret (.inl (b.1,(w1 b.2))))))))))
 (.ret (.inr (Sum.inr (())))))
def Gw (x:(List (List Int×List I6×I2))):Bool:=
 (aq (run (fe x) ([],0)) fun r=>
 (Sum.elim (fun a=>
 false) (fun b=>
 true) r))
def Cg (x:(List (List Int×List I6×I2))):Prop:=
 (Term (fe x) (kA x) ([],0))
def afu (x:(List (List Int×List I6×I2))):Tr Bool true:=
 (aF.lp (Pr x) (HO x) ([],z0) fun r=>
 (.ri r (fun a=>
 (.ret false)) (fun b=>
 (.ret true))))
abbrev Er:bB:=⟨(.one (Ty.sl (Ty.prod (Ty.sl yi) (Ty.prod (Ty.sl aZ) aQ)))),(.one Ty.bool),Cg,Gw⟩
theorem ack:ah Tryz.prog 87 (ak Er):=ah.tr Er afu (fn:=Tryz.f87) ax mN mixed (by kernel_rfl) (av.nil _ _) (fun x=>(au.tr ax (ae.bD mN (av.nil _ _)) mixed 0 (Pr x) (HO x) (au.tr ax (ae.bD mN (av.nil _ _)) mixed 2 (Ps x) (HQ x) au.nil (by kernel_rfl) fun g s Q=>(by kernel_rfl)) (by kernel_rfl) fun g s Q=>(by kernel_rfl))) (fun x=>(by kernel_rfl)) fun x Q=>(by kernel_rfl)
def Qq:List (Nat×Ev.Spec):=(87,ak Er)::Ic
theorem Fh:ae Tryz.prog Qq:=ae.add (fn:=Tryz.f87) (by kernel_rfl) ack mN
def U5 (x:((List Int×List I6×I2)×Int)):I2:=
 ((aj (x.1.2.2.1+(aj (2*x.2)))),(aj (x.1.2.2.2+(aj (2*x.2)))))
def acw (_:((List Int×List I6×I2)×Int)):Prop:=True
def ah9 (x:((List Int×List I6×I2)×Int)):Tr I2 false:=
 (.ret ((aj (x.1.2.2.1+(aj (2*x.2)))),(aj (x.1.2.2.2+(aj (2*x.2))))))
abbrev JC:bB:=⟨(.agg (Ty.prod (Ty.prod (Ty.sl yi) (Ty.prod (Ty.sl aZ) aQ)) yi)),(.agg aQ),acw,U5⟩
theorem afL:ah Tryz.prog 88 (ak JC):=ah.tr JC ah9 (fn:=Tryz.f88) ax Fh mixed (by kernel_rfl) (av.nil _ _) (fun x=>au.nil) (fun x=>(by kernel_rfl)) fun x Q=>(by kernel_rfl)
def VC:List (Nat×Ev.Spec):=(88,ak JC)::Qq
theorem yV:ae Tryz.prog VC:=ae.add (fn:=Tryz.f88) (by kernel_rfl) afL Fh
def aeb (x:jl):aF:=⟨[],⟨bq 61 0 [(1,.v (.one (.ptr 0 0))),(30,.v (.one (.full 1))),(31,.v (.one (.i .i64))),(32,.v (.one (.i .i64)))],[.cells [.i .i64,.i .i64,.i .i64,.full 1,.full 2] 36,.row (Ty.prod (Ty.sl yi) (Ty.prod (Ty.sl aZ) aQ)) 0,.row (Ty.prod yi aU) 0],0,none,[],[0,2,3,4,5,6],[1],[.i],[.i (x.2.2.2.1.length:Int),.i x.1,.i x.2.1,.i x.2.2.1,.l (Ty.prod (Ty.sl yi) (Ty.prod (Ty.sl aZ) aQ)) x.2.2.2.1,.l (Ty.prod yi aU) x.2.2.2.2]⟩,[⟨.ret,.ret,⟨bq 61 0 [(2,.v (.one (.b)))],[],0,none,[],[0],[],[],[.b false]⟩⟩,⟨(.exit 0),.normal,⟨bq 61 0 [(1,.v (.one (.ptr 0 0)))],[.cells [.i .i64,.i .i64,.i .i64,.full 1,.full 2] 36,.row (Ty.prod (Ty.sl yi) (Ty.prod (Ty.sl aZ) aQ)) 0,.row (Ty.prod yi aU) 0],0,none,[],[0,1,2,3,4],[],[],[.i x.1,.i x.2.1,.i x.2.2.1,.l (Ty.prod (Ty.sl yi) (Ty.prod (Ty.sl aZ) aQ)) x.2.2.2.1,.l (Ty.prod yi aU) x.2.2.2.2]⟩⟩]⟩
def lz (x:jl) (s:Int):Int⊕(Unit⊕Unit):=
 (if (s<(x.2.2.2.1.length:Int)) then
 (aq (U5 ((x.2.2.2.1.getD s.toNat ([],[],0,0)),x.2.2.1)) fun y=>
 (if ((!(((x.2.2.2.2.getD s.toNat (0,0,0,0)).2.2.1==y.1)&&(((x.2.2.2.2.getD s.toNat (0,0,0,0)).2.2.2==y.2)&&true)))=true) then
 (Sum.inr (Sum.inl ())) else
 (Sum.inl (aj (s+1))))) else
 (Sum.inr (Sum.inr (()))))
def u7 (x:jl) (s:Int):Prop:=
 ((s<(x.2.2.2.1.length:Int))->
 (((0<=s)/\ (s<(x.2.2.2.1.length:Int)))/\
 ((s.toNat<x.2.2.2.1.length)/\
 ((s.toNat<x.2.2.2.1.length)/\
 (((0<=s)/\ (s<(x.2.2.2.2.length:Int)))/\
 ((s.toNat<x.2.2.2.2.length)/\
 (s.toNat<x.2.2.2.2.length)))))))
def TD (x:jl) (s:Int):Tr (Int⊕(Unit⊕Unit)) true:=
 (.i10 (s<(nL x.2.2.2.1))
 (.gu s x.2.2.2.1
 (.gu s x.2.2.2.2
 (.fn0 JC ((gT x.2.2.2.1 s ([],[],jg)),x.2.2.1) trivial fun y=>
 (.cQ (!(((gT x.2.2.2.2 s (z0,ef)).2.2.1==y.1)&&(((gT x.2.2.2.2 s (z0,ef)).2.2.2==y.2)&&true)))
 (.ret (.inr (Sum.inl ())))
 (.ret (.inl (w1 s)))))))
 (.ret (.inr (Sum.inr (())))))
def isM (x:jl):Bool:=
 (aq (tX (x.1,x.2.1,x.2.2.1)) fun y=>
 (if ((!y)=true) then
 false else
 (if (((x.2.2.2.2.length:Int) !=(x.2.2.2.1.length:Int))=true) then
 false else
 (aq (Gw x.2.2.2.1) fun aB=>
 (if ((!aB)=true) then
 false else
 (aq (run (lz x) 0) fun r=>
 (Sum.elim (fun a=>
 false) (fun b=>
 (aq (afG (x.1,x.2.1,x.2.2.2.2)) fun y_2=>
 y_2)) r)))))))
def Jh (x:jl):Prop:=
 (az (tX (x.1,x.2.1,x.2.2.1)) fun y=>
 (¬((!y)=true)->
 (¬(((x.2.2.2.2.length:Int) !=(x.2.2.2.1.length:Int))=true)->
 ((Cg x.2.2.2.1)/\
 az (Gw x.2.2.2.1) fun aB=>
 (¬((!aB)=true)->
 (Term (lz x) (u7 x) 0/\
 az (run (lz x) 0) fun r=>
 (cS r (fun a=>
 True) (fun b=>
 (LU (x.1,x.2.1,x.2.2.2.2))))))))))
def alS (x:jl):Tr Bool true:=
 (.fn0 vl (x.1,x.2.1,x.2.2.1) trivial fun y=>
 (.dy (!y)
 (.ret false)
 (.dy ((nL x.2.2.2.2) !=(nL x.2.2.2.1))
 (.ret false)
 (.fn Er x.2.2.2.1 fun aB=>
 (.dy (!aB)
 (.ret false)
 (aF.lp (aeb x) (TD x) z0 fun r=>
 (.s01 r (fun a=>
 (.ret false)) (fun b=>
 (.fn LS (x.1,x.2.1,x.2.2.2.2) fun y_2=>
 (.ret y_2))))))))))
abbrev YV:bB:=⟨(.agg (Ty.prod yi (Ty.prod yi (Ty.prod yi (Ty.prod (Ty.sl (Ty.prod (Ty.sl yi) (Ty.prod (Ty.sl aZ) aQ))) (Ty.sl (Ty.prod yi aU))))))),(.one Ty.bool),Jh,isM⟩
theorem ajE:ah Tryz.prog 47 (ak YV):=ah.tr YV alS (fn:=Tryz.f47) ax yV mixed (by kernel_rfl) (av.nil _ _) (fun x=>(au.tr ax (ae.bD yV (av.nil _ _)) mixed 0 (aeb x) (TD x) au.nil (by kernel_rfl) fun g s Q=>(by kernel_rfl))) (fun x=>(by kernel_rfl)) fun x Q=>(by kernel_rfl)
def afW:List (Nat×Ev.Spec):=(47,ak YV)::VC
theorem GI:ae Tryz.prog afW:=ae.add (fn:=Tryz.f47) (by kernel_rfl) ajE yV
def YF (x:jl):aF:=⟨[],⟨bq 64 0 [(1,.v (.one (.ptr 0 0))),(5,.v (.one (.full 3))),(6,.v (.one (.full 4))),(15,.v (.one (.full 1))),(16,.v (.one (.i .i64))),(17,.v (.one (.i .i64)))],[.cells [.i .i64,.i .i64,.i .i64,.full 1,.full 2] 36,.row (Ty.prod (Ty.sl yi) (Ty.prod (Ty.sl aZ) aQ)) 0,.row (Ty.prod yi aU) 0,.row aZ 2,.row yi 2],0,none,[],[0,2,3,4,5,6],[7,8,1],[(.l aZ),(.l yi),.i],[.i (x.2.2.2.1.length:Int),.i x.1,.i x.2.1,.i x.2.2.1,.l (Ty.prod (Ty.sl yi) (Ty.prod (Ty.sl aZ) aQ)) x.2.2.2.1,.l (Ty.prod yi aU) x.2.2.2.2]⟩,[⟨.ret,.ret,⟨bq 64 0 [(2,.v (.one (.raw))),(3,.v (.one (.raw))),(4,.v (.one (.i .i64)))],[],0,none,[],[0,1],[2],[.i],[.v (.slice none 0 0),.v (.slice none 0 0)]⟩⟩,⟨(.exit 0),.normal,⟨bq 64 0 [(5,.v (.one (.full 0))),(6,.v (.one (.full 1)))],[.row aZ 2,.row yi 2],0,none,[],[],[0,1],[(.l aZ),(.l yi)],[]⟩⟩]⟩
def lR (x:jl) (s:(List I6×List Int×Int)):(List I6×List Int×Int)⊕(Int⊕(List I6×List Int)):=
 (if (s.2.2<(x.2.2.2.1.length:Int)) then
 (aq (CX ((x.2.2.2.1.getD s.2.2.toNat ([],[],0,0)),(aj (16*(aj ((x.2.2.2.2.getD s.2.2.toNat (0,0,0,0)).1+x.2.2.1)))),(aj (16*(aj ((x.2.2.2.2.getD s.2.2.toNat (0,0,0,0)).2.1+x.2.2.1)))))) fun y=>
 (if ((y.2 !=0)=true) then
 (Sum.inr (Sum.inl y.2)) else
 (aq (repeatM ([s.2.2],(y.1.length:Int))) fun aB=>
 (Sum.inl ((s.1++y.1),(s.2.1++aB),(aj (s.2.2+1))))))) else
 (Sum.inr (Sum.inr ((s.1,s.2.1)))))
def rA (x:jl) (s:(List I6×List Int×Int)):Prop:=
 ((s.2.2<(x.2.2.2.1.length:Int))->
 (((0<=s.2.2)/\ (s.2.2<(x.2.2.2.1.length:Int)))/\
 ((s.2.2.toNat<x.2.2.2.1.length)/\
 ((s.2.2.toNat<x.2.2.2.1.length)/\
 (((0<=s.2.2)/\ (s.2.2<(x.2.2.2.2.length:Int)))/\
 ((s.2.2.toNat<x.2.2.2.2.length)/\
 ((s.2.2.toNat<x.2.2.2.2.length)/\
 ((s.2.2.toNat<x.2.2.2.2.length)/\
 (((0<=s.2.2)/\ (s.2.2<(x.2.2.2.2.length:Int)))/\
 ((s.2.2.toNat<x.2.2.2.2.length)/\
 ((s.2.2.toNat<x.2.2.2.2.length)/\
 ((s.2.2.toNat<x.2.2.2.2.length)/\
 ((zy ((x.2.2.2.1.getD s.2.2.toNat ([],[],0,0)),(aj (16*(aj ((x.2.2.2.2.getD s.2.2.toNat (0,0,0,0)).1+x.2.2.1)))),(aj (16*(aj ((x.2.2.2.2.getD s.2.2.toNat (0,0,0,0)).2.1+x.2.2.1))))))/\
 az (CX ((x.2.2.2.1.getD s.2.2.toNat ([],[],0,0)),(aj (16*(aj ((x.2.2.2.2.getD s.2.2.toNat (0,0,0,0)).1+x.2.2.1)))),(aj (16*(aj ((x.2.2.2.2.getD s.2.2.toNat (0,0,0,0)).2.1+x.2.2.1)))))) fun y=>
 (¬((y.2 !=0)=true)->
 (((s.1.length+y.1.length)<1099511627776)/\
 ((lM ([s.2.2],(y.1.length:Int)))/\
 az (repeatM ([s.2.2],(y.1.length:Int))) fun aB=>
 ((s.2.1.length+aB.length)<1099511627776)))))))))))))))))
def N2 (x:jl) (s:(List I6×List Int×Int)):Tr ((List I6×List Int×Int)⊕(Int⊕(List I6×List Int))) true:=
 (.i10 (s.2.2<(nL x.2.2.2.1))
 (.gu s.2.2 x.2.2.2.1
 (.Dx s.2.2 x.2.2.2.2
 (.Dx s.2.2 x.2.2.2.2
 (.fn Jd ((gT x.2.2.2.1 s.2.2 ([],[],jg)),(aj (16*(aj ((gT x.2.2.2.2 s.2.2 (z0,ef)).1+x.2.2.1)))),(aj (16*(aj ((gT x.2.2.2.2 s.2.2 (z0,ef)).2.1+x.2.2.1))))) fun y=>
 (.dy (y.2 !=z0)
 (.ret (.inr (Sum.inl y.2)))
 (.od ((s.1.length+y.1.length)<1099511627776)
 (.fn uw ([s.2.2],(nL y.1)) fun aB=>
 (.od ((s.2.1.length+aB.length)<1099511627776)
 (.ret (.inl ((s.1++y.1),(s.2.1++aB),(w1 s.2.2))))))))))))
 (.ret (.inr (Sum.inr ((s.1,s.2.1))))))
def allM (x:jl):(List I6×List Int×Int):=
 (aq (isM x) fun y=>
 (if ((!y)=true) then
 ([],[],1) else
 (aq (run (lR x) ([],[],0)) fun r=>
 (Sum.elim (fun a=>
 ([],[],a)) (fun b=>
 (b.1,b.2,0)) r))))
def xg (x:jl):Prop:=
 ((Jh x)/\
 az (isM x) fun y=>
 (¬((!y)=true)->
 (Term (lR x) (rA x) ([],[],0))))
def aiZ (x:jl):Tr (List I6×List Int×Int) true:=
 (.fn YV x fun y=>
 (.dy (!y)
 (.ret ([],[],z1))
 (aF.lp (YF x) (N2 x) ([],[],z0) fun r=>
 (.ri r (fun a=>
 (.ret ([],[],a))) (fun b=>
 (.ret (b.1,b.2,z0)))))))
abbrev JJ:bB:=⟨(.agg (Ty.prod yi (Ty.prod yi (Ty.prod yi (Ty.prod (Ty.sl (Ty.prod (Ty.sl yi) (Ty.prod (Ty.sl aZ) aQ))) (Ty.sl (Ty.prod yi aU))))))),(.pair (.one (Ty.sl aZ)) (.pair (.one (Ty.sl yi)) (.one yi))),xg,allM⟩
theorem agG:ah Tryz.prog 21 (ak JJ):=ah.tr JJ aiZ (fn:=Tryz.f21) ax GI mixed (by kernel_rfl) (av.nil _ _) (fun x=>(au.tr ax (ae.bD GI (av.nil _ _)) mixed 0 (YF x) (N2 x) au.nil (by kernel_rfl) fun g s Q=>(by kernel_rfl))) (fun x=>(by kernel_rfl)) fun x Q=>(by kernel_rfl)
def ZD:List (Nat×Ev.Spec):=(21,ak JJ)::afW
theorem Cm:ae Tryz.prog ZD:=ae.add (fn:=Tryz.f21) (by kernel_rfl) agG GI
def Tk (x:wv):aF:=⟨[],⟨bq 48 0 [(1,.v (.one (.i .i64))),(4,.v (.one (.ptr 0 0))),(6,.v (.one (.full 1))),(9,.v (.one (.i .i64))),(23,.v (.one (.full 2))),(24,.v (.one (.i .i64))),(25,.v (.one (.i .i64)))],[.cells [.i .i64,.i .i64,.i .i64,.i .i64,.i .i64,.i .i64] 24,.row aZ 2,.row (Ty.prod (Ty.sl yi) (Ty.prod (Ty.sl aZ) aQ)) 0],0,none,[],[0,2,4,5,6,7,8,9,11],[10,1,3],[(.l aZ),.i,.i],[.i x.2,.i (x.1.2.2.2.1.length:Int),.i 0,.i 0,.i 0,.i 0,.i 0,.i 0,.l (Ty.prod (Ty.sl yi) (Ty.prod (Ty.sl aZ) aQ)) x.1.2.2.2.1]⟩,[⟨.ret,.ret,⟨bq 48 0 [(4,.v (.one (.ptr 0 0))),(5,.v (.one (.b)))],[.cells [.i .i64,.i .i64,.i .i64,.i .i64,.i .i64,.i .i64] 24],0,none,[],[0],[1,2,3,4,5,6],[.i,.i,.i,.i,.i,.i],[.b true]⟩⟩,⟨(.exit 0),.normal,⟨bq 48 0 [(4,.v (.one (.ptr 0 0)))],[.cells [.i .i64,.i .i64,.i .i64,.i .i64,.i .i64,.i .i64] 24],0,none,[],[0,1,2,3,4,5],[],[],[.i 0,.i 0,.i 0,.i 0,.i 0,.i 0]⟩⟩]⟩
def AP (x:wv) (s:(List I6×I2)):(List I6×I2)⊕((Int×Int×Int×I3)⊕Unit):=
 (if (s.2.2<(x.1.2.2.2.1.length:Int)) then
 (aq (Wz ((x.1.2.2.2.1.getD s.2.2.toNat ([],[],0,0)).1,x.2)) fun y=>
 (if (y>=0) then
 (Sum.inr (Sum.inl ((s.1.getD (Int.toNat (aj (s.2.1+y))) ((0,0),(0,0),0,0)).1.1,(s.1.getD (Int.toNat (aj (s.2.1+y))) ((0,0),(0,0),0,0)).1.2,(s.1.getD (Int.toNat (aj (s.2.1+y))) ((0,0),(0,0),0,0)).2.1.1,(s.1.getD (Int.toNat (aj (s.2.1+y))) ((0,0),(0,0),0,0)).2.1.2,(s.1.getD (Int.toNat (aj (s.2.1+y))) ((0,0),(0,0),0,0)).2.2.1,(s.1.getD (Int.toNat (aj (s.2.1+y))) ((0,0),(0,0),0,0)).2.2.2))) else
 (Sum.inl (s.1,(aj (s.2.1+((x.1.2.2.2.1.getD s.2.2.toNat ([],[],0,0)).1.length:Int))),(aj (s.2.2+1)))))) else
 (Sum.inr (Sum.inr (()))))
def Rc (x:wv) (s:(List I6×I2)):Prop:=
 ((s.2.2<(x.1.2.2.2.1.length:Int))->
 (((0<=s.2.2)/\ (s.2.2<(x.1.2.2.2.1.length:Int)))/\
 ((s.2.2.toNat<x.1.2.2.2.1.length)/\
 ((s.2.2.toNat<x.1.2.2.2.1.length)/\
 ((Kq ((x.1.2.2.2.1.getD s.2.2.toNat ([],[],0,0)).1,x.2))/\
 az (Wz ((x.1.2.2.2.1.getD s.2.2.toNat ([],[],0,0)).1,x.2)) fun y=>
 ((y>=0)->
 (((0<=(aj (s.2.1+y)))/\ ((aj (s.2.1+y))<(s.1.length:Int)))/\
 (((Int.toNat (aj (s.2.1+y)))<s.1.length)/\
 ((Int.toNat (aj (s.2.1+y)))<s.1.length)))))))))
def Kb (x:wv) (s:(List I6×I2)):Tr ((List I6×I2)⊕((Int×Int×Int×I3)⊕Unit)) true:=
 (.i10 (s.2.2<(nL x.1.2.2.2.1))
 (.gu s.2.2 x.1.2.2.2.1
 (.fn C6 ((gT x.1.2.2.2.1 s.2.2 ([],[],jg)).1,x.2) fun y=>
 (.i10 (y>=z0)
 (.gu (aj (s.2.1+y)) s.1
 (.ret (.inr (Sum.inl ((gT s.1 (aj (s.2.1+y)) aK).1.1,(gT s.1 (aj (s.2.1+y)) aK).1.2,(gT s.1 (aj (s.2.1+y)) aK).2.1.1,(gT s.1 (aj (s.2.1+y)) aK).2.1.2,(gT s.1 (aj (s.2.1+y)) aK).2.2.1,(gT s.1 (aj (s.2.1+y)) aK).2.2.2)))))
 (.ret (.inl (s.1,(aj (s.2.1+(nL (gT x.1.2.2.2.1 s.2.2 ([],[],jg)).1))),(w1 s.2.2)))))))
 (.ret (.inr (Sum.inr (())))))
def akS (x:wv):(I6×Bool):=
 (aq (allM x.1) fun y=>
 (if ((y.2.2 !=0)=true) then
 (((0,0),(0,0),0,0),false) else
 (aq (run (AP x) (y.1,0,0)) fun r=>
 (Sum.elim (fun a=>
 (((a.1,a.2.1),(a.2.2.1,a.2.2.2.1),a.2.2.2.2),true)) (fun b=>
 (((0,0),(0,0),0,0),false)) r))))
def aaC (x:wv):Prop:=
 ((xg x.1)/\
 az (allM x.1) fun y=>
 (¬((y.2.2 !=0)=true)->
 (Term (AP x) (Rc x) (y.1,0,0))))
def ag2 (x:wv):Tr (I6×Bool) true:=
 (.fn JJ x.1 fun y=>
 (.dy (y.2.2 !=z0)
 (.ret (aK,false))
 (aF.lp (Tk x) (Kb x) (y.1,jg) fun r=>
 (.ri r (fun a=>
 (.ret (((a.1,a.2.1),(a.2.2.1,a.2.2.2.1),a.2.2.2.2),true))) (fun b=>
 (.ret (aK,false)))))))
abbrev Rb:bB:=⟨(.pair (.agg (Ty.prod yi (Ty.prod yi (Ty.prod yi (Ty.prod (Ty.sl (Ty.prod (Ty.sl yi) (Ty.prod (Ty.sl aZ) aQ))) (Ty.sl (Ty.prod yi aU))))))) (.one yi)),(.pair (.agg aZ) (.one Ty.bool)),aaC,akS⟩
theorem adv:ah Tryz.prog 25 (ak Rb):=ah.tr Rb ag2 (fn:=Tryz.f25) ax Cm mixed (by kernel_rfl) (av.nil _ _) (fun x=>(au.tr ax (ae.bD Cm (av.nil _ _)) mixed 0 (Tk x) (Kb x) au.nil (by kernel_rfl) fun g s Q=>(by kernel_rfl))) (fun x=>(by kernel_rfl)) fun x Q=>(by kernel_rfl)
def Vd:List (Nat×Ev.Spec):=(25,ak Rb)::ZD
theorem HZ:ae Tryz.prog Vd:=ae.add (fn:=Tryz.f25) (by kernel_rfl) adv Cm
end Go.Proofs.YtfgdjlhilladhaaGreat
