/- Models of RayOne, RayMore. -/
import Derived.Test.YtlkgabjhkfhgaaaGreatSe
noncomputable section
set_option linter.unusedSectionVars false
set_option linter.unusedVariables false
set_option linter.unusedSimpArgs false
namespace Go.Proofs.YtlkgabjhkfhgaaaGreat
open Go Go.Ev Go.Proofs
def D9 (x:(I3×(I3×(List I9)))):aI:=⟨[],⟨cA 41 0 [(3,.v (.one (.ptr 0 0))),(4,.v (.one (.ptr 1 0))),(9,.v (.one (.i .i64))),(10,.v (.one (.b))),(15,.v (.one (.full 2))),(16,.v (.one (.i .i64))),(17,.v (.one (.i .i64)))],[.cells [.i .i64,.i .i64,.i .i64] 39,.cells [.i .i64,.i .i64,.i .i64] 39,.row bP 0],0,none,[],[2,4,5,6,7,8,9,10],[0,1,3],[.i,.b,.i],[.i (x.2.2.length:Int),.i x.1.1,.i x.1.2.1,.i x.1.2.2,.i x.2.1.1,.i x.2.1.2.1,.i x.2.1.2.2,.l bP x.2.2]⟩,[⟨.ret,.ret,⟨cA 41 0 [(6,.v (.one (.i .i64))),(7,.v (.one (.b))),(8,.v (.one (.i .i64)))],[],0,none,[],[0,1],[2],[.i],[.i (0:Int),.b false]⟩⟩,⟨(.exit 0),.normal,⟨cA 41 0 [(9,.v (.one (.i .i64))),(10,.v (.one (.b)))],[],0,none,[],[],[0,1],[.i,.b],[]⟩⟩]⟩
def cE (x:(I3×(I3×(List I9)))) (s:(Int×(Bool×Int))):(Int×(Bool×Int))⊕(Int⊕(Int×Bool)):=
 (if (s.2.2<(x.2.2.length:Int)) then
 (ai (Dz (x.1,(x.2.1,(List.getD x.2.2 (Int.toNat s.2.2) (((0:Int),((0:Int),(0:Int))),(((0:Int),((0:Int),(0:Int))),((0:Int),((0:Int),(0:Int))))))))) fun y=>
 (if ((y.2 !=(0:Int))=true) then
 (Sum.inr (Sum.inl y.2)) else
 (if (y.1=true) then
 (if ((!s.2.1)=true) then
 (Sum.inl (s.2.2,(true,(ae (s.2.2+(1:Int)))))) else
 (Sum.inl (s.1,(s.2.1,(ae (s.2.2+(1:Int))))))) else
 (Sum.inl (s.1,(s.2.1,(ae (s.2.2+(1:Int))))))))) else
 (Sum.inr (Sum.inr ((s.1,s.2.1)))))
def dA (x:(I3×(I3×(List I9)))) (s:(Int×(Bool×Int))):Prop:=
 ((s.2.2<(x.2.2.length:Int))->
 ((((0:Int)<=s.2.2)/\ (s.2.2<(x.2.2.length:Int)))/\
 (((Int.toNat s.2.2)<(List.length x.2.2))/\
 (((Int.toNat s.2.2)<(List.length x.2.2))/\
 (mO (x.1,(x.2.1,(List.getD x.2.2 (Int.toNat s.2.2) (((0:Int),((0:Int),(0:Int))),(((0:Int),((0:Int),(0:Int))),((0:Int),((0:Int),(0:Int)))))))))))))
def yH (x:(I3×(I3×(List I9)))) (s:(Int×(Bool×Int))):Tr ((Int×(Bool×Int))⊕(Int⊕(Int×Bool))) true:=
 (.i10 (s.2.2<(nL x.2.2))
 (.bO s.2.2 x.2.2
 (.fn Bl (x.1,(x.2.1,(gT x.2.2 s.2.2 G5))) fun y=>
 (.fu (y.2 !=z0)
 (.ret (.inr (Sum.inl y.2)))
 (.fu y.1
 (.fu (!s.2.1)
 (.ret (.inl (s.2.2,(true,(w1 s.2.2)))))
 (.ret (.inl (s.1,(s.2.1,(w1 s.2.2))))))
 (.ret (.inl (s.1,(s.2.1,(w1 s.2.2)))))))))
 (.ret (.inr (Sum.inr ((s.1,s.2.1))))))
def firstM (x:(I3×(I3×(List I9)))):(Int×(Bool×Int)):=
 (ai (run (cE x) ((0:Int),(false,(0:Int)))) fun r=>
 (Sum.elim (fun a=>
 ((0:Int),(false,a))) (fun b=>
 (b.1,(b.2,(0:Int)))) r))
def uu (x:(I3×(I3×(List I9)))):Prop:=
 (Term (cE x) (dA x) ((0:Int),(false,(0:Int))))
def Ql (x:(I3×(I3×(List I9)))):Tr (Int×(Bool×Int)) true:=
 (aI.lp (D9 x) (yH x) (z0,(false,z0)) fun r=>
 (.Hj r (fun a=>
 (.ret (z0,(false,a)))) (fun b=>
 (.ret (b.1,(b.2,z0))))))
abbrev vw:dS:=⟨(.pair (.agg bz) (.pair (.agg bz) (.one (Ty.sl bP)))),(.pair (.one yi) (.pair (.one Ty.bool) (.one yi))),uu,firstM⟩
theorem NQ:ak Tryz.prog 25 (av vw):=ak.tr vw Ql (fn:=Tryz.f25) aC dh mixed (by kernel_rfl) (aA.nil _ _) (fun x=>(aB.tr aC (ah.c8 dh (aA.nil _ _)) mixed 0 (D9 x) (yH x) aB.nil (by kernel_rfl) fun g s Q=>(by kernel_rfl))) (fun x=>(by kernel_rfl)) fun x Q=>(by kernel_rfl)
def E9:List (Nat×Ev.Spec):=(25,av vw)::zk
theorem qg:ah Tryz.prog E9:=ah.add (fn:=Tryz.f25) (by kernel_rfl) NQ dh
def Ot:Hp Tryz.prog:=⟨_,(aA.walk aC qg mixed 12 (fn:=Tryz.f12) (by kernel_rfl) (aA.nil _ _) fun ys hy=>aB.nil)⟩
def KT (x:((List I9)×(I3×I3))):Bool:=
 (if ((x.1.length:Int)>(16:Int)) then
 true else
 (if ((x.1.length:Int)>(500:Int)) then
 (ai (cU false) fun y=>
 (if (y=true) then
 true else
 false)) else
 (ai (bZ (x.1,false)) fun y=>
 (if (y=true) then
 (ai (cU false) fun aq=>
 (if (aq=true) then
 true else
 false)) else
 (ai (mJ x.1) fun aq=>
 (ai (c5 (0:Int) (aK.base.qI aq) []) fun y_2=>
 (ai (aK.ask aq y_2 x.2) fun au=>
 (ai (dB au (0:Int) (1:Int)) fun aG=>
 (ai (dB au (0:Int) au.2.1) fun cu=>
 (ai (c5 (1:Int) (aK.base.qI aq) y_2) fun qD=>
 (ai (aK.ask aq qD (x.2.2,x.2.1)) fun oE=>
 (ai (dB oE aG (1:Int)) fun Ta=>
 (ai (dB oE cu oE.2.1) fun XS=>
 (ai (firstM (x.2.1,(x.2.2,x.1))) fun yq=>
 (if ((au.2.2 !=(0:Int))=true) then
 (ai (cU false) fun yu=>
 (if (yu=true) then
 (if ((oE.2.2==au.2.2)=true) then
 (if ((!au.1)=true) then
 (if ((!oE.1)=true) then
 (ai (cJ [x.2.1,x.2.2]) fun XR=>
 (!XR)) else
 false) else
 false) else
 false) else
 false)) else
 (ai (cU false) fun yu=>
 (if (yu=true) then
 (if ((oE.2.2==au.2.2)=true) then
 (if ((au.1==oE.1)=true) then
 (if ((yq.2.2==(0:Int))=true) then
 (au.1==yq.2.1) else
 false) else
 false) else
 false) else
 false)))))))))))))))))
def uz (x:((List I9)×(I3×I3))):Prop:=
 (¬((x.1.length:Int)>(16:Int))->
 ((((x.1.length:Int)>(500:Int))->
 (bE false))/\
 (¬((x.1.length:Int)>(500:Int))->
 ((gg (x.1,false))/\
 az (bZ (x.1,false)) fun y=>
 (((y=true)->
 (bE false))/\
 (¬(y=true)->
 ((iW x.1)/\
 az (mJ x.1) fun aq=>
 ((jV (0:Int) (aK.base.pre aq))/\
 az (c5 (0:Int) (aK.base.qI aq) []) fun y_2=>
 ((aK.wh aq y_2 x.2)/\
 az (aK.ask aq y_2 x.2) fun au=>
 (az (dB au (0:Int) (1:Int)) fun aG=>
 (az (dB au (0:Int) au.2.1) fun cu=>
 ((jV (1:Int) (aK.base.pre aq))/\
 az (c5 (1:Int) (aK.base.qI aq) y_2) fun qD=>
 ((aK.wh aq qD (x.2.2,x.2.1))/\
 az (aK.ask aq qD (x.2.2,x.2.1)) fun oE=>
 (az (dB oE aG (1:Int)) fun Ta=>
 (az (dB oE cu oE.2.1) fun XS=>
 ((uu (x.2.1,(x.2.2,x.1)))/\
 az (firstM (x.2.1,(x.2.2,x.1))) fun yq=>
 ((((au.2.2 !=(0:Int))=true)->
 ((bE false)/\
 az (cU false) fun yu=>
 ((yu=true)->
 (((oE.2.2==au.2.2)=true)->
 (((!au.1)=true)->
 (((!oE.1)=true)->
 (b9 [x.2.1,x.2.2])))))))/\
 (¬((au.2.2 !=(0:Int))=true)->
 (bE false)))))))))))))))))))
def Ro (x:((List I9)×(I3×I3))):Tr Bool true:=
 (.Di ((nL x.1)>(16:Int))
 (.ret true)
 (.Dp
 (.i11 ((nL x.1)>(500:Int))
 (.pn 0 3
 (.fn b6 false fun y=>
 (.fu y
 (.ret true)
 (.ret false))))
 (.fn fC (x.1,false) fun y=>
 (.qq y
 (.pn 0 3
 (.fn b6 false fun aq=>
 (.fu aq
 (.ret true)
 (.ret false))))
 (.fn mK x.1 fun aq=>
 (.pn 0 3
 (.call (jV z0 (aK.base.pre aq)) (c5 z0 (aK.base.qI aq) []) fun y_2=>
 (.call (aK.wh aq y_2 x.2) (aK.ask aq y_2 x.2) fun au=>
 (.lt (dB au z0 z1) fun aG=>
 (.lt (dB au z0 au.2.1) fun cu=>
 (.call (jV z1 (aK.base.pre aq)) (c5 z1 (aK.base.qI aq) y_2) fun qD=>
 (.call (aK.wh aq qD (x.2.2,x.2.1)) (aK.ask aq qD (x.2.2,x.2.1)) fun oE=>
 (.lt (dB oE aG z1) fun Ta=>
 (.lt (dB oE cu oE.2.1) fun XS=>
 (.fn vw (x.2.1,(x.2.2,x.1)) fun yq=>
 (.qq (au.2.2 !=z0)
 (.fn b6 false fun yu=>
 (.XX yu
 (.XX (oE.2.2==au.2.2)
 (.XX (!au.1)
 (.XX (!oE.1)
 (.fn dg [x.2.1,x.2.2] fun XR=>
 (.ret (!XR)))
 (.ret false))
 (.ret false))
 (.ret false))
 (.ret false)))
 (.fn b6 false fun yu=>
 (.fu yu
 (.fu (oE.2.2==au.2.2)
 (.fu (au.1==oE.1)
 (.fu (yq.2.2==z0)
 (.ret (au.1==yq.2.1))
 (.ret false))
 (.ret false))
 (.ret false))
 (.ret false))))))))))))))))))))
abbrev vI:dS:=⟨(.pair (.one (Ty.sl bP)) (.pair (.agg bz) (.agg bz))),(.one Ty.bool),uz,KT⟩
theorem Ez:ak Tryz.prog 8 (av vI):=ak.tr vI Ro (fn:=Tryz.f8) aC qg mixed (by kernel_rfl) Ot.ok (fun x=>aB.nil) (fun x=>(by kernel_rfl)) fun x Q=>(by kernel_rfl)
def Pg:List (Nat×Ev.Spec):=(8,av vI)::E9
theorem GU:ah Tryz.prog Pg:=ah.add (fn:=Tryz.f8) (by kernel_rfl) Ez qg
def Gq (x:((List I9)×((List I9)×(I3×I3)))):Bool:=
 (if ((ae ((x.1.length:Int)+(x.2.1.length:Int)))>(16:Int)) then
 true else
 (ai (iK (x.1,(x.2.2.1,[x.2.2.2]))) fun y=>
 (ai (iK (x.2.1,(x.2.2.1,[x.2.2.2]))) fun aq=>
 (ai (iK ((([]++x.1)++x.2.1),(x.2.2.1,[x.2.2.2]))) fun y_2=>
 (if ((y.2 !=(0:Int))=true) then
 (ai (cU false) fun au=>
 (if (au=true) then
 (y_2.2 !=(0:Int)) else
 false)) else
 (if ((aq.2 !=(0:Int))=true) then
 (ai (cU false) fun au=>
 (if (au=true) then
 (y_2.2 !=(0:Int)) else
 false)) else
 (ai (cU false) fun au=>
 (if (au=true) then
 (if ((y_2.2==(0:Int))=true) then
 (y_2.1==(fe y.1 aq.1)) else
 false) else
 false))))))))
def rI (x:((List I9)×((List I9)×(I3×I3)))):Prop:=
 (¬((ae ((x.1.length:Int)+(x.2.1.length:Int)))>(16:Int))->
 (((0+(List.length x.1))<1099511627776)/\
 ((((List.length ([]++x.1))+(List.length x.2.1))<1099511627776)/\
 ((fg (x.1,(x.2.2.1,[x.2.2.2])))/\
 az (iK (x.1,(x.2.2.1,[x.2.2.2]))) fun y=>
 ((fg (x.2.1,(x.2.2.1,[x.2.2.2])))/\
 az (iK (x.2.1,(x.2.2.1,[x.2.2.2]))) fun aq=>
 ((fg ((([]++x.1)++x.2.1),(x.2.2.1,[x.2.2.2])))/\
 az (iK ((([]++x.1)++x.2.1),(x.2.2.1,[x.2.2.2]))) fun y_2=>
 ((((y.2 !=(0:Int))=true)->
 (bE false))/\
 (¬((y.2 !=(0:Int))=true)->
 ((((aq.2 !=(0:Int))=true)->
 (bE false))/\
 (¬((aq.2 !=(0:Int))=true)->
 (bE false)))))))))))
def Om (x:((List I9)×((List I9)×(I3×I3)))):Tr Bool true:=
 (.Di ((ae ((nL x.1)+(nL x.2.1)))>(16:Int))
 (.ret true)
 (.od ((0+(List.length x.1))<1099511627776)
 (.od (((List.length ([]++x.1))+(List.length x.2.1))<1099511627776)
 (.fn jF (x.1,(x.2.2.1,[x.2.2.2])) fun y=>
 (.fn jF (x.2.1,(x.2.2.1,[x.2.2.2])) fun aq=>
 (.fn jF ((([]++x.1)++x.2.1),(x.2.2.1,[x.2.2.2])) fun y_2=>
 (.qq (y.2 !=z0)
 (.fn b6 false fun au=>
 (.fu au
 (.ret (y_2.2 !=z0))
 (.ret false)))
 (.qq (aq.2 !=z0)
 (.fn b6 false fun au=>
 (.fu au
 (.ret (y_2.2 !=z0))
 (.ret false)))
 (.fn b6 false fun au=>
 (.fu au
 (.fu (y_2.2==z0)
 (.ret (y_2.1==(fe y.1 aq.1)))
 (.ret false))
 (.ret false)))))))))))
abbrev xU:dS:=⟨(.pair (.one (Ty.sl bP)) (.pair (.one (Ty.sl bP)) (.pair (.agg bz) (.agg bz)))),(.one Ty.bool),rI,Gq⟩
theorem KR:ak Tryz.prog 5 (av xU):=ak.tr xU Om (fn:=Tryz.f5) aC GU mixed (by kernel_rfl) (aA.nil _ _) (fun x=>aB.nil) (fun x=>(by kernel_rfl)) fun x Q=>(by kernel_rfl)
end Go.Proofs.YtlkgabjhkfhgaaaGreat
