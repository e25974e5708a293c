/- Model of RaySeen. -/
import Derived.Test.YtlkgabjhkfhgaaaGreatSe
noncomputable section
set_option linter.unusedSectionVars false
set_option linter.unusedVariables false
set_option linter.unusedSimpArgs false
namespace Go.Proofs.YtlkgabjhkfhgaaaGreat
open Go Go.Ev Go.Proofs
def KU:Hp Tryz.prog:=⟨_,(aA.walk aC dh mixed 12 (fn:=Tryz.f12) (by kernel_rfl) (aA.nil _ _) fun ys hy=>aB.nil)⟩
def BD:Hp Tryz.prog:=⟨_,(aA.walk aC dh mixed 18 (fn:=Tryz.f18) (by kernel_rfl) KU.ok fun ys hy=>aB.nil)⟩
def BE (x:((List I9)×(List (I3×I3)))):aI:=⟨[],⟨cA 138 0 [(0,.v (.one (.full 0))),(1,.v (.one (.full 1))),(5,.v (.one (.ptr 2 0))),(7,.v (.one (.full 5))),(9,.v (.one (.i .i64))),(10,.v (.one (.i .i64))),(11,.v (.one (.i .i64)))],[.row bP 0,.row (Ty.prod bz bz) 0,.cells [.full 3,.i IntKind.u32,.i IntKind.i32,.i IntKind.u32,.full 4,.i .i64,.i .i64] 90,.row bP 2,.row (Ty.prod (Ty.prod bz bz) (Ty.prod yi (Ty.prod yi (Ty.sl yi)))) 2,.row (Ty.prod (Ty.prod bz bz) (Ty.prod yi (Ty.prod yi (Ty.sl yi)))) 2],0,none,[],[3,4,6,7],[10,5,11,8,9,12,0,1,2],[(.l bP),.i,(.l (Ty.prod (Ty.prod bz bz) (Ty.prod yi (Ty.prod yi (Ty.sl yi))))),.i,.i,(.l (Ty.prod (Ty.prod bz bz) (Ty.prod yi (Ty.prod yi (Ty.sl yi))))),.i,.i,.i],[.l bP x.1,.l (Ty.prod bz bz) x.2,.i (0:Int),.i (0:Int)]⟩,[⟨.ret,.ret,⟨cA 138 0 [(4,.v (.one (.b)))],[],0,none,[],[0],[],[],[.b false]⟩⟩,⟨(.exit 0),.normal,⟨cA 138 0 [],[],0,none,[],[],[],[],[]⟩⟩]⟩
def ek (x:((List I9)×(List (I3×I3)))) (s:((List I9)×(Int×((List ((I3×I3)×(Int×(Int×(List Int)))))×(Int×(Int×((List ((I3×I3)×(Int×(Int×(List Int)))))×I3))))))):((List I9)×(Int×((List ((I3×I3)×(Int×(Int×(List Int)))))×(Int×(Int×((List ((I3×I3)×(Int×(Int×(List Int)))))×I3))))))⊕(Unit⊕Unit):=
 (if (s.2.2.2.2.2.2.2.2<(x.2.length:Int)) then
 (ai (c5 s.2.1 (aK.base.qI s.1) s.2.2.1) fun y=>
 (ai (aK.ask s.1 y (List.getD x.2 (Int.toNat s.2.2.2.2.2.2.2.2) (((0:Int),((0:Int),(0:Int))),((0:Int),((0:Int),(0:Int)))))) fun aq=>
 (ai (dB aq s.2.2.2.1 (1:Int)) fun y_2=>
 (ai (dB aq s.2.2.2.2.1 aq.2.1) fun au=>
 (ai (xx (s.2.2.2.2.2.1,(x.1,(List.getD x.2 (Int.toNat s.2.2.2.2.2.2.2.2) (((0:Int),((0:Int),(0:Int))),((0:Int),((0:Int),(0:Int)))))))) fun aG=>
 (if ((aq.2.2 !=aG.2.2)=true) then
 (Sum.inr (Sum.inl ())) else
 (if ((!(aq.1==aG.1))=true) then
 (Sum.inr (Sum.inl ())) else
 (if ((aq.2.2==(0:Int))=true) then
 (if ((y_2 !=(ae (s.2.2.2.2.2.2.1+(1:Int))))=true) then
 (Sum.inr (Sum.inl ())) else
 (if (((ae (au- s.2.2.2.2.2.2.2.1)) !=aG.2.1)=true) then
 (Sum.inr (Sum.inl ())) else
 (if ((aq.2.2==(0:Int))=true) then
 (if (aG.2.1<(1:Int)) then
 (Sum.inr (Sum.inl ())) else
 (if (aG.2.1>(s.2.2.2.2.2.1.length:Int)) then
 (Sum.inr (Sum.inl ())) else
 (if ((aq.2.2 !=(0:Int))=true) then
 (if ((aG.2.1 !=(0:Int))=true) then
 (Sum.inr (Sum.inl ())) else
 (Sum.inl (s.1,((1:Int),(y,(y_2,(au,(s.2.2.2.2.2.1,((ae (s.2.2.2.2.2.2.1+(1:Int))),(au,(ae (s.2.2.2.2.2.2.2.2+(1:Int))))))))))))) else
 (Sum.inl (s.1,((1:Int),(y,(y_2,(au,(s.2.2.2.2.2.1,((ae (s.2.2.2.2.2.2.1+(1:Int))),(au,(ae (s.2.2.2.2.2.2.2.2+(1:Int))))))))))))))) else
 (if ((aq.2.2 !=(0:Int))=true) then
 (if ((aG.2.1 !=(0:Int))=true) then
 (Sum.inr (Sum.inl ())) else
 (Sum.inl (s.1,((1:Int),(y,(y_2,(au,(s.2.2.2.2.2.1,((ae (s.2.2.2.2.2.2.1+(1:Int))),(au,(ae (s.2.2.2.2.2.2.2.2+(1:Int))))))))))))) else
 (Sum.inl (s.1,((1:Int),(y,(y_2,(au,(s.2.2.2.2.2.1,((ae (s.2.2.2.2.2.2.1+(1:Int))),(au,(ae (s.2.2.2.2.2.2.2.2+(1:Int)))))))))))))))) else
 (if ((y_2 !=s.2.2.2.2.2.2.1)=true) then
 (Sum.inr (Sum.inl ())) else
 (if (((ae (au- s.2.2.2.2.2.2.2.1)) !=aG.2.1)=true) then
 (Sum.inr (Sum.inl ())) else
 (if ((aq.2.2==(0:Int))=true) then
 (if (aG.2.1<(1:Int)) then
 (Sum.inr (Sum.inl ())) else
 (if (aG.2.1>(s.2.2.2.2.2.1.length:Int)) then
 (Sum.inr (Sum.inl ())) else
 (if ((aq.2.2 !=(0:Int))=true) then
 (if ((aG.2.1 !=(0:Int))=true) then
 (Sum.inr (Sum.inl ())) else
 (Sum.inl (s.1,((1:Int),(y,(y_2,(au,(s.2.2.2.2.2.1,(s.2.2.2.2.2.2.1,(au,(ae (s.2.2.2.2.2.2.2.2+(1:Int))))))))))))) else
 (Sum.inl (s.1,((1:Int),(y,(y_2,(au,(s.2.2.2.2.2.1,(s.2.2.2.2.2.2.1,(au,(ae (s.2.2.2.2.2.2.2.2+(1:Int))))))))))))))) else
 (if ((aq.2.2 !=(0:Int))=true) then
 (if ((aG.2.1 !=(0:Int))=true) then
 (Sum.inr (Sum.inl ())) else
 (Sum.inl (s.1,((1:Int),(y,(y_2,(au,(s.2.2.2.2.2.1,(s.2.2.2.2.2.2.1,(au,(ae (s.2.2.2.2.2.2.2.2+(1:Int))))))))))))) else
 (Sum.inl (s.1,((1:Int),(y,(y_2,(au,(s.2.2.2.2.2.1,(s.2.2.2.2.2.2.1,(au,(ae (s.2.2.2.2.2.2.2.2+(1:Int)))))))))))))))))))))))) else
 (Sum.inr (Sum.inr (()))))
def jA (x:((List I9)×(List (I3×I3)))) (s:((List I9)×(Int×((List ((I3×I3)×(Int×(Int×(List Int)))))×(Int×(Int×((List ((I3×I3)×(Int×(Int×(List Int)))))×I3))))))):Prop:=
 ((s.2.2.2.2.2.2.2.2<(x.2.length:Int))->
 ((((0:Int)<=s.2.2.2.2.2.2.2.2)/\ (s.2.2.2.2.2.2.2.2<(x.2.length:Int)))/\
 (((Int.toNat s.2.2.2.2.2.2.2.2)<(List.length x.2))/\
 (((Int.toNat s.2.2.2.2.2.2.2.2)<(List.length x.2))/\
 (((Int.toNat s.2.2.2.2.2.2.2.2)<(List.length x.2))/\
 ((((0:Int)<=s.2.2.2.2.2.2.2.2)/\ (s.2.2.2.2.2.2.2.2<(x.2.length:Int)))/\
 (((Int.toNat s.2.2.2.2.2.2.2.2)<(List.length x.2))/\
 (((Int.toNat s.2.2.2.2.2.2.2.2)<(List.length x.2))/\
 (((Int.toNat s.2.2.2.2.2.2.2.2)<(List.length x.2))/\
 ((((decide (s.2.1=(0:Int)))||(decide (s.2.1=(1:Int))))=true)/\
 ((jV s.2.1 (aK.base.pre s.1))/\
 az (c5 s.2.1 (aK.base.qI s.1) s.2.2.1) fun y=>
 ((aK.wh s.1 y (List.getD x.2 (Int.toNat s.2.2.2.2.2.2.2.2) (((0:Int),((0:Int),(0:Int))),((0:Int),((0:Int),(0:Int))))))/\
 az (aK.ask s.1 y (List.getD x.2 (Int.toNat s.2.2.2.2.2.2.2.2) (((0:Int),((0:Int),(0:Int))),((0:Int),((0:Int),(0:Int)))))) fun aq=>
 (az (dB aq s.2.2.2.1 (1:Int)) fun y_2=>
 (az (dB aq s.2.2.2.2.1 aq.2.1) fun au=>
 ((((0:Int)<=s.2.2.2.2.2.2.2.2)/\ (s.2.2.2.2.2.2.2.2<(x.2.length:Int)))/\
 (((Int.toNat s.2.2.2.2.2.2.2.2)<(List.length x.2))/\
 (((Int.toNat s.2.2.2.2.2.2.2.2)<(List.length x.2))/\
 (((Int.toNat s.2.2.2.2.2.2.2.2)<(List.length x.2))/\
 ((((0:Int)<=s.2.2.2.2.2.2.2.2)/\ (s.2.2.2.2.2.2.2.2<(x.2.length:Int)))/\
 (((Int.toNat s.2.2.2.2.2.2.2.2)<(List.length x.2))/\
 (((Int.toNat s.2.2.2.2.2.2.2.2)<(List.length x.2))/\
 (((Int.toNat s.2.2.2.2.2.2.2.2)<(List.length x.2))/\
 (jm (s.2.2.2.2.2.1,(x.1,(List.getD x.2 (Int.toNat s.2.2.2.2.2.2.2.2) (((0:Int),((0:Int),(0:Int))),((0:Int),((0:Int),(0:Int))))))))))))))))))))))))))))))
def vJ (x:((List I9)×(List (I3×I3)))) (s:((List I9)×(Int×((List ((I3×I3)×(Int×(Int×(List Int)))))×(Int×(Int×((List ((I3×I3)×(Int×(Int×(List Int)))))×I3))))))):Tr (((List I9)×(Int×((List ((I3×I3)×(Int×(Int×(List Int)))))×(Int×(Int×((List ((I3×I3)×(Int×(Int×(List Int)))))×I3))))))⊕(Unit⊕Unit)) true:=
 (.i10 (s.2.2.2.2.2.2.2.2<(nL x.2))
 (.oI3 s.2.2.2.2.2.2.2.2 x.2
 (.oI3 s.2.2.2.2.2.2.2.2 x.2
 (.og (true&&((decide (s.2.1=z0))||(decide (s.2.1=z1)))) (((decide (s.2.1=z0))||(decide (s.2.1=z1)))=true) (fun h=>(c7 rfl h))
 (.call (jV s.2.1 (aK.base.pre s.1)) (c5 s.2.1 (aK.base.qI s.1) s.2.2.1) fun y=>
 (.call (aK.wh s.1 y (gT x.2 s.2.2.2.2.2.2.2.2 (eE,eE))) (aK.ask s.1 y (gT x.2 s.2.2.2.2.2.2.2.2 (eE,eE))) fun aq=>
 (.lt (dB aq s.2.2.2.1 z1) fun y_2=>
 (.lt (dB aq s.2.2.2.2.1 aq.2.1) fun au=>
 (.oI3 s.2.2.2.2.2.2.2.2 x.2
 (.oI3 s.2.2.2.2.2.2.2.2 x.2
 (.fn Aq (s.2.2.2.2.2.1,(x.1,(gT x.2 s.2.2.2.2.2.2.2.2 (eE,eE)))) fun aG=>
 (.fu (aq.2.2 !=aG.2.2)
 (.ret (.inr (Sum.inl ())))
 (.fu (!(aq.1==aG.1))
 (.ret (.inr (Sum.inl ())))
 (.fu (aq.2.2==z0)
 (.Dp
 (.pn 0 7
 (.fu (y_2 !=(w1 s.2.2.2.2.2.2.1))
 (.ret (.inr (Sum.inl ())))
 (.fu ((ae (au- s.2.2.2.2.2.2.2.1)) !=aG.2.1)
 (.ret (.inr (Sum.inl ())))
 (.fu (aq.2.2==z0)
 (.tu (aG.2.1<z1)
 (.ret (.inr (Sum.inl ())))
 (.tu (aG.2.1>(nL s.2.2.2.2.2.1))
 (.ret (.inr (Sum.inl ())))
 (.fu (aq.2.2 !=z0)
 (.fu (aG.2.1 !=z0)
 (.ret (.inr (Sum.inl ())))
 (.ret (.inl (s.1,(z1,(y,(y_2,(au,(s.2.2.2.2.2.1,((w1 s.2.2.2.2.2.2.1),(au,(w1 s.2.2.2.2.2.2.2.2))))))))))))
 (.ret (.inl (s.1,(z1,(y,(y_2,(au,(s.2.2.2.2.2.1,((w1 s.2.2.2.2.2.2.1),(au,(w1 s.2.2.2.2.2.2.2.2))))))))))))))
 (.fu (aq.2.2 !=z0)
 (.fu (aG.2.1 !=z0)
 (.ret (.inr (Sum.inl ())))
 (.ret (.inl (s.1,(z1,(y,(y_2,(au,(s.2.2.2.2.2.1,((w1 s.2.2.2.2.2.2.1),(au,(w1 s.2.2.2.2.2.2.2.2))))))))))))
 (.ret (.inl (s.1,(z1,(y,(y_2,(au,(s.2.2.2.2.2.1,((w1 s.2.2.2.2.2.2.1),(au,(w1 s.2.2.2.2.2.2.2.2)))))))))))))))))
 (.Dp
 (.pn 0 7
 (.fu (y_2 !=s.2.2.2.2.2.2.1)
 (.ret (.inr (Sum.inl ())))
 (.fu ((ae (au- s.2.2.2.2.2.2.2.1)) !=aG.2.1)
 (.ret (.inr (Sum.inl ())))
 (.fu (aq.2.2==z0)
 (.tu (aG.2.1<z1)
 (.ret (.inr (Sum.inl ())))
 (.tu (aG.2.1>(nL s.2.2.2.2.2.1))
 (.ret (.inr (Sum.inl ())))
 (.fu (aq.2.2 !=z0)
 (.fu (aG.2.1 !=z0)
 (.ret (.inr (Sum.inl ())))
 (.ret (.inl (s.1,(z1,(y,(y_2,(au,(s.2.2.2.2.2.1,(s.2.2.2.2.2.2.1,(au,(w1 s.2.2.2.2.2.2.2.2))))))))))))
 (.ret (.inl (s.1,(z1,(y,(y_2,(au,(s.2.2.2.2.2.1,(s.2.2.2.2.2.2.1,(au,(w1 s.2.2.2.2.2.2.2.2))))))))))))))
 (.fu (aq.2.2 !=z0)
 (.fu (aG.2.1 !=z0)
 (.ret (.inr (Sum.inl ())))
 (.ret (.inl (s.1,(z1,(y,(y_2,(au,(s.2.2.2.2.2.1,(s.2.2.2.2.2.2.1,(au,(w1 s.2.2.2.2.2.2.2.2))))))))))))
 (.ret (.inl (s.1,(z1,(y,(y_2,(au,(s.2.2.2.2.2.1,(s.2.2.2.2.2.2.1,(au,(w1 s.2.2.2.2.2.2.2.2))))))))))))))))))))))))))))))
 (.ret (.inr (Sum.inr (())))))
def Gr (x:((List I9)×(List (I3×I3)))):Bool:=
 (if ((x.1.length:Int)>(16:Int)) then
 true else
 (if ((x.2.length:Int)>(20:Int)) then
 true else
 (if ((x.1.length:Int)>(500:Int)) then
 (ai (bY x.1) fun y=>
 (ai (cU false) fun aq=>
 (if (aq=true) then
 ((2:Int)==y.2) else
 false))) else
 (ai (bZ (x.1,false)) fun y=>
 (if (y=true) then
 (ai (bY x.1) fun aq=>
 (ai (cU false) fun y_2=>
 (if (y_2=true) then
 ((5:Int)==aq.2) else
 false))) else
 (ai (mJ x.1) fun aq=>
 (ai (bY x.1) fun y_2=>
 (ai (run (ek x) (aq,((0:Int),([],((0:Int),((0:Int),(y_2.1,((0:Int),((0:Int),(0:Int)))))))))) fun r=>
 (Sum.elim (fun a=>
 false) (fun b=>
 (ai (cU false) fun au=>
 au)) r)))))))))
def rJ (x:((List I9)×(List (I3×I3)))):Prop:=
 (¬((x.1.length:Int)>(16:Int))->
 (¬((x.2.length:Int)>(20:Int))->
 ((((x.1.length:Int)>(500:Int))->
 ((fF x.1)/\
 az (bY x.1) fun y=>
 (bE false)))/\
 (¬((x.1.length:Int)>(500:Int))->
 ((gg (x.1,false))/\
 az (bZ (x.1,false)) fun y=>
 (((y=true)->
 ((fF x.1)/\
 az (bY x.1) fun aq=>
 (bE false)))/\
 (¬(y=true)->
 ((iW x.1)/\
 az (mJ x.1) fun aq=>
 ((fF x.1)/\
 az (bY x.1) fun y_2=>
 (Term (ek x) (jA x) (aq,((0:Int),([],((0:Int),((0:Int),(y_2.1,((0:Int),((0:Int),(0:Int)))))))))/\
 az (run (ek x) (aq,((0:Int),([],((0:Int),((0:Int),(y_2.1,((0:Int),((0:Int),(0:Int)))))))))) fun r=>
 (cS r (fun a=>
 True) (fun b=>
 (bE false)))))))))))))
def Ou (x:((List I9)×(List (I3×I3)))):Tr Bool true:=
 (.Di ((nL x.1)>(16:Int))
 (.ret true)
 (.Di ((nL x.2)>(20:Int))
 (.ret true)
 (.Dp
 (.i11 ((nL x.1)>(500:Int))
 (.pn 0 2
 (.fn oL x.1 fun y=>
 (.fn b6 false fun aq=>
 (.fu aq
 (.ret ((2:Int)==y.2))
 (.ret false)))))
 (.fn fC (x.1,false) fun y=>
 (.qq y
 (.pn 0 2
 (.fn oL x.1 fun aq=>
 (.fn b6 false fun y_2=>
 (.fu y_2
 (.ret ((5:Int)==aq.2))
 (.ret false)))))
 (.fn mK x.1 fun aq=>
 (.pn 0 2
 (.fn oL x.1 fun y_2=>
 (aI.lp (BE x) (vJ x) (aq,(z0,([],(z0,(z0,(y_2.1,eE)))))) fun r=>
 (.s01 r (fun a=>
 (.ret false)) (fun b=>
 (.fn b6 false fun au=>
 (.ret au))))))))))))))
abbrev xV:dS:=⟨(.pair (.one (Ty.sl bP)) (.one (Ty.sl (Ty.prod bz bz)))),(.one Ty.bool),rJ,Gr⟩
theorem KV:ak Tryz.prog 4 (av xV):=ak.tr xV Ou (fn:=Tryz.f4) aC dh mixed (by kernel_rfl) BD.ok (fun x=>(aB.tr aC (ah.c8 dh BD.ok) mixed 0 (BE x) (vJ x) aB.nil (by kernel_rfl) fun g s Q=>(by kernel_rfl))) (fun x=>(by kernel_rfl)) fun x Q=>(by kernel_rfl)
end Go.Proofs.YtlkgabjhkfhgaaaGreat
