/- Models of the references: layer 26. -/
import Derived.Test.YtngdehlpoomaiaaGreatNb
noncomputable section
set_option linter.unusedSectionVars false
set_option linter.unusedVariables false
set_option linter.unusedSimpArgs false
namespace Go.Proofs.YtngdehlpoomaiaaGreat
open Go Go.Ev Go.Proofs
abbrev Ul:Type:=(List I9×(Int×Int×Int×Int×List (Int×I3×I3×I2))×I3×I3×List (Int×Int×Int×I3))
abbrev mq:Type:=(List I9×(Int×Int×Int×Int×List (Int×I3×I3×I2))×List (Int×Int×Int×I3))
abbrev mw:Type:=(List I9×(Int×Int×Int×Int×List (Int×I3×I3×I2))×I3×I3)
abbrev nO:Type:=((Int×Int×Int×Int×List (Int×I3×I3×I2))×I3×I3)
abbrev Um:Type:=(Int×Int×Int×Int×List (Int×I3×I3×I2))
abbrev Fw:Type:=(Int×Int×Int×List I2×List I3×Int)
abbrev Fx:Type:=(Int×Int×Int×List Int×List I3×I2)
abbrev wD:Type:=(Int×Int×Int×List Int×Int)
def Qq (x:I2):Bool:=
 (if (x.1>=0) then
 (decide (x.1<=x.2)) else
 false)
def OL (_:I2):Prop:=True
def W0 (x:I2):Tr Bool false:=
 (.iz (x.1>=z0)
 (.ret (decide (x.1<=x.2)))
 (.ret false))
abbrev jE:bF:=⟨(.pair (.one yi) (.one yi)),(.one Ty.bool),OL,Qq⟩
theorem TU:aq Tryz.prog 52 (ah jE):=aM jE W0 (fn:=Tryz.f52) E2
def E7:List (Nat×Ev.Spec):=(52,ah jE)::Ro
theorem wS:aj Tryz.prog E7:=aA (fn:=Tryz.f52) TU E2
def J1 (x:Um):Tr Bool true:=
 (.fn0 jE (x.1,64) trivial fun y=>
 (.BQ y
 (.fn0 jE (x.2.1,2048) trivial fun aB=>
 (.BQ aB
 (.fn0 jE (x.2.2.1,64) trivial fun y_2=>
 (.BQ y_2
 (.fn0 jE (x.2.2.2.1,255) trivial fun bI=>
 (.BQ bI
 (.i10 ((x.2.2.2.2.length:Int)<=8)
 (.fn J0 x.2.2.2.2 fun dG=>
 (.ret dG))
 (.ret false))
 (.ret false)))
 (.ret false)))
 (.ret false)))
 (.ret false)))
def WT (x:Um):Bool:=(J1 x).val
def Au (x:Um):Prop:=(J1 x).pre
abbrev As:bF:=⟨(.agg (Ty.prod yi (Ty.prod yi (Ty.prod yi (Ty.prod yi (Ty.sl (Ty.prod yi (Ty.prod aG (Ty.prod aG dh))))))))),(.one Ty.bool),Au,WT⟩
theorem ajF:aq Tryz.prog 23 (ah As):=aM As J1 (fn:=Tryz.f23) wS
def XT:List (Nat×Ev.Spec):=(23,ah As)::E7
theorem IG:aj Tryz.prog XT:=aA (fn:=Tryz.f23) ajF wS
def TO (x:Int):Bool:=
 (if (x>=(-4160)) then
 (decide (x<=4160)) else
 false)
def WU (_:Int):Prop:=True
def afy (x:Int):Tr Bool false:=
 (.iz (x>=(-4160))
 (.ret (decide (x<=4160)))
 (.ret false))
abbrev ql:bF:=⟨(.one yi),(.one Ty.bool),WU,TO⟩
theorem aaC:aq Tryz.prog 43 (ah ql):=aM ql afy (fn:=Tryz.f43) IG
def Ni:List (Nat×Ev.Spec):=(43,ah ql)::XT
theorem BD:aj Tryz.prog Ni:=aA (fn:=Tryz.f43) aaC IG
def vS (x:Int):Int:=
 (if (x<0) then
 (au (0- (au (Int.tdiv (au (1023- x)) 1024)))) else
 (au (Int.tdiv x 1024)))
def WR (_:Int):Prop:=True
def afw (x:Int):Tr Int false:=
 (.iz (x<z0)
 (.ret (au (z0- (au (Int.tdiv (au (1023- x)) 1024)))))
 (.ret (au (Int.tdiv x 1024))))
abbrev qk:bF:=⟨(.one yi),(.one yi),WR,vS⟩
theorem aaA:aq Tryz.prog 81 (ah qk):=aM qk afw (fn:=Tryz.f81) BD
def Ng:List (Nat×Ev.Spec):=(81,ah qk)::Ni
theorem BA:aj Tryz.prog Ng:=aA (fn:=Tryz.f81) aaA BD
def Ar (x:(I3×I3×Int)):I3:=
 (ak (vS (au (x.2.1.1*x.2.2))) fun y=>
 (ak (vS (au (x.2.1.2.1*x.2.2))) fun aB=>
 (ak (vS (au (x.2.1.2.2*x.2.2))) fun y_2=>
 ((au (x.1.1+y)),(au (x.1.2.1+aB)),(au (x.1.2.2+y_2))))))
def OC (_:(I3×I3×Int)):Prop:=True
def WO (x:(I3×I3×Int)):Tr I3 false:=
 (.fn0 qk (au (x.2.1.1*x.2.2)) trivial fun y=>
 (.fn0 qk (au (x.2.1.2.1*x.2.2)) trivial fun aB=>
 (.fn0 qk (au (x.2.1.2.2*x.2.2)) trivial fun y_2=>
 (.ret ((au (x.1.1+y)),(au (x.1.2.1+aB)),(au (x.1.2.2+y_2)))))))
abbrev oD:bF:=⟨(.pair (.agg aG) (.pair (.agg aG) (.one yi))),(.agg aG),OC,Ar⟩
theorem TK:aq Tryz.prog 45 (ah oD):=aM oD WO (fn:=Tryz.f45) BA
def E4:List (Nat×Ev.Spec):=(45,ah oD)::Ng
theorem wR:aj Tryz.prog E4:=aA (fn:=Tryz.f45) TK BA
def vU (x:nO):Tr (I3×Int) true:=
 (.fn As x.1 fun y=>
 (.gG (!y)
 (.ret (bn,1))
 (.fn0 ql x.2.1.1 trivial fun aB=>
 (.gG (!aB)
 (.ret (bn,5))
 (.fn0 ql x.2.1.2.1 trivial fun y_2=>
 (.gG (!y_2)
 (.ret (bn,5))
 (.fn0 ql x.2.1.2.2 trivial fun bI=>
 (.gG (!bI)
 (.ret (bn,5))
 (.fn iT x.2.2 fun dG=>
 (.iY (dG.2 !=0)
 (.ret (bn,dG.2))
 (.fn0 oD (x.2.1,dG.1,x.1.2.2.1) trivial fun tw=>
 (.ret (tw,0)))))))))))))
def qT (x:nO):(I3×Int):=(vU x).val
def l6 (x:nO):Prop:=(vU x).pre
abbrev m0:bF:=⟨(.pair (.agg (Ty.prod yi (Ty.prod yi (Ty.prod yi (Ty.prod yi (Ty.sl (Ty.prod yi (Ty.prod aG (Ty.prod aG dh))))))))) (.pair (.agg aG) (.agg aG))),(.pair (.agg aG) (.one yi)),l6,qT⟩
theorem WW:aq Tryz.prog 18 (ah m0):=aM m0 vU (fn:=Tryz.f18) wR
def IJ:List (Nat×Ev.Spec):=(18,ah m0)::E4
theorem rf:aj Tryz.prog IJ:=aA (fn:=Tryz.f18) WW wR
def Ml (x:nO):aI:=⟨[],⟨cj 56 0 [(3,.v (.one (.ptr 0 0))),(5,.v (.one (.ptr 2 0))),(8,.v (.one (.ptr 3 0))),(10,.v (.one (.full 4))),(12,.v (.one (.full 5))),(13,.v (.one (.i .i64)))],[.cells [.i .i64,.i .i64,.i .i64,.i .i64,.full 1] 25,.row (Ty.prod yi (Ty.prod aG (Ty.prod aG dh))) 0,.cells [.i .i64,.i .i64,.i .i64] 27,.cells [.i .i64,.i .i64,.i .i64] 27,.row dh 2,.row aG 2],0,none,[],[1,2,3,4,5,6,7,8],[9,10,11,12,13,0],[.i,.i,.i,(.l dh),(.l aG),.i],[.i x.1.1,.i x.1.2.1,.i x.1.2.2.1,.i x.1.2.2.2.1,.l (Ty.prod yi (Ty.prod aG (Ty.prod aG dh))) x.1.2.2.2.2,.i x.2.2.1,.i x.2.2.2.1,.i x.2.2.2.2]⟩,[⟨(.exit 0),.normal,⟨cj 56 0 [(12,.v (.one (.full 0)))],[.row aG 2],0,none,[],[],[0],[(.l aG)],[]⟩⟩]⟩
def gY (x:nO) (s:Fw):Tr (Fw⊕(List I3)) true:=
 (.i10 (s.2.2.2.2.2<(s.2.2.2.1.length:Int))
 (.oR s.2.2.2.2.2 (s.2.2.2.1.length:Int)
 (.od (s.2.2.2.2.2.toNat<s.2.2.2.1.length)
 (.od (s.2.2.2.2.2.toNat<s.2.2.2.1.length)
 (.fn si (x.2.2,(s.2.2.2.1.getD s.2.2.2.2.2.toNat uQ)) fun y=>
 (.fn0 oD ((s.1,s.2.1,s.2.2.1),y.1,x.1.2.1) trivial fun aB=>
 (.od ((s.2.2.2.2.1.length+1)<1099511627776)
 (.ret (.inl (s.1,s.2.1,s.2.2.1,s.2.2.2.1,(s.2.2.2.2.1++ [aB]),(au (s.2.2.2.2.2+1)))))))))))
 (.ret (.inr (s.2.2.2.2.1))))
abbrev iG (x:nO) (s:Fw):Fw⊕(List I3):=(gY x s).val
abbrev lZ (x:nO) (s:Fw):Prop:=(gY x s).pre
def D6 (x:nO):(List I3×Int):=
 (ak (qT x) fun y=>
 (if ((y.2 !=0)=true) then
 ([],y.2) else
 (ak (DY x.1.1) fun aB=>
 (ak (run (iG x) (y.1.1,y.1.2.1,y.1.2.2,aB.1,[],0)) fun r=>
 (r,0)))))
def su (x:nO):Prop:=
 ((l6 x)/\
 az (qT x) fun y=>
 (¬((y.2 !=0)=true)->
 ((r9 x.1.1)/\
 az (DY x.1.1) fun aB=>
 (Term (iG x) (lZ x) (y.1.1,y.1.2.1,y.1.2.2,aB.1,[],0)))))
def afx (x:nO):Tr (List I3×Int) true:=
 (.fn m0 x fun y=>
 (.gG (y.2 !=z0)
 (.ret ([],y.2))
 (.fn Am x.1.1 fun aB=>
 (aI.lp (Ml x) (gY x) (y.1.1,y.1.2.1,y.1.2.2,aB.1,[],z0) fun r=>
 (.ret (r,z0))))))
abbrev uv:bF:=⟨(.pair (.agg (Ty.prod yi (Ty.prod yi (Ty.prod yi (Ty.prod yi (Ty.sl (Ty.prod yi (Ty.prod aG (Ty.prod aG dh))))))))) (.pair (.agg aG) (.agg aG))),(.pair (.one (Ty.sl aG)) (.one yi)),su,D6⟩
theorem aaB:aq Tryz.prog 19 (ah uv):=bS uv afx (fn:=Tryz.f19) rf (aH.nil _ _) (fun x=>(bX rf 0 (Ml x) (gY x) aK.nil))
def Nh:List (Nat×Ev.Spec):=(19,ah uv)::IJ
theorem tj:aj Tryz.prog Nh:=aA (fn:=Tryz.f19) aaB rf
def Bf (x:(List I9×I3×I3)):aI:=⟨[],⟨cj 27 0 [(0,.v (.one (.full 0))),(4,.v (.one (.ptr 1 0))),(5,.v (.one (.ptr 2 0))),(7,.v (.one (.i .i64)))],[.row cO 0,.cells [.i .i64,.i .i64,.i .i64] 27,.cells [.i .i64,.i .i64,.i .i64] 27],0,none,[],[1,2,3,4,5,6,7],[0],[.i],[.l cO x.1,.i x.2.1.1,.i x.2.1.2.1,.i x.2.1.2.2,.i x.2.2.1,.i x.2.2.2.1,.i x.2.2.2.2]⟩,[⟨.ret,.ret,⟨cj 27 0 [(6,.v (.one (.b)))],[],0,none,[],[0],[],[],[.b true]⟩⟩,⟨(.exit 0),.normal,⟨cj 27 0 [],[],0,none,[],[],[],[],[]⟩⟩]⟩
def dO (x:(List I9×I3×I3)) (s:Int):Tr (Int⊕(Unit⊕Unit)) true:=
 (.i10 (s<(x.1.length:Int))
 (.oR s (x.1.length:Int)
 (.od (s.toNat<x.1.length)
 (.od (s.toNat<x.1.length)
 (.fn DU (x.2.1,x.2.2,(x.1.getD s.toNat Ju)) fun y=>
 (.iY y.1
 (.ret (.inr (Sum.inl ())))
 (.ret (.inl (au (s+1)))))))))
 (.ret (.inr (Sum.inr (())))))
abbrev eK (x:(List I9×I3×I3)) (s:Int):Int⊕(Unit⊕Unit):=(dO x s).val
abbrev jd (x:(List I9×I3×I3)) (s:Int):Prop:=(dO x s).pre
def vR (x:(List I9×I3×I3)):Bool:=
 (ak (run (eK x) 0) fun r=>
 (Sum.elim (fun a=>
 true) (fun b=>
 false) r))
def lY (x:(List I9×I3×I3)):Prop:=
 (Term (eK x) (jd x) 0)
def TL (x:(List I9×I3×I3)):Tr Bool true:=
 (aI.lp (Bf x) (dO x) z0 fun r=>
 (.Jr r (fun a=>
 (.ret true)) (fun b=>
 (.ret false))))
abbrev lX:bF:=⟨(.pair (.one (Ty.sl cO)) (.pair (.agg aG) (.agg aG))),(.one Ty.bool),lY,vR⟩
theorem OD:aq Tryz.prog 54 (ah lX):=bS lX TL (fn:=Tryz.f54) tj (aH.nil _ _) (fun x=>(bX tj 0 (Bf x) (dO x) aK.nil))
def Bz:List (Nat×Ev.Spec):=(54,ah lX)::Nh
theorem jY:aj Tryz.prog Bz:=aA (fn:=Tryz.f54) OD tj
def HY (x:mw):aI:=⟨[],⟨cj 115 0 [(0,.v (.one (.full 0))),(5,.v (.one (.ptr 1 0))),(7,.v (.one (.ptr 3 0))),(10,.v (.one (.ptr 4 0))),(12,.v (.one (.full 5))),(13,.v (.one (.full 6))),(15,.v (.one (.i .i64))),(16,.v (.one (.i .i64)))],[.row cO 0,.cells [.i .i64,.i .i64,.i .i64,.i .i64,.full 2] 25,.row (Ty.prod yi (Ty.prod aG (Ty.prod aG dh))) 0,.cells [.i .i64,.i .i64,.i .i64] 27,.cells [.i .i64,.i .i64,.i .i64] 27,.row yi 2,.row aG 2],0,none,[],[2,3,4,5,6,7,8,9,10],[11,12,13,14,15,0,1],[.i,.i,.i,(.l yi),(.l aG),.i,.i],[.l cO x.1,.i x.2.1.1,.i x.2.1.2.1,.i x.2.1.2.2.1,.i x.2.1.2.2.2.1,.l (Ty.prod yi (Ty.prod aG (Ty.prod aG dh))) x.2.1.2.2.2.2,.i x.2.2.2.1,.i x.2.2.2.2.1,.i x.2.2.2.2.2]⟩,[⟨(.exit 0),.normal,⟨cj 115 0 [(0,.v (.one (.full 0))),(5,.v (.one (.ptr 1 0))),(7,.v (.one (.ptr 3 0))),(10,.v (.one (.ptr 4 0))),(12,.v (.one (.full 5))),(15,.v (.one (.i .i64)))],[.row cO 0,.cells [.i .i64,.i .i64,.i .i64,.i .i64,.full 2] 25,.row (Ty.prod yi (Ty.prod aG (Ty.prod aG dh))) 0,.cells [.i .i64,.i .i64,.i .i64] 27,.cells [.i .i64,.i .i64,.i .i64] 27,.row yi 2],0,none,[],[1,2,3,4,5,6,7,8,9],[10,11,12,13,0],[.i,.i,.i,(.l yi),.i],[.l cO x.1,.i x.2.1.1,.i x.2.1.2.1,.i x.2.1.2.2.1,.i x.2.1.2.2.2.1,.l (Ty.prod yi (Ty.prod aG (Ty.prod aG dh))) x.2.1.2.2.2.2,.i x.2.2.2.1,.i x.2.2.2.2.1,.i x.2.2.2.2.2]⟩⟩]⟩
def fM (x:mw) (s:Fx):Tr (Fx⊕wD) true:=
 (.i10 (s.2.2.2.2.2.2<(s.2.2.2.2.1.length:Int))
 (.oR s.2.2.2.2.2.2 (s.2.2.2.2.1.length:Int)
 (.od (s.2.2.2.2.2.2.toNat<s.2.2.2.2.1.length)
 (.od (s.2.2.2.2.2.2.toNat<s.2.2.2.2.1.length)
 (.fn lX (x.1,(s.1,s.2.1,s.2.2.1),(s.2.2.2.2.1.getD s.2.2.2.2.2.2.toNat bn)) fun y=>
 (.iY (!y)
 (.ret (.inl (s.1,s.2.1,s.2.2.1,s.2.2.2.1,s.2.2.2.2.1,(au (s.2.2.2.2.2.1+1)),(au (s.2.2.2.2.2.2+1)))))
 (.ret (.inl (s.1,s.2.1,s.2.2.1,s.2.2.2.1,s.2.2.2.2.1,s.2.2.2.2.2.1,(au (s.2.2.2.2.2.2+1))))))))))
 (.ret (.inr ((s.1,s.2.1,s.2.2.1,s.2.2.2.1,s.2.2.2.2.2.1)))))
abbrev eu (x:mw) (s:Fx):Fx⊕wD:=(fM x s).val
abbrev kE (x:mw) (s:Fx):Prop:=(fM x s).pre
def yA (x:mw):aI:=⟨[],⟨cj 115 0 [(0,.v (.one (.full 0))),(5,.v (.one (.ptr 1 0))),(7,.v (.one (.ptr 3 0))),(10,.v (.one (.ptr 4 0))),(12,.v (.one (.full 5))),(17,.v (.one (.i .i64)))],[.row cO 0,.cells [.i .i64,.i .i64,.i .i64,.i .i64,.full 2] 25,.row (Ty.prod yi (Ty.prod aG (Ty.prod aG dh))) 0,.cells [.i .i64,.i .i64,.i .i64] 27,.cells [.i .i64,.i .i64,.i .i64] 27,.row yi 2],0,none,[],[1,2,3,4,5,6,7,8,9],[10,11,12,13,0],[.i,.i,.i,(.l yi),.i],[.l cO x.1,.i x.2.1.1,.i x.2.1.2.1,.i x.2.1.2.2.1,.i x.2.1.2.2.2.1,.l (Ty.prod yi (Ty.prod aG (Ty.prod aG dh))) x.2.1.2.2.2.2,.i x.2.2.2.1,.i x.2.2.2.2.1,.i x.2.2.2.2.2]⟩,[⟨(.exit 2),.normal,⟨cj 115 0 [(12,.v (.one (.full 0)))],[.row yi 2],0,none,[],[],[0],[(.l yi)],[]⟩⟩]⟩
def ej (x:mw) (s:wD):Tr (wD⊕(List Int)) true:=
 (.i10 (s.2.2.2.2<(x.2.1.2.2.2.2.length:Int))
 (.oR s.2.2.2.2 (x.2.1.2.2.2.2.length:Int)
 (.od (s.2.2.2.2.toNat<x.2.1.2.2.2.2.length)
 (.od (s.2.2.2.2.toNat<x.2.1.2.2.2.2.length)
 (.fn oC ((x.2.1.2.2.2.2.getD s.2.2.2.2.toNat (0,bn,bn,uQ)),s.1,s.2.1,s.2.2.1) fun y=>
 (.BQ (y.2.2==0)
 (.fn lX (x.1,(s.1,s.2.1,s.2.2.1),y.2.1) fun aB=>
 (.BQ (!aB)
 (.oR s.2.2.2.2 (x.2.1.2.2.2.2.length:Int)
 (.od (s.2.2.2.2.toNat<x.2.1.2.2.2.2.length)
 (.od (s.2.2.2.2.toNat<x.2.1.2.2.2.2.length)
 (.fn vN ((x.2.1.2.2.2.2.getD s.2.2.2.2.toNat (0,bn,bn,uQ)),(s.1,s.2.1,s.2.2.1),x.2.2.2) fun y_2=>
 (.od ((s.2.2.2.1.length+1)<1099511627776)
 (.ret (.inl (s.1,s.2.1,s.2.2.1,(s.2.2.2.1++ [y_2.1]),(au (s.2.2.2.2+1))))))))))
 (.ret (.inl (s.1,s.2.1,s.2.2.1,s.2.2.2.1,(au (s.2.2.2.2+1)))))))
 (.ret (.inl (s.1,s.2.1,s.2.2.1,s.2.2.2.1,(au (s.2.2.2.2+1))))))))))
 (.ret (.inr (s.2.2.2.1))))
abbrev cn (x:mw) (s:wD):wD⊕(List Int):=(ej x s).val
abbrev iH (x:mw) (s:wD):Prop:=(ej x s).pre
def Mm (x:mw):I2:=
 (ak (qT x.2) fun y=>
 (if ((y.2 !=0)=true) then
 (0,y.2) else
 (if (x.2.1.1>0) then
 (ak (D6 x.2) fun aB=>
 (ak (run (eu x) (y.1.1,y.1.2.1,y.1.2.2,[x.2.1.2.2.2.1],aB.1,0,0)) fun r=>
 (ak (List.set r.2.2.2.1 0 (au (Int.tdiv (au (x.2.1.2.2.2.1*r.2.2.2.2)) x.2.1.1))) fun y_2=>
 (ak (run (cn x) (r.1,r.2.1,r.2.2.1,y_2,0)) fun r_1=>
 (ak (Mk r_1) fun bI=>
 (bI,0)))))) else
 (ak (run (cn x) (y.1.1,y.1.2.1,y.1.2.2,[x.2.1.2.2.2.1],0)) fun r=>
 (ak (Mk r) fun aB=>
 (aB,0))))))
def vV (x:mw):Prop:=
 ((l6 x.2)/\
 az (qT x.2) fun y=>
 (¬((y.2 !=0)=true)->
 (((x.2.1.1>0)->
 ((su x.2)/\
 az (D6 x.2) fun aB=>
 (Term (eu x) (kE x) (y.1.1,y.1.2.1,y.1.2.2,[x.2.1.2.2.2.1],aB.1,0,0)/\
 az (run (eu x) (y.1.1,y.1.2.1,y.1.2.2,[x.2.1.2.2.2.1],aB.1,0,0)) fun r=>
 ((x.2.1.1≠0)/\
 ((0<(r.2.2.2.1.length:Int))/\
 ((0<r.2.2.2.1.length)/\
 ((0<r.2.2.2.1.length)/\
 (az (List.set r.2.2.2.1 0 (au (Int.tdiv (au (x.2.1.2.2.2.1*r.2.2.2.2)) x.2.1.1))) fun y_2=>
 (Term (cn x) (iH x) (r.1,r.2.1,r.2.2.1,y_2,0)/\
 az (run (cn x) (r.1,r.2.1,r.2.2.1,y_2,0)) fun r_1=>
 (qR r_1))))))))))/\
 (¬(x.2.1.1>0)->
 (Term (cn x) (iH x) (y.1.1,y.1.2.1,y.1.2.2,[x.2.1.2.2.2.1],0)/\
 az (run (cn x) (y.1.1,y.1.2.1,y.1.2.2,[x.2.1.2.2.2.1],0)) fun r=>
 (qR r))))))
def aaE (x:mw):Tr I2 true:=
 (.fn m0 x.2 fun y=>
 (.gG (y.2 !=z0)
 (.ret (z0,y.2))
 (.i11 (x.2.1.1>z0)
 (.fn uv x.2 fun aB=>
 (aI.lp (HY x) (fM x) (y.1.1,y.1.2.1,y.1.2.2,[x.2.1.2.2.2.1],aB.1,uQ) fun r=>
 (.od (x.2.1.1≠z0)
 (.og (true&&(decide (z0<(nL r.2.2.2.1)))) (z0<(nL r.2.2.2.1)) (fun h=>(iu rfl (decide_eq_true h)))
 (.od (0<r.2.2.2.1.length)
 (.od (0<r.2.2.2.1.length)
 (.lt (List.set r.2.2.2.1 0 (au (Int.tdiv (au (x.2.1.2.2.2.1*r.2.2.2.2)) x.2.1.1))) fun y_2=>
 (aI.lp (yA x) (ej x) (r.1,r.2.1,r.2.2.1,y_2,z0) fun r_1=>
 (.fn yx r_1 fun bI=>
 (.ret (bI,z0)))))))))))
 (aI.lp (yA x) (ej x) (y.1.1,y.1.2.1,y.1.2.2,[x.2.1.2.2.2.1],z0) fun r=>
 (.fn yx r fun aB=>
 (.ret (aB,z0)))))))
abbrev qU:bF:=⟨(.pair (.one (Ty.sl cO)) (.pair (.agg (Ty.prod yi (Ty.prod yi (Ty.prod yi (Ty.prod yi (Ty.sl (Ty.prod yi (Ty.prod aG (Ty.prod aG dh))))))))) (.pair (.agg aG) (.agg aG)))),(.pair (.one yi) (.one yi)),vV,Mm⟩
theorem WY:aq Tryz.prog 24 (ah qU):=bS qU aaE (fn:=Tryz.f24) jY (aH.nil _ _) (fun x=>(bX jY 0 (HY x) (fM x) (bX jY 2 (yA x) (ej x) aK.nil)))
def IK:List (Nat×Ev.Spec):=(24,ah qU)::Bz
theorem zf:aj Tryz.prog IK:=aA (fn:=Tryz.f24) WY jY
def GC (x:I9):I3:=
 (ak (uz x) fun y=>
 (if ((((au (Int.tdiv y.1.1 16384))==0)&&(((au (Int.tdiv y.1.2.1 16384))==0)&&(((au (Int.tdiv y.1.2.2 16384))==0)&&true)))=true) then
 y.1 else
 ((au (Int.tdiv y.1.1 16384)),(au (Int.tdiv y.1.2.1 16384)),(au (Int.tdiv y.1.2.2 16384)))))
def OF (_:I9):Prop:=True
def WS (x:I9):Tr I3 false:=
 (.fn0 qV x trivial fun y=>
 (.iY (((au (Int.tdiv y.1.1 16384))==z0)&&(((au (Int.tdiv y.1.2.1 16384))==z0)&&(((au (Int.tdiv y.1.2.2 16384))==z0)&&true)))
 (.ret y.1)
 (.ret ((au (Int.tdiv y.1.1 16384)),(au (Int.tdiv y.1.2.1 16384)),(au (Int.tdiv y.1.2.2 16384))))))
abbrev sv:bF:=⟨(.agg cO),(.agg aG),OF,GC⟩
theorem TM:aq Tryz.prog 49 (ah sv):=aM sv WS (fn:=Tryz.f49) zf
def E5:List (Nat×Ev.Spec):=(49,ah sv)::IK
theorem oU:aj Tryz.prog E5:=aA (fn:=Tryz.f49) TM zf
def HX (x:(List I9)):aI:=⟨[],⟨cj 31 0 [(0,.v (.one (.full 0))),(3,.v (.one (.i .i64)))],[.row cO 0],0,none,[],[1],[0],[.i],[.l cO x]⟩,[⟨.ret,.ret,⟨cj 31 0 [(2,.v (.one (.i .i64)))],[],0,none,[],[0],[],[],[.i 5]⟩⟩,⟨(.exit 0),.normal,⟨cj 31 0 [],[],0,none,[],[],[],[],[]⟩⟩]⟩
def fK (x:(List I9)) (s:Int):Tr (Int⊕(Unit⊕Unit)) true:=
 (.i10 (s<(x.length:Int))
 (.oR s (x.length:Int)
 (.od (s.toNat<x.length)
 (.od (s.toNat<x.length)
 (.od (s.toNat<x.length)
 (.oR s (x.length:Int)
 (.od (s.toNat<x.length)
 (.od (s.toNat<x.length)
 (.od (s.toNat<x.length)
 (.oR s (x.length:Int)
 (.od (s.toNat<x.length)
 (.od (s.toNat<x.length)
 (.od (s.toNat<x.length)
 (.fn uy [(x.getD s.toNat Ju).1,(x.getD s.toNat Ju).2.1,(x.getD s.toNat Ju).2.2] fun y=>
 (.iY (!y)
 (.ret (.inr (Sum.inl ())))
 (.ret (.inl (au (s+1))))))))))))))))))
 (.ret (.inr (Sum.inr (())))))
abbrev gp (x:(List I9)) (s:Int):Int⊕(Unit⊕Unit):=(fK x s).val
abbrev kD (x:(List I9)) (s:Int):Prop:=(fK x s).pre
def uw (x:(List I9)):Int:=
 (if ((x.length:Int)>500) then
 2 else
 (ak (run (gp x) 0) fun r=>
 (Sum.elim (fun a=>
 5) (fun b=>
 0) r)))
def l5 (x:(List I9)):Prop:=
 (¬((x.length:Int)>500)->
 (Term (gp x) (kD x) 0))
def aaD (x:(List I9)):Tr Int true:=
 (.wY ((nL x)>500)
 (.ret 2)
 (aI.lp (HX x) (fK x) z0 fun r=>
 (.Jr r (fun a=>
 (.ret 5)) (fun b=>
 (.ret z0)))))
abbrev qS:bF:=⟨(.one (Ty.sl cO)),(.one yi),l5,uw⟩
theorem WV:aq Tryz.prog 48 (ah qS):=bS qS aaD (fn:=Tryz.f48) oU (aH.nil _ _) (fun x=>(bX oU 0 (HX x) (fK x) aK.nil))
def II:List (Nat×Ev.Spec):=(48,ah qS)::E5
theorem mh:aj Tryz.prog II:=aA (fn:=Tryz.f48) WV oU
def D8 (x:mq):aI:=⟨[],⟨cj 77 0 [(0,.v (.one (.full 0))),(2,.v (.one (.full 1))),(4,.v (.one (.ptr 2 0))),(8,.v (.one (.i .i64)))],[.row cO 0,.row (Ty.prod yi (Ty.prod yi (Ty.prod yi aG))) 0,.cells [.i .i64,.i .i64,.i .i64,.i .i64,.full 3] 25,.row (Ty.prod yi (Ty.prod aG (Ty.prod aG dh))) 0],0,none,[],[1,2,3,4,5,6,7],[0],[.i],[.l cO x.1,.l (Ty.prod yi (Ty.prod yi (Ty.prod yi aG))) x.2.2,.i x.2.1.1,.i x.2.1.2.1,.i x.2.1.2.2.1,.i x.2.1.2.2.2.1,.l (Ty.prod yi (Ty.prod aG (Ty.prod aG dh))) x.2.1.2.2.2.2]⟩,[⟨.ret,.ret,⟨cj 77 0 [(6,.v (.one (.raw))),(7,.v (.one (.i .i64)))],[],0,none,[],[0,1],[],[],[.v (.slice none 0 0),.i 1]⟩⟩,⟨(.exit 0),.normal,⟨cj 77 0 [(0,.v (.one (.full 0))),(2,.v (.one (.full 1))),(4,.v (.one (.ptr 2 0)))],[.row cO 0,.row (Ty.prod yi (Ty.prod yi (Ty.prod yi aG))) 0,.cells [.i .i64,.i .i64,.i .i64,.i .i64,.full 3] 25,.row (Ty.prod yi (Ty.prod aG (Ty.prod aG dh))) 0],0,none,[],[0,1,2,3,4,5,6],[],[],[.l cO x.1,.l (Ty.prod yi (Ty.prod yi (Ty.prod yi aG))) x.2.2,.i x.2.1.1,.i x.2.1.2.1,.i x.2.1.2.2.1,.i x.2.1.2.2.2.1,.l (Ty.prod yi (Ty.prod aG (Ty.prod aG dh))) x.2.1.2.2.2.2]⟩⟩]⟩
def eL (x:mq) (s:Int):Tr (Int⊕(Unit⊕Unit)) true:=
 (.i10 (s<(x.2.2.length:Int))
 (.oR s (x.2.2.length:Int)
 (.od (s.toNat<x.2.2.length)
 (.od (s.toNat<x.2.2.length)
 (.od (s.toNat<x.2.2.length)
 (.wY ((x.2.2.getD s.toNat (0,0,0,bn)).2.2.1<0)
 (.ret (.inr (Sum.inl ())))
 (.oR s (x.2.2.length:Int)
 (.od (s.toNat<x.2.2.length)
 (.od (s.toNat<x.2.2.length)
 (.od (s.toNat<x.2.2.length)
 (.iz ((x.2.2.getD s.toNat (0,0,0,bn)).2.2.1>=(x.1.length:Int))
 (.ret (.inr (Sum.inl ())))
 (.ret (.inl (au (s+1))))))))))))))
 (.ret (.inr (Sum.inr (())))))
abbrev dK (x:mq) (s:Int):Int⊕(Unit⊕Unit):=(eL x s).val
abbrev jU (x:mq) (s:Int):Prop:=(eL x s).pre
def D9 (x:mq):aI:=⟨[],⟨cj 77 0 [(0,.v (.one (.full 0))),(2,.v (.one (.full 1))),(4,.v (.one (.ptr 2 0))),(9,.v (.one (.full 4))),(10,.v (.one (.i .i64)))],[.row cO 0,.row (Ty.prod yi (Ty.prod yi (Ty.prod yi aG))) 0,.cells [.i .i64,.i .i64,.i .i64,.i .i64,.full 3] 25,.row (Ty.prod yi (Ty.prod aG (Ty.prod aG dh))) 0,.row yi 2],0,none,[],[1,2,3,4,5,6,7],[8,0],[(.l yi),.i],[.l cO x.1,.l (Ty.prod yi (Ty.prod yi (Ty.prod yi aG))) x.2.2,.i x.2.1.1,.i x.2.1.2.1,.i x.2.1.2.2.1,.i x.2.1.2.2.2.1,.l (Ty.prod yi (Ty.prod aG (Ty.prod aG dh))) x.2.1.2.2.2.2]⟩,[⟨.ret,.ret,⟨cj 77 0 [(6,.v (.one (.raw))),(7,.v (.one (.i .i64)))],[],0,none,[],[0],[1],[.i],[.v (.slice none 0 0)]⟩⟩,⟨(.exit 2),.normal,⟨cj 77 0 [(9,.v (.one (.full 0)))],[.row yi 2],0,none,[],[],[0],[(.l yi)],[]⟩⟩]⟩
def eM (x:mq) (s:(List Int×Int)):Tr ((List Int×Int)⊕(Int⊕(List Int))) true:=
 (.i10 (s.2<(x.2.2.length:Int))
 (.oR s.2 (x.2.2.length:Int)
 (.od (s.2.toNat<x.2.2.length)
 (.od (s.2.toNat<x.2.2.length)
 (.od (s.2.toNat<x.2.2.length)
 (.oR s.2 (x.2.2.length:Int)
 (.od (s.2.toNat<x.2.2.length)
 (.od (s.2.toNat<x.2.2.length)
 (.od (s.2.toNat<x.2.2.length)
 (.oR (x.2.2.getD s.2.toNat (0,0,0,bn)).2.2.1 (x.1.length:Int)
 (.od ((Int.toNat (x.2.2.getD s.2.toNat (0,0,0,bn)).2.2.1)<x.1.length)
 (.od ((Int.toNat (x.2.2.getD s.2.toNat (0,0,0,bn)).2.2.1)<x.1.length)
 (.fn0 sv (x.1.getD (Int.toNat (x.2.2.getD s.2.toNat (0,0,0,bn)).2.2.1) Ju) trivial fun y=>
 (.fn qU (x.1,x.2.1,(x.2.2.getD s.2.toNat (0,0,0,bn)).2.2.2,y) fun aB=>
 (.gG (aB.2 !=0)
 (.ret (.inr (Sum.inl aB.2)))
 (.od ((s.1.length+1)<1099511627776)
 (.ret (.inl ((s.1++ [aB.1]),(au (s.2+1))))))))))))))))))))
 (.ret (.inr (Sum.inr (s.1)))))
abbrev fy (x:mq) (s:(List Int×Int)):(List Int×Int)⊕(Int⊕(List Int)):=(eM x s).val
abbrev jV (x:mq) (s:(List Int×Int)):Prop:=(eM x s).pre
def GF (x:mq):(List Int×Int):=
 (ak (WT x.2.1) fun y=>
 (if ((!y)=true) then
 ([],1) else
 (ak (uw x.1) fun aB=>
 (if ((aB !=0)=true) then
 (ak (uw x.1) fun y_2=>
 ([],y_2)) else
 (ak (run (dK x) 0) fun r=>
 (Sum.elim (fun a=>
 ([],1)) (fun b=>
 (ak (run (fy x) ([],0)) fun r_1=>
 (Sum.elim (fun a=>
 ([],a)) (fun b_1=>
 (b_1,0)) r_1))) r))))))
def sZ (x:mq):Prop:=
 ((Au x.2.1)/\
 az (WT x.2.1) fun y=>
 (¬((!y)=true)->
 ((l5 x.1)/\
 az (uw x.1) fun aB=>
 ((((aB !=0)=true)->
 (l5 x.1))/\
 (¬((aB !=0)=true)->
 (Term (dK x) (jU x) 0/\
 az (run (dK x) 0) fun r=>
 (cS r (fun a=>
 True) (fun b=>
 (Term (fy x) (jV x) ([],0))))))))))
def WZ (x:mq):Tr (List Int×Int) true:=
 (.fn As x.2.1 fun y=>
 (.gG (!y)
 (.ret ([],z1))
 (.fn qS x.1 fun aB=>
 (.b11 (aB !=z0)
 (.fn qS x.1 fun y_2=>
 (.ret ([],y_2)))
 (aI.lp (D8 x) (eL x) z0 fun r=>
 (.s01 r (fun a=>
 (.ret ([],z1))) (fun b=>
 (aI.lp (D9 x) (eM x) ([],z0) fun r_1=>
 (.Jr r_1 (fun a=>
 (.ret ([],a))) (fun b_1=>
 (.ret (b_1,z0))))))))))))
abbrev sx:bF:=⟨(.pair (.one (Ty.sl cO)) (.pair (.agg (Ty.prod yi (Ty.prod yi (Ty.prod yi (Ty.prod yi (Ty.sl (Ty.prod yi (Ty.prod aG (Ty.prod aG dh))))))))) (.one (Ty.sl (Ty.prod yi (Ty.prod yi (Ty.prod yi aG))))))),(.pair (.one (Ty.sl yi)) (.one yi)),sZ,GF⟩
theorem TQ:aq Tryz.prog 20 (ah sx):=bS sx WZ (fn:=Tryz.f20) mh (aH.nil _ _) (fun x=>(bX mh 0 (D8 x) (eL x) (bX mh 2 (D9 x) (eM x) aK.nil)))
def E6:List (Nat×Ev.Spec):=(20,ah sx)::II
theorem oW:aj Tryz.prog E6:=aA (fn:=Tryz.f20) TQ mh
def HO (x:(List I3×List I3)):aI:=⟨[],⟨cj 26 0 [(0,.v (.one (.full 0))),(1,.v (.one (.full 1))),(5,.v (.one (.i .i64)))],[.row aG 0,.row aG 0],0,none,[],[1,2],[0],[.i],[.l aG x.1,.l aG x.2]⟩,[⟨.ret,.ret,⟨cj 26 0 [(4,.v (.one (.b)))],[],0,none,[],[0],[],[],[.b false]⟩⟩,⟨(.exit 0),.normal,⟨cj 26 0 [],[],0,none,[],[],[],[],[]⟩⟩]⟩
def gl (x:(List I3×List I3)) (s:Int):Int⊕(Unit⊕Unit):=
 (if (s<(x.1.length:Int)) then
 (if ((!(((x.1.getD s.toNat (0,0,0)).1==(x.2.getD s.toNat (0,0,0)).1)&&(((x.1.getD s.toNat (0,0,0)).2.1==(x.2.getD s.toNat (0,0,0)).2.1)&&(((x.1.getD s.toNat (0,0,0)).2.2==(x.2.getD s.toNat (0,0,0)).2.2)&&true))))=true) then
 (Sum.inr (Sum.inl ())) else
 (Sum.inl (au (s+1)))) else
 (Sum.inr (Sum.inr (()))))
def oN (x:(List I3×List I3)) (s:Int):Prop:=
 ((s<(x.1.length:Int))->
 (((0<=s)/\ (s<(x.1.length:Int)))/\
 ((s.toNat<x.1.length)/\
 ((s.toNat<x.1.length)/\
 (((0<=s)/\ (s<(x.2.length:Int)))/\
 ((s.toNat<x.2.length)/\
 (s.toNat<x.2.length)))))))
def A9 (x:(List I3×List I3)) (s:Int):Tr (Int⊕(Unit⊕Unit)) true:=
 (.i10 (s<(nL x.1))
 (.A7 s x.1
 (.A7 s x.2
 (.iY (!(((gT x.1 s bn).1==(gT x.2 s bn).1)&&(((gT x.1 s bn).2.1==(gT x.2 s bn).2.1)&&(((gT x.1 s bn).2.2==(gT x.2 s bn).2.2)&&true))))
 (.ret (.inr (Sum.inl ())))
 (.ret (.inl (w1 s))))))
 (.ret (.inr (Sum.inr (())))))
def L9 (x:(List I3×List I3)):Bool:=
 (if (((x.1.length:Int) !=(x.2.length:Int))=true) then
 false else
 (ak (run (gl x) 0) fun r=>
 (Sum.elim (fun a=>
 false) (fun b=>
 true) r)))
def vF (x:(List I3×List I3)):Prop:=
 (¬(((x.1.length:Int) !=(x.2.length:Int))=true)->
 (Term (gl x) (oN x) 0))
def aac (x:(List I3×List I3)):Tr Bool true:=
 (.gG ((nL x.1) !=(nL x.2))
 (.ret false)
 (aI.lp (HO x) (A9 x) z0 fun r=>
 (.Jr r (fun a=>
 (.ret false)) (fun b=>
 (.ret true)))))
abbrev vE:bF:=⟨(.pair (.one (Ty.sl aG)) (.one (Ty.sl aG))),(.one Ty.bool),vF,L9⟩
theorem Wv:aq Tryz.prog 21 (ah vE):=bS vE aac (fn:=Tryz.f21) oW (aH.nil _ _) (fun x=>(bX oW 0 (HO x) (A9 x) aK.nil))
def XR:List (Nat×Ev.Spec):=(21,ah vE)::E6
theorem y9:aj Tryz.prog XR:=aA (fn:=Tryz.f21) Wv oW
def ZO:Od Tryz.prog:=⟨_,(aH.walk bt y9 mixed 9 (fn:=Tryz.f9) (by kernel_rfl) (aH.nil _ _) fun ys hy=>aK.nil)⟩
def Ad (x:Ul):Tr Bool true:=
 (.fn0 JC (x.1,x.2.1) trivial fun y=>
 (.gG (!y)
 (.ret true)
 (.wY ((x.2.2.2.2.length:Int)>6)
 (.ret true)
 (.fn iL (x.2.1,x.2.2.1,x.2.2.2.1) fun aB=>
 (.fn m0 (x.2.1,x.2.2.1,x.2.2.2.1) fun y_2=>
 (.fn Jz (x.2.1,x.2.2.1,x.2.2.2.1) fun bI=>
 (.fn uv (x.2.1,x.2.2.1,x.2.2.2.1) fun dG=>
 (.fn R1 (x.1,x.2.1,x.2.2.2.2) fun tw=>
 (.fn sx (x.1,x.2.1,x.2.2.2.2) fun Kh=>
 (.gG (!((aB.1.1==y_2.1.1)&&((aB.1.2.1==y_2.1.2.1)&&((aB.1.2.2==y_2.1.2.2)&&true))))
 (.ret false)
 (.gG (aB.2 !=y_2.2)
 (.ret false)
 (.fn vE (bI.1,dG.1) fun y_7=>
 (.gG (!y_7)
 (.ret false)
 (.gG (bI.2 !=dG.2)
 (.ret false)
 (.fn Ej (tw.1,Kh.1) fun y_8=>
 (.gG (!y_8)
 (.ret false)
 (.gG (tw.2 !=Kh.2)
 (.ret false)
 (.fn Hr x.2.1 fun y_9=>
 (.fn As x.2.1 fun aqI=>
 (.gG (!(y_9==aqI))
 (.ret false)
 (.CX
 (.i11 ((x.1.length:Int)>500)
 (.pn 0 12
 (.fn mV false fun aqJ=>
 (.ret aqJ)))
 (.fn e9 (x.1,false) fun aqJ=>
 (.b11 aqJ
 (.pn 0 12
 (.fn mV false fun aqK=>
 (.ret aqK)))
 (.fn nY x.1 fun aqK=>
 (.pn 0 12
 (.fn BN (aqK,[],x.2.1.2.2.2.2,bn,(x.2.1.1,x.2.1.2.1,x.2.1.2.2.1,x.2.1.2.2.2.1),x.2.2.1,x.2.2.2.1) fun atc=>
 (.fn qU (x.1,x.2.1,x.2.2.1,x.2.2.2.1) fun atd=>
 (.fn mV false fun avy=>
 (.iY avy
 (.iY (atc.1.1==atd.1)
 (.ret (atc.1.2==atd.2))
 (.ret false))
 (.ret false)))))))))))))))))))))))))))))))
def S5 (x:Ul):Bool:=(Ad x).val
def x7 (x:Ul):Prop:=(Ad x).pre
abbrev Gl:bF:=⟨(.pair (.one (Ty.sl cO)) (.pair (.agg (Ty.prod yi (Ty.prod yi (Ty.prod yi (Ty.prod yi (Ty.sl (Ty.prod yi (Ty.prod aG (Ty.prod aG dh))))))))) (.pair (.agg aG) (.pair (.agg aG) (.one (Ty.sl (Ty.prod yi (Ty.prod yi (Ty.prod yi aG))))))))),(.one Ty.bool),x7,S5⟩
theorem ZP:aq Tryz.prog 7 (ah Gl):=bS Gl Ad (fn:=Tryz.f7) y9 ZO.ok (fun x=>aK.nil)
end Go.Proofs.YtngdehlpoomaiaaGreat
