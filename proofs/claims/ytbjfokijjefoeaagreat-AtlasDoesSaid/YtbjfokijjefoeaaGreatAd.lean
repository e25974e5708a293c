/- Models of functions of layer 18: what is built. -/
import Derived.Test.YtbjfokijjefoeaaGreatAb
import Derived.Test.YtbjfokijjefoeaaGreatAa
import Derived.Test.YtbjfokijjefoeaaGreatTt
noncomputable section
set_option linter.unusedSectionVars false
set_option linter.unusedVariables false
set_option linter.unusedSimpArgs false
namespace Go.Proofs.YtbjfokijjefoeaaGreat
open Go Go.Ev Go.Proofs
def UE:List (Nat×Ev.Spec):=(16,aj g9)::UP
theorem Td:ae Tryz.prog UE:=ae.add (fn:=Tryz.f16) (by kernel_rfl) Ws Tj
def UF:List (Nat×Ev.Spec):=(26,aj Hs)::UE
theorem Te:ae Tryz.prog UF:=ae.add (fn:=Tryz.f26) (by kernel_rfl) Un Td
def UG:List (Nat×Ev.Spec):=(42,aj NN)::UF
theorem qm:ae Tryz.prog UG:=ae.add (fn:=Tryz.f42) (by kernel_rfl) acu Te
def J2 (x:(Int×Int×Int×List (List Int×List I6×I2))):aB:=⟨[],⟨bB 111 0 [(0,.v (.one (.i .i64))),(1,.v (.one (.i .i64))),(2,.v (.one (.i .i64))),(3,.v (.one (.full 0))),(8,.v (.one (.ptr 1 0))),(10,.v (.one (.full 2))),(11,.v (.one (.full 3))),(35,.v (.one (.full 2))),(36,.v (.one (.i .i64))),(37,.v (.one (.i .i64)))],[.row (Ty.prod (Ty.sl yi) (Ty.prod (Ty.sl aV) aS)) 0,.cells [.i .i64,.i .i64,.i .i64,.raw,.raw] 25,.row yi 2,.row aS 2],0,none,[],[0,1,2,5,6,7,8,9,10],[11,12,3,4],[(.l yi),(.l aS),.i,.i],[.i x.1,.i x.2.1,.i x.2.2.1,.l (Ty.prod (Ty.sl yi) (Ty.prod (Ty.sl aV) aS)) x.2.2.2,.i 0,.i 0,.i 0,.v (.slice none 0 0),.v (.slice none 0 0)]⟩,[⟨.ret,.ret,⟨bB 111 0 [(8,.v (.one (.ptr 0 0))),(9,.v (.one (.i .i64)))],[.cells [.i .i64,.i .i64,.i .i64,.raw,.raw] 25],0,none,[],[0,1,2,3,4,5],[],[],[.i 9,.i 0,.i 0,.i 0,.v (.slice none 0 0),.v (.slice none 0 0)]⟩⟩,⟨(.exit 0),.normal,⟨bB 111 0 [(0,.v (.one (.i .i64))),(1,.v (.one (.i .i64))),(2,.v (.one (.i .i64))),(3,.v (.one (.full 0))),(8,.v (.one (.ptr 1 0))),(10,.v (.one (.full 2))),(11,.v (.one (.full 3)))],[.row (Ty.prod (Ty.sl yi) (Ty.prod (Ty.sl aV) aS)) 0,.cells [.i .i64,.i .i64,.i .i64,.raw,.raw] 25,.row yi 2,.row aS 2],0,none,[],[0,1,2,3,4,5,6,7,8],[9,10],[(.l yi),(.l aS)],[.i x.1,.i x.2.1,.i x.2.2.1,.l (Ty.prod (Ty.sl yi) (Ty.prod (Ty.sl aV) aS)) x.2.2.2,.i 0,.i 0,.i 0,.v (.slice none 0 0),.v (.slice none 0 0)]⟩⟩]⟩
def fI (x:(Int×Int×Int×List (List Int×List I6×I2))) (s:(List Int×List I2×I2)):(List Int×List I2×I2)⊕(Unit⊕(List Int×List I2)):=
 (if (s.2.2.2<s.2.2.1) then
 (ai (Eu ((x.2.2.2.getD (Int.toNat (s.1.getD s.2.2.2.toNat 0)) ([],[],0,0)),x.2.2.1)) fun y=>
 (if ((bp y.1 y.2)>256) then
 (Sum.inr (Sum.inl ())) else
 (Sum.inl (s.1,(s.2.1++ [y]),s.2.2.1,(az (s.2.2.2+1)))))) else
 (Sum.inr (Sum.inr ((s.1,s.2.1)))))
def m8 (x:(Int×Int×Int×List (List Int×List I6×I2))) (s:(List Int×List I2×I2)):Prop:=
 ((s.2.2.2<s.2.2.1)->
 (((0<=s.2.2.2)/\ (s.2.2.2<(s.1.length:Int)))/\
 ((s.2.2.2.toNat<s.1.length)/\
 ((s.2.2.2.toNat<s.1.length)/\
 (((0<=(s.1.getD s.2.2.2.toNat 0))/\ ((s.1.getD s.2.2.2.toNat 0)<(x.2.2.2.length:Int)))/\
 (((Int.toNat (s.1.getD s.2.2.2.toNat 0))<x.2.2.2.length)/\
 (((Int.toNat (s.1.getD s.2.2.2.toNat 0))<x.2.2.2.length)/\
 (aA (Eu ((x.2.2.2.getD (Int.toNat (s.1.getD s.2.2.2.toNat 0)) ([],[],0,0)),x.2.2.1)) fun y=>
 (¬((bp y.1 y.2)>256)->
 ((s.2.1.length+1)<1099511627776))))))))))
def DB (x:(Int×Int×Int×List (List Int×List I6×I2))) (s:(List Int×List I2×I2)):Tr ((List Int×List I2×I2)⊕(Unit⊕(List Int×List I2))) true:=
 (.i10 (s.2.2.2<s.2.2.1)
 (.gK s.2.2.2 s.1
 (.gK (gI s.1 s.2.2.2) x.2.2.2
 (.fn0 BQ ((gT x.2.2.2 (gI s.1 s.2.2.2) ([],[],iR)),x.2.2.1) trivial fun y=>
 (.zu ((bp y.1 y.2)>256)
 (.ret (.inr (Sum.inl ())))
 (.od ((s.2.1.length+1)<1099511627776)
 (.ret (.inl (s.1,(s.2.1++ [y]),s.2.2.1,(w1 s.2.2.2)))))))))
 (.ret (.inr (Sum.inr ((s.1,s.2.1))))))
def J3 (x:(Int×Int×Int×List (List Int×List I6×I2))):aB:=⟨[],⟨bB 111 0 [(2,.v (.one (.i .i64))),(8,.v (.one (.ptr 0 0))),(10,.v (.one (.full 1))),(15,.v (.one (.full 2))),(17,.v (.one (.ptr 3 0))),(78,.v (.one (.full 6))),(79,.v (.one (.i .i64))),(80,.v (.one (.i .i64)))],[.cells [.i .i64,.i .i64,.i .i64,.raw,.raw] 25,.row yi 2,.row (Ty.prod yi cq) 2,.cells [.i .i64,.i .i64,.i .i64,.full 4,.full 5] 25,.row (Ty.prod (Ty.sl yi) (Ty.prod (Ty.sl aV) aS)) 2,.row (Ty.prod yi cq) 2,.row (Ty.prod (Ty.sl yi) (Ty.prod (Ty.sl aV) aS)) 0],0,none,[],[0,1,3,4,5,6,7,10,11,12,14,15],[8,9,13,2],[(.l yi),(.l (Ty.prod yi cq)),(.l (Ty.prod (Ty.sl yi) (Ty.prod (Ty.sl aV) aS))),.i],[.i x.2.2.1,.i (x.2.2.2.length:Int),.i 0,.i 0,.i 0,.v (.slice none 0 0),.v (.slice none 0 0),.i x.1,.i x.2.1,.i x.2.2.1,.l (Ty.prod yi cq) (List.replicate x.2.2.2.length ((0:Int),(0:Int),(0:Int),(0:Int))),.l (Ty.prod (Ty.sl yi) (Ty.prod (Ty.sl aV) aS)) x.2.2.2]⟩,[⟨(.exit 2),.normal,⟨bB 111 0 [(8,.v (.one (.ptr 0 0))),(10,.v (.one (.full 1))),(15,.v (.one (.full 2))),(17,.v (.one (.ptr 3 0)))],[.cells [.i .i64,.i .i64,.i .i64,.raw,.raw] 25,.row yi 2,.row (Ty.prod yi cq) 2,.cells [.i .i64,.i .i64,.i .i64,.full 4,.full 5] 25,.row (Ty.prod (Ty.sl yi) (Ty.prod (Ty.sl aV) aS)) 2,.row (Ty.prod yi cq) 2],0,none,[],[0,1,2,3,4,7,8,9,11],[5,6,10],[(.l yi),(.l (Ty.prod yi cq)),(.l (Ty.prod (Ty.sl yi) (Ty.prod (Ty.sl aV) aS)))],[.i 0,.i 0,.i 0,.v (.slice none 0 0),.v (.slice none 0 0),.i x.1,.i x.2.1,.i x.2.2.1,.l (Ty.prod yi cq) (List.replicate x.2.2.2.length ((0:Int),(0:Int),(0:Int),(0:Int)))]⟩⟩]⟩
def eu (x:(Int×Int×Int×List (List Int×List I6×I2))) (s:(List Int×List (Int×I3)×List (List Int×List I6×I2)×Int)):(List Int×List (Int×I3)×List (List Int×List I6×I2)×Int)⊕(List Int×List (Int×I3)×List (List Int×List I6×I2)):=
 (if (s.2.2.2<(x.2.2.2.length:Int)) then
 (ai (Zt ((x.2.2.2.getD s.2.2.2.toNat ([],[],0,0)),x.2.2.1)) fun y=>
 (Sum.inl (s.1,s.2.1,(s.2.2.1++ [y]),(az (s.2.2.2+1))))) else
 (Sum.inr ((s.1,s.2.1,s.2.2.1))))
def m9 (x:(Int×Int×Int×List (List Int×List I6×I2))) (s:(List Int×List (Int×I3)×List (List Int×List I6×I2)×Int)):Prop:=
 ((s.2.2.2<(x.2.2.2.length:Int))->
 (((0<=s.2.2.2)/\ (s.2.2.2<(x.2.2.2.length:Int)))/\
 ((s.2.2.2.toNat<x.2.2.2.length)/\
 ((s.2.2.2.toNat<x.2.2.2.length)/\
 ((Hr ((x.2.2.2.getD s.2.2.2.toNat ([],[],0,0)),x.2.2.1))/\
 aA (Zt ((x.2.2.2.getD s.2.2.2.toNat ([],[],0,0)),x.2.2.1)) fun y=>
 ((s.2.2.1.length+1)<1099511627776))))))
def DC (x:(Int×Int×Int×List (List Int×List I6×I2))) (s:(List Int×List (Int×I3)×List (List Int×List I6×I2)×Int)):Tr ((List Int×List (Int×I3)×List (List Int×List I6×I2)×Int)⊕(List Int×List (Int×I3)×List (List Int×List I6×I2))) true:=
 (.i10 (s.2.2.2<(nL x.2.2.2))
 (.gK s.2.2.2 x.2.2.2
 (.fn Nf ((gT x.2.2.2 s.2.2.2 ([],[],iR)),x.2.2.1) fun y=>
 (.od ((s.2.2.1.length+1)<1099511627776)
 (.ret (.inl (s.1,s.2.1,(s.2.2.1++ [y]),(w1 s.2.2.2)))))))
 (.ret (.inr ((s.1,s.2.1,s.2.2.1)))))
def J4 (x:(Int×Int×Int×List (List Int×List I6×I2))):aB:=⟨[],⟨bB 111 0 [(8,.v (.one (.ptr 0 0))),(15,.v (.one (.full 1))),(17,.v (.one (.ptr 2 0))),(94,.v (.one (.full 5))),(95,.v (.one (.i .i64))),(96,.v (.one (.i .i64)))],[.cells [.i .i64,.i .i64,.i .i64,.raw,.raw] 25,.row (Ty.prod yi cq) 2,.cells [.i .i64,.i .i64,.i .i64,.full 3,.full 4] 25,.row (Ty.prod (Ty.sl yi) (Ty.prod (Ty.sl aV) aS)) 2,.row (Ty.prod yi cq) 2,.row yi 2],0,none,[],[2,3,4,5,6,8,9,10],[7,11,12,13,0,1],[(.l (Ty.prod yi cq)),(.l (Ty.prod (Ty.sl yi) (Ty.prod (Ty.sl aV) aS))),(.l (Ty.prod yi cq)),(.l yi),.i,.i],[.i 0,.i 0,.i 0,.v (.slice none 0 0),.v (.slice none 0 0),.i x.1,.i x.2.1,.i x.2.2.1]⟩,[⟨(.exit 4),.normal,⟨bB 111 0 [(8,.v (.one (.ptr 0 0))),(17,.v (.one (.ptr 1 0)))],[.cells [.i .i64,.i .i64,.i .i64,.raw,.raw] 25,.cells [.i .i64,.i .i64,.i .i64,.full 2,.full 3] 25,.row (Ty.prod (Ty.sl yi) (Ty.prod (Ty.sl aV) aS)) 2,.row (Ty.prod yi cq) 2],0,none,[],[0,1,2,3,4,5,6,7],[8,9],[(.l (Ty.prod (Ty.sl yi) (Ty.prod (Ty.sl aV) aS))),(.l (Ty.prod yi cq))],[.i 0,.i 0,.i 0,.v (.slice none 0 0),.v (.slice none 0 0),.i x.1,.i x.2.1,.i x.2.2.1]⟩⟩]⟩
def eA (x:(Int×Int×Int×List (List Int×List I6×I2))) (s:(List (Int×I3)×List (List Int×List I6×I2)×List (Int×I3)×List Int×I2)):(List (Int×I3)×List (List Int×List I6×I2)×List (Int×I3)×List Int×I2)⊕(List (List Int×List I6×I2)×List (Int×I3)):=
 (if (s.2.2.2.2.2<s.2.2.2.2.1) then
 (ai (List.set s.2.2.1 (Int.toNat (s.2.2.2.1.getD s.2.2.2.2.2.toNat 0)) (s.1.getD s.2.2.2.2.2.toNat (0,0,0,0))) fun y=>
 (Sum.inl (s.1,s.2.1,y,s.2.2.2.1,s.2.2.2.2.1,(az (s.2.2.2.2.2+1))))) else
 (Sum.inr ((s.2.1,s.2.2.1))))
def nc (x:(Int×Int×Int×List (List Int×List I6×I2))) (s:(List (Int×I3)×List (List Int×List I6×I2)×List (Int×I3)×List Int×I2)):Prop:=
 ((s.2.2.2.2.2<s.2.2.2.2.1)->
 (((0<=s.2.2.2.2.2)/\ (s.2.2.2.2.2<(s.2.2.2.1.length:Int)))/\
 ((s.2.2.2.2.2.toNat<s.2.2.2.1.length)/\
 ((s.2.2.2.2.2.toNat<s.2.2.2.1.length)/\
 (((0<=s.2.2.2.2.2)/\ (s.2.2.2.2.2<(s.1.length:Int)))/\
 ((s.2.2.2.2.2.toNat<s.1.length)/\
 ((s.2.2.2.2.2.toNat<s.1.length)/\
 (((0<=(s.2.2.2.1.getD s.2.2.2.2.2.toNat 0))/\ ((s.2.2.2.1.getD s.2.2.2.2.2.toNat 0)<(s.2.2.1.length:Int)))/\
 (((Int.toNat (s.2.2.2.1.getD s.2.2.2.2.2.toNat 0))<s.2.2.1.length)/\
 ((Int.toNat (s.2.2.2.1.getD s.2.2.2.2.2.toNat 0))<s.2.2.1.length))))))))))
def DD (x:(Int×Int×Int×List (List Int×List I6×I2))) (s:(List (Int×I3)×List (List Int×List I6×I2)×List (Int×I3)×List Int×I2)):Tr ((List (Int×I3)×List (List Int×List I6×I2)×List (Int×I3)×List Int×I2)⊕(List (List Int×List I6×I2)×List (Int×I3))) true:=
 (.i10 (s.2.2.2.2.2<s.2.2.2.2.1)
 (.gK s.2.2.2.2.2 s.2.2.2.1
 (.gK s.2.2.2.2.2 s.1
 (.gK (gI s.2.2.2.1 s.2.2.2.2.2) s.2.2.1
 (.lt (List.set s.2.2.1 (tN (gI s.2.2.2.1 s.2.2.2.2.2)) (gT s.1 s.2.2.2.2.2 (z0,rX))) fun y=>
 (.ret (.inl (s.1,s.2.1,y,s.2.2.2.1,s.2.2.2.2.1,(w1 s.2.2.2.2.2))))))))
 (.ret (.inr ((s.2.1,s.2.2.1)))))
def jH (x:(Int×Int×Int×List (List Int×List I6×I2))):((Int×Int×Int×List (List Int×List I6×I2)×List (Int×I3))×Int):=
 (ai (lH (x.1,x.2.1,x.2.2.1)) fun y=>
 (if ((!y)=true) then
 ((0,0,0,[],[]),1) else
 (ai (uz x.2.2.2) fun aO=>
 (if ((!aO)=true) then
 ((0,0,0,[],[]),1) else
 (ai (fy x.2.2.2) fun y_2=>
 (ai (run (fI x) (y_2,[],(y_2.length:Int),0)) fun r=>
 (Sum.elim (fun a=>
 ((0,0,0,[],[]),9)) (fun b=>
 (ai (pack (x.1,x.2.1,b.2)) fun bf=>
 (if ((bf.2 !=0)=true) then
 ((0,0,0,[],[]),bf.2) else
 (ai (run (eu x) (b.1,bf.1,[],0)) fun r_1=>
 (ai (run (eA x) (r_1.2.1,r_1.2.2,(List.replicate x.2.2.2.length ((0:Int),(0:Int),(0:Int),(0:Int))),r_1.1,(r_1.1.length:Int),0)) fun r_2=>
 ((x.1,x.2.1,x.2.2.1,r_2),0)))))) r)))))))
def fq (x:(Int×Int×Int×List (List Int×List I6×I2))):Prop:=
 (aA (lH (x.1,x.2.1,x.2.2.1)) fun y=>
 (¬((!y)=true)->
 ((uA x.2.2.2)/\
 aA (uz x.2.2.2) fun aO=>
 (¬((!aO)=true)->
 ((dD x.2.2.2)/\
 aA (fy x.2.2.2) fun y_2=>
 (Term (fI x) (m8 x) (y_2,[],(y_2.length:Int),0)/\
 aA (run (fI x) (y_2,[],(y_2.length:Int),0)) fun r=>
 (cS r (fun a=>
 True) (fun b=>
 ((A9 (x.1,x.2.1,b.2))/\
 aA (pack (x.1,x.2.1,b.2)) fun bf=>
 (¬((bf.2 !=0)=true)->
 ((((x.2.2.2.length:Int)<=(x.2.2.2.length:Int))/\ (x.2.2.2.length<1099511627776))/\
 (Term (eu x) (m9 x) (b.1,bf.1,[],0)/\
 aA (run (eu x) (b.1,bf.1,[],0)) fun r_1=>
 (Term (eA x) (nc x) (r_1.2.1,r_1.2.2,(List.replicate x.2.2.2.length ((0:Int),(0:Int),(0:Int),(0:Int))),r_1.1,(r_1.1.length:Int),0))))))))))))))
def XY (x:(Int×Int×Int×List (List Int×List I6×I2))):Tr ((Int×Int×Int×List (List Int×List I6×I2)×List (Int×I3))×Int) true:=
 (.fn0 qc (x.1,x.2.1,x.2.2.1) trivial fun y=>
 (.iK (!y)
 (.ret ((z0,z0,z0,[],[]),z1))
 (.fn wJ x.2.2.2 fun aO=>
 (.iK (!aO)
 (.ret ((z0,z0,z0,[],[]),z1))
 (.fn g9 x.2.2.2 fun y_2=>
 (aB.lp (J2 x) (DB x) (y_2,[],(nL y_2),z0) fun r=>
 (.s01 r (fun a=>
 (.ret ((z0,z0,z0,[],[]),9))) (fun b=>
 (.fn Hs (x.1,x.2.1,b.2) fun bf=>
 (.iK (bf.2 !=z0)
 (.ret ((z0,z0,z0,[],[]),bf.2))
 (.og (((decide (z0<=(nL x.2.2.2)))&&(decide ((nL x.2.2.2)<=(nL x.2.2.2))))&&(decide (x.2.2.2.length<1099511627776))) (((nL x.2.2.2)<=(nL x.2.2.2))/\ (x.2.2.2.length<1099511627776)) (fun h=>(cX (cX rfl (decide_eq_true h.1)) (decide_eq_true h.2)))
 (aB.lp (J3 x) (DC x) (b.1,bf.1,[],z0) fun r_1=>
 (aB.lp (J4 x) (DD x) (r_1.2.1,r_1.2.2,(List.replicate x.2.2.2.length (z0,rX)),r_1.1,(nL r_1.1),z0) fun r_2=>
 (.ret ((x.1,x.2.1,x.2.2.1,r_2),z0)))))))))))))))
abbrev k8:cC:=⟨(.pair (.one yi) (.pair (.one yi) (.pair (.one yi) (.one (Ty.sl (Ty.prod (Ty.sl yi) (Ty.prod (Ty.sl aV) aS))))))),(.pair (.agg (Ty.prod yi (Ty.prod yi (Ty.prod yi (Ty.prod (Ty.sl (Ty.prod (Ty.sl yi) (Ty.prod (Ty.sl aV) aS))) (Ty.sl (Ty.prod yi cq))))))) (.one yi)),fq,jH⟩
theorem J5:ah Tryz.prog 6 (aj k8):=ah.tr k8 XY (fn:=Tryz.f6) ay qm mixed (by kernel_rfl) (av.nil _ _) (fun x=>(au.tr ay (ae.bS qm (av.nil _ _)) mixed 0 (J2 x) (DB x) (au.tr ay (ae.bS qm (av.nil _ _)) mixed 2 (J3 x) (DC x) (au.tr ay (ae.bS qm (av.nil _ _)) mixed 4 (J4 x) (DD x) au.nil (by kernel_rfl) fun g s Q=>(by kernel_rfl)) (by kernel_rfl) fun g s Q=>(by kernel_rfl)) (by kernel_rfl) fun g s Q=>(by kernel_rfl))) (fun x=>(by kernel_rfl)) fun x Q=>(by kernel_rfl)
def LC:List (Nat×Ev.Spec):=(6,aj k8)::UG
theorem uD:ae Tryz.prog LC:=ae.add (fn:=Tryz.f6) (by kernel_rfl) J5 qm
def YZ (x:(Int×Int×Int×List (List Int×List I6×I2)×List (Int×I3))):aB:=⟨[],⟨bB 61 0 [(1,.v (.one (.ptr 0 0))),(30,.v (.one (.full 1))),(31,.v (.one (.i .i64))),(32,.v (.one (.i .i64)))],[.cells [.i .i64,.i .i64,.i .i64,.full 1,.full 2] 25,.row (Ty.prod (Ty.sl yi) (Ty.prod (Ty.sl aV) aS)) 0,.row (Ty.prod yi cq) 0],0,none,[],[0,2,3,4,5,6],[1],[.i],[.i (x.2.2.2.1.length:Int),.i x.1,.i x.2.1,.i x.2.2.1,.l (Ty.prod (Ty.sl yi) (Ty.prod (Ty.sl aV) aS)) x.2.2.2.1,.l (Ty.prod yi cq) x.2.2.2.2]⟩,[⟨.ret,.ret,⟨bB 61 0 [(2,.v (.one (.b)))],[],0,none,[],[0],[],[],[.b false]⟩⟩,⟨(.exit 0),.normal,⟨bB 61 0 [(1,.v (.one (.ptr 0 0)))],[.cells [.i .i64,.i .i64,.i .i64,.full 1,.full 2] 25,.row (Ty.prod (Ty.sl yi) (Ty.prod (Ty.sl aV) aS)) 0,.row (Ty.prod yi cq) 0],0,none,[],[0,1,2,3,4],[],[],[.i x.1,.i x.2.1,.i x.2.2.1,.l (Ty.prod (Ty.sl yi) (Ty.prod (Ty.sl aV) aS)) x.2.2.2.1,.l (Ty.prod yi cq) x.2.2.2.2]⟩⟩]⟩
def kJ (x:(Int×Int×Int×List (List Int×List I6×I2)×List (Int×I3))) (s:Int):Int⊕(Unit⊕Unit):=
 (if (s<(x.2.2.2.1.length:Int)) then
 (ai (Eu ((x.2.2.2.1.getD s.toNat ([],[],0,0)),x.2.2.1)) fun y=>
 (if ((!(((x.2.2.2.2.getD s.toNat (0,0,0,0)).2.2.1==y.1)&&(((x.2.2.2.2.getD s.toNat (0,0,0,0)).2.2.2==y.2)&&true)))=true) then
 (Sum.inr (Sum.inl ())) else
 (Sum.inl (az (s+1))))) else
 (Sum.inr (Sum.inr (()))))
def tB (x:(Int×Int×Int×List (List Int×List I6×I2)×List (Int×I3))) (s:Int):Prop:=
 ((s<(x.2.2.2.1.length:Int))->
 (((0<=s)/\ (s<(x.2.2.2.1.length:Int)))/\
 ((s.toNat<x.2.2.2.1.length)/\
 ((s.toNat<x.2.2.2.1.length)/\
 (((0<=s)/\ (s<(x.2.2.2.2.length:Int)))/\
 ((s.toNat<x.2.2.2.2.length)/\
 (s.toNat<x.2.2.2.2.length)))))))
def OQ (x:(Int×Int×Int×List (List Int×List I6×I2)×List (Int×I3))) (s:Int):Tr (Int⊕(Unit⊕Unit)) true:=
 (.i10 (s<(nL x.2.2.2.1))
 (.gK s x.2.2.2.1
 (.gK s x.2.2.2.2
 (.fn0 BQ ((gT x.2.2.2.1 s ([],[],iR)),x.2.2.1) trivial fun y=>
 (.nT (!(((gT x.2.2.2.2 s (z0,rX)).2.2.1==y.1)&&(((gT x.2.2.2.2 s (z0,rX)).2.2.2==y.2)&&true)))
 (.ret (.inr (Sum.inl ())))
 (.ret (.inl (w1 s)))))))
 (.ret (.inr (Sum.inr (())))))
def GY (x:(Int×Int×Int×List (List Int×List I6×I2)×List (Int×I3))):Bool:=
 (ai (lH (x.1,x.2.1,x.2.2.1)) fun y=>
 (if ((!y)=true) then
 false else
 (if (((x.2.2.2.2.length:Int) !=(x.2.2.2.1.length:Int))=true) then
 false else
 (ai (uz x.2.2.2.1) fun aO=>
 (if ((!aO)=true) then
 false else
 (ai (run (kJ x) 0) fun r=>
 (Sum.elim (fun a=>
 false) (fun b=>
 (ai (aal (x.1,x.2.1,x.2.2.2.2)) fun y_2=>
 y_2)) r)))))))
def jw (x:(Int×Int×Int×List (List Int×List I6×I2)×List (Int×I3))):Prop:=
 (aA (lH (x.1,x.2.1,x.2.2.1)) fun y=>
 (¬((!y)=true)->
 (¬(((x.2.2.2.2.length:Int) !=(x.2.2.2.1.length:Int))=true)->
 ((uA x.2.2.2.1)/\
 aA (uz x.2.2.2.1) fun aO=>
 (¬((!aO)=true)->
 (Term (kJ x) (tB x) 0/\
 aA (run (kJ x) 0) fun r=>
 (cS r (fun a=>
 True) (fun b=>
 (IA (x.1,x.2.1,x.2.2.2.2))))))))))
def agz (x:(Int×Int×Int×List (List Int×List I6×I2)×List (Int×I3))):Tr Bool true:=
 (.fn0 qc (x.1,x.2.1,x.2.2.1) trivial fun y=>
 (.iK (!y)
 (.ret false)
 (.iK ((nL x.2.2.2.2) !=(nL x.2.2.2.1))
 (.ret false)
 (.fn wJ x.2.2.2.1 fun aO=>
 (.iK (!aO)
 (.ret false)
 (aB.lp (YZ x) (OQ x) z0 fun r=>
 (.s01 r (fun a=>
 (.ret false)) (fun b=>
 (.fn NN (x.1,x.2.1,x.2.2.2.2) fun y_2=>
 (.ret y_2))))))))))
abbrev uY:cC:=⟨(.agg (Ty.prod yi (Ty.prod yi (Ty.prod yi (Ty.prod (Ty.sl (Ty.prod (Ty.sl yi) (Ty.prod (Ty.sl aV) aS))) (Ty.sl (Ty.prod yi cq))))))),(.one Ty.bool),jw,GY⟩
theorem aeg:ah Tryz.prog 18 (aj uY):=ah.tr uY agz (fn:=Tryz.f18) ay uD mixed (by kernel_rfl) (av.nil _ _) (fun x=>(au.tr ay (ae.bS uD (av.nil _ _)) mixed 0 (YZ x) (OQ x) au.nil (by kernel_rfl) fun g s Q=>(by kernel_rfl))) (fun x=>(by kernel_rfl)) fun x Q=>(by kernel_rfl)
def aau:List (Nat×Ev.Spec):=(18,aj uY)::LC
theorem Xp:ae Tryz.prog aau:=ae.add (fn:=Tryz.f18) (by kernel_rfl) aeg uD
end Go.Proofs.YtbjfokijjefoeaaGreat
namespace Go.Proofs.YtbjfokijjefoeaaGreat
open Go Go.Ev Go.Proofs
def aem (x:I2):I2:=
 ((IntKind.wrap IntKind.u32 (Int.fdiv (IntKind.wrap IntKind.u64 ((IntKind.wrap IntKind.u64 x.1)*(IntKind.wrap IntKind.u64 x.2))) 4294967296)),(IntKind.wrap IntKind.u32 (IntKind.wrap IntKind.u64 ((IntKind.wrap IntKind.u64 x.1)*(IntKind.wrap IntKind.u64 x.2)))))
def R1 (_:I2):Prop:=True
def Zj (x:I2):Tr I2 false:=
 (.ret ((IntKind.wrap IntKind.u32 (Int.fdiv (IntKind.wrap IntKind.u64 ((IntKind.wrap IntKind.u64 x.1)*(IntKind.wrap IntKind.u64 x.2))) 4294967296)),(IntKind.wrap IntKind.u32 (IntKind.wrap IntKind.u64 ((IntKind.wrap IntKind.u64 x.1)*(IntKind.wrap IntKind.u64 x.2))))))
abbrev Hi:cC:=⟨(.pair (.one (Ty.int IntKind.u32)) (.one (Ty.int IntKind.u32))),(.pair (.one (Ty.int IntKind.u32)) (.one (Ty.int IntKind.u32))),R1,aem⟩
theorem Wi:ah Tryz.prog 83 (aj Hi):=ah.tr Hi Zj (fn:=Tryz.f83) ay (ae.nil _) mixed (by kernel_rfl) (av.nil _ _) (fun x=>au.nil) (fun x=>(by kernel_rfl)) fun x Q=>(by kernel_rfl)
def LQ:List (Nat×Ev.Spec):=(83,aj Hi):: []
theorem B5:ae Tryz.prog LQ:=ae.add (fn:=Tryz.f83) (by kernel_rfl) Wi (ae.nil _)
def R2 (x:I2):I2:=
 ((IntKind.wrap IntKind.u64 ((IntKind.wrap IntKind.u64 ((IntKind.wrap IntKind.u64 ((Int.fdiv x.1 4294967296)*(Int.fdiv x.2 4294967296)))+(Int.fdiv (IntKind.wrap IntKind.u64 ((IntKind.wrap IntKind.u64 ((Int.fdiv x.1 4294967296)*(IntKind.wrap IntKind.u64 (((BitVec.toNat ((BitVec.ofInt 64 x.2)&&&(BitVec.ofInt 64 4294967295))):Nat):Int))))+(Int.fdiv (IntKind.wrap IntKind.u64 ((IntKind.wrap IntKind.u64 (((BitVec.toNat ((BitVec.ofInt 64 x.1)&&&(BitVec.ofInt 64 4294967295))):Nat):Int))*(IntKind.wrap IntKind.u64 (((BitVec.toNat ((BitVec.ofInt 64 x.2)&&&(BitVec.ofInt 64 4294967295))):Nat):Int)))) 4294967296))) 4294967296)))+(Int.fdiv (IntKind.wrap IntKind.u64 ((IntKind.wrap IntKind.u64 (((BitVec.toNat ((BitVec.ofInt 64 (IntKind.wrap IntKind.u64 ((IntKind.wrap IntKind.u64 ((Int.fdiv x.1 4294967296)*(IntKind.wrap IntKind.u64 (((BitVec.toNat ((BitVec.ofInt 64 x.2)&&&(BitVec.ofInt 64 4294967295))):Nat):Int))))+(Int.fdiv (IntKind.wrap IntKind.u64 ((IntKind.wrap IntKind.u64 (((BitVec.toNat ((BitVec.ofInt 64 x.1)&&&(BitVec.ofInt 64 4294967295))):Nat):Int))*(IntKind.wrap IntKind.u64 (((BitVec.toNat ((BitVec.ofInt 64 x.2)&&&(BitVec.ofInt 64 4294967295))):Nat):Int)))) 4294967296))))&&&(BitVec.ofInt 64 4294967295))):Nat):Int))+(IntKind.wrap IntKind.u64 ((IntKind.wrap IntKind.u64 (((BitVec.toNat ((BitVec.ofInt 64 x.1)&&&(BitVec.ofInt 64 4294967295))):Nat):Int))*(Int.fdiv x.2 4294967296))))) 4294967296))),(IntKind.wrap IntKind.u64 (x.1*x.2)))
def R3 (_:I2):Prop:=True
def Zk (x:I2):Tr I2 false:=
 (.ret ((IntKind.wrap IntKind.u64 ((IntKind.wrap IntKind.u64 ((IntKind.wrap IntKind.u64 ((Int.fdiv x.1 4294967296)*(Int.fdiv x.2 4294967296)))+(Int.fdiv (IntKind.wrap IntKind.u64 ((IntKind.wrap IntKind.u64 ((Int.fdiv x.1 4294967296)*(IntKind.wrap IntKind.u64 (((BitVec.toNat ((BitVec.ofInt 64 x.2)&&&(BitVec.ofInt 64 4294967295))):Nat):Int))))+(Int.fdiv (IntKind.wrap IntKind.u64 ((IntKind.wrap IntKind.u64 (((BitVec.toNat ((BitVec.ofInt 64 x.1)&&&(BitVec.ofInt 64 4294967295))):Nat):Int))*(IntKind.wrap IntKind.u64 (((BitVec.toNat ((BitVec.ofInt 64 x.2)&&&(BitVec.ofInt 64 4294967295))):Nat):Int)))) 4294967296))) 4294967296)))+(Int.fdiv (IntKind.wrap IntKind.u64 ((IntKind.wrap IntKind.u64 (((BitVec.toNat ((BitVec.ofInt 64 (IntKind.wrap IntKind.u64 ((IntKind.wrap IntKind.u64 ((Int.fdiv x.1 4294967296)*(IntKind.wrap IntKind.u64 (((BitVec.toNat ((BitVec.ofInt 64 x.2)&&&(BitVec.ofInt 64 4294967295))):Nat):Int))))+(Int.fdiv (IntKind.wrap IntKind.u64 ((IntKind.wrap IntKind.u64 (((BitVec.toNat ((BitVec.ofInt 64 x.1)&&&(BitVec.ofInt 64 4294967295))):Nat):Int))*(IntKind.wrap IntKind.u64 (((BitVec.toNat ((BitVec.ofInt 64 x.2)&&&(BitVec.ofInt 64 4294967295))):Nat):Int)))) 4294967296))))&&&(BitVec.ofInt 64 4294967295))):Nat):Int))+(IntKind.wrap IntKind.u64 ((IntKind.wrap IntKind.u64 (((BitVec.toNat ((BitVec.ofInt 64 x.1)&&&(BitVec.ofInt 64 4294967295))):Nat):Int))*(Int.fdiv x.2 4294967296))))) 4294967296))),(IntKind.wrap IntKind.u64 (x.1*x.2))))
abbrev A3:cC:=⟨(.pair (.one (Ty.int IntKind.u64)) (.one (Ty.int IntKind.u64))),(.pair (.one (Ty.int IntKind.u64)) (.one (Ty.int IntKind.u64))),R3,R2⟩
theorem Wj:ah Tryz.prog 84 (aj A3):=ah.tr A3 Zk (fn:=Tryz.f84) ay B5 mixed (by kernel_rfl) (av.nil _ _) (fun x=>au.nil) (fun x=>(by kernel_rfl)) fun x Q=>(by kernel_rfl)
def LR:List (Nat×Ev.Spec):=(84,aj A3)::LQ
theorem B6:ae Tryz.prog LR:=ae.add (fn:=Tryz.f84) (by kernel_rfl) Wj B5
def N8 (x:I2):I2:=
 (ai (R2 x) fun y=>
 y)
def Vg (_:I2):Prop:=True
def aa5 (x:I2):Tr I2 false:=
 (.fn0 A3 x trivial fun y=>
 (.ret y))
abbrev Fm:cC:=⟨(.pair (.one (Ty.int IntKind.u64)) (.one (Ty.int IntKind.u64))),(.pair (.one (Ty.int IntKind.u64)) (.one (Ty.int IntKind.u64))),Vg,N8⟩
theorem XT:ah Tryz.prog 59 (aj Fm):=ah.tr Fm aa5 (fn:=Tryz.f59) ay B6 mixed (by kernel_rfl) (av.nil _ _) (fun x=>au.nil) (fun x=>(by kernel_rfl)) fun x Q=>(by kernel_rfl)
def Qf:List (Nat×Ev.Spec):=(59,aj Fm)::LR
theorem wL:ae Tryz.prog Qf:=ae.add (fn:=Tryz.f59) (by kernel_rfl) XT B6
def Io (x:(List Int×Int)):aB:=⟨[],⟨bB 48 0 [(7,.v (.one (.full 0))),(8,.v (.one (.i .i64)))],[.row yi 2],0,none,[],[],[1,0],[(.l yi),.i],[]⟩,[⟨(.exit 0),.normal,⟨bB 48 0 [(7,.v (.one (.full 0)))],[.row yi 2],0,none,[],[],[0],[(.l yi)],[]⟩⟩]⟩
def iu (x:(List Int×Int)) (s:(List Int×Int)):(List Int×Int)⊕(List Int):=
 (if (s.2<(s.1.length:Int)) then
 (ai (jE s.1 (s.2.toNat+0) (s.1.length- s.2.toNat) (List.take s.2.toNat s.1)) fun y=>
 (Sum.inl (y,(az (s.2+(((qF (s.1.length- s.2.toNat) (List.length (List.take s.2.toNat s.1))):Nat):Int)))))) else
 (Sum.inr (s.1)))
def l7 (x:(List Int×Int)) (s:(List Int×Int)):Prop:=
 ((s.2<(s.1.length:Int))->
 (((0<=s.2)/\ (s.2<=(s.1.length:Int)))/\
 ((0<=s.2)/\ (s.2<=(s.1.length:Int)))))
def BG (x:(List Int×Int)) (s:(List Int×Int)):Tr ((List Int×Int)⊕(List Int)) true:=
 (.i10 (s.2<(nL s.1))
 (.og ((decide (z0<=s.2))&&(decide (s.2<=(nL s.1)))) ((z0<=s.2)/\ (s.2<=(nL s.1))) (fun h=>(cX (decide_eq_true h.1) (decide_eq_true h.2)))
 (.og ((decide (z0<=s.2))&&(decide (s.2<=(nL s.1)))) ((z0<=s.2)/\ (s.2<=(nL s.1))) (fun h=>(cX (decide_eq_true h.1) (decide_eq_true h.2)))
 (.lt (jE s.1 ((tN s.2)+0) (s.1.length- (tN s.2)) (List.take (tN s.2) s.1)) fun y=>
 (.ret (.inl (y,(az (s.2+(((qF (s.1.length- (tN s.2)) (List.length (List.take (tN s.2) s.1))):Nat):Int)))))))))
 (.ret (.inr (s.1))))
def repeatM (x:(List Int×Int)):(List Int):=
 (if (x.2<0) then
 default else
 (ai (N8 ((IntKind.wrap IntKind.u64 (x.1.length:Int)),(IntKind.wrap IntKind.u64 x.2))) fun y=>
 (if (y.1>0) then
 default else
 (if (y.2>9223372036854775807) then
 default else
 (ai (jE (List.replicate (Int.toNat (az y.2)) (0:Int)) 0 (List.length (List.replicate (Int.toNat (az y.2)) (0:Int))) x.1) fun aO=>
 (ai (run (iu x) (aO,(((qF (List.length (List.replicate (Int.toNat (az y.2)) (0:Int))) x.1.length):Nat):Int))) fun r=>
 r))))))
def qY (x:(List Int×Int)):Prop:=
 (((x.2<0)->
 False)/\
 (¬(x.2<0)->
 (aA (N8 ((IntKind.wrap IntKind.u64 (x.1.length:Int)),(IntKind.wrap IntKind.u64 x.2))) fun y=>
 (((y.1>0)->
 False)/\
 (¬(y.1>0)->
 (((y.2>9223372036854775807)->
 False)/\
 (¬(y.2>9223372036854775807)->
 ((((0<=(az y.2))/\ ((az y.2)<=(az y.2)))/\ ((Int.toNat (az y.2))<1099511627776))/\
 (aA (jE (List.replicate (Int.toNat (az y.2)) (0:Int)) 0 (List.length (List.replicate (Int.toNat (az y.2)) (0:Int))) x.1) fun aO=>
 (Term (iu x) (l7 x) (aO,(((qF (List.length (List.replicate (Int.toNat (az y.2)) (0:Int))) x.1.length):Nat):Int))))))))))))
def Xd (x:(List Int×Int)):Tr (List Int) true:=
 (.i11 (x.2<z0)
 (.og false False False.elim (.ret default))
 (.fn0 Fm ((IntKind.wrap IntKind.u64 (nL x.1)),(IntKind.wrap IntKind.u64 x.2)) trivial fun y=>
 (.i11 (y.1>z0)
 (.og false False False.elim (.ret default))
 (.i11 (y.2>9223372036854775807)
 (.og false False False.elim (.ret default))
 (.og (((decide (z0<=(az y.2)))&&(decide ((az y.2)<=(az y.2))))&&(decide ((tN (az y.2))<1099511627776))) (((z0<=(az y.2))/\ ((az y.2)<=(az y.2)))/\ ((tN (az y.2))<1099511627776)) (fun h=>(cX (cX (decide_eq_true h.1.1) (decide_eq_true h.1.2)) (decide_eq_true h.2)))
 (.lt (jE (List.replicate (tN (az y.2)) z0) 0 (List.length (List.replicate (tN (az y.2)) z0)) x.1) fun aO=>
 (aB.lp (Io x) (BG x) (aO,(((qF (List.length (List.replicate (tN (az y.2)) z0)) x.1.length):Nat):Int)) fun r=>
 (.ret r))))))))
abbrev sQ:cC:=⟨(.pair (.one (Ty.sl yi)) (.one yi)),(.one (Ty.sl yi)),qY,repeatM⟩
theorem Ip:ah Tryz.prog 32 (aj sQ):=ah.tr sQ Xd (fn:=Tryz.f32) ay wL mixed (by kernel_rfl) (av.nil _ _) (fun x=>(au.tr ay (ae.bS wL (av.nil _ _)) mixed 0 (Io x) (BG x) au.nil (by kernel_rfl) fun g s Q=>(by kernel_rfl))) (fun x=>(by kernel_rfl)) fun x Q=>(by kernel_rfl)
def Tk:List (Nat×Ev.Spec):=(32,aj sQ)::Qf
theorem yY:ae Tryz.prog Tk:=ae.add (fn:=Tryz.f32) (by kernel_rfl) Ip wL
def Ks (x:(List Int×Int)):aB:=⟨[],⟨bB 19 0 [(0,.v (.one (.full 0))),(1,.v (.one (.i .i64))),(7,.v (.one (.i .i64))),(8,.v (.one (.i .i64)))],[.row yi 0],0,none,[],[0,1,3],[2],[.i],[.i x.2,.i (x.1.length:Int),.l yi x.1]⟩,[⟨.ret,.ret,⟨bB 19 0 [(4,.v (.one (.i .i64)))],[],0,none,[],[],[0],[.i],[]⟩⟩,⟨(.exit 0),.normal,⟨bB 19 0 [],[],0,none,[],[],[],[],[]⟩⟩]⟩
def iW (x:(List Int×Int)) (s:Int):Int⊕(Int⊕Unit):=
 (if (s<(x.1.length:Int)) then
 (if ((x.2==(x.1.getD s.toNat 0))=true) then
 (Sum.inr (Sum.inl s)) else
 (Sum.inl (az (s+1)))) else
 (Sum.inr (Sum.inr (()))))
def rG (x:(List Int×Int)) (s:Int):Prop:=
 ((s<(x.1.length:Int))->
 (((0<=s)/\ (s<(x.1.length:Int)))/\
 ((s.toNat<x.1.length)/\
 (s.toNat<x.1.length))))
def DP (x:(List Int×Int)) (s:Int):Tr (Int⊕(Int⊕Unit)) true:=
 (.i10 (s<(nL x.1))
 (.gK s x.1
 (.nT (x.2==(gI x.1 s))
 (.ret (.inr (Sum.inl s)))
 (.ret (.inl (w1 s)))))
 (.ret (.inr (Sum.inr (())))))
def rF (x:(List Int×Int)):Int:=
 (ai (run (iW x) 0) fun r=>
 (Sum.elim (fun a=>
 a) (fun b=>
 (-1)) r))
def zw (x:(List Int×Int)):Prop:=
 (Term (iW x) (rG x) 0)
def YQ (x:(List Int×Int)):Tr Int true:=
 (aB.lp (Ks x) (DP x) z0 fun r=>
 (.xW r (fun a=>
 (.ret a)) (fun b=>
 (.ret (-1)))))
abbrev AK:cC:=⟨(.pair (.one (Ty.sl yi)) (.one yi)),(.one yi),zw,rF⟩
theorem VT:ah Tryz.prog 34 (aj AK):=ah.tr AK YQ (fn:=Tryz.f34) ay yY mixed (by kernel_rfl) (av.nil _ _) (fun x=>(au.tr ay (ae.bS yY (av.nil _ _)) mixed 0 (Ks x) (DP x) au.nil (by kernel_rfl) fun g s Q=>(by kernel_rfl))) (fun x=>(by kernel_rfl)) fun x Q=>(by kernel_rfl)
end Go.Proofs.YtbjfokijjefoeaaGreat
