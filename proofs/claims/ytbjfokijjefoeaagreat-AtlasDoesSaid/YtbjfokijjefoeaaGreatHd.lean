/- Model of AtlasDoes. -/
import Derived.Test.YtbjfokijjefoeaaGreatHc
noncomputable section
set_option linter.unusedSectionVars false
set_option linter.unusedVariables false
set_option linter.unusedSimpArgs false
namespace Go.Proofs.YtbjfokijjefoeaaGreat
open Go Go.Ev Go.Proofs
theorem Vr:ah Tryz.prog 6 (Am k8 0 false):=Oj J5 rfl fun x=>⟨_,rfl⟩
def Xo:List (Nat×Ev.Spec):=(6,(Am k8 0 false))::IV
theorem uE:ae Tryz.prog Xo:=ae.add (fn:=Tryz.f6) (by kernel_rfl) Vr JS
def G4 (x:(Int×Int×Int×List (List Int×List I6×I2)×(Int×Int×Int×List (List Int×List I6×I2)×List (Int×I3))×Int)):aB:=⟨[],⟨bB 188 0 [(0,.v (.one (.i .i64))),(1,.v (.one (.i .i64))),(2,.v (.one (.i .i64))),(3,.v (.one (.full 0))),(10,.v (.one (.ptr 1 0))),(13,.v (.one (.ptr 4 0))),(14,.v (.one (.ptr 7 0))),(16,.v (.one (.ptr 11 0))),(17,.v (.one (.i .i64))),(28,.v (.one (.b))),(29,.v (.one (.i .i64))),(30,.v (.one (.i .i64)))],[.row (Ty.prod (Ty.sl yi) (Ty.prod (Ty.sl aV) aS)) 0,.cells [.i .i64,.i .i64,.i .i64,.full 2,.full 3] 25,.row (Ty.prod (Ty.sl yi) (Ty.prod (Ty.sl aV) aS)) 0,.row (Ty.prod yi cq) 0,.cells [.i .i64,.i .i64,.i .i64,.full 5,.full 6] 25,.row (Ty.prod (Ty.sl yi) (Ty.prod (Ty.sl aV) aS)) 2,.row (Ty.prod yi cq) 2,.cells [.i .i64,.i .i64,.i .i64,.full 8,.full 10] 25,.dp (Ty.prod (Ty.sl yi) (Ty.prod (Ty.sl aV) aS)) 9 Bool.false,.set 8,.row (Ty.prod yi cq) 2,.cells [.i .i64,.i .i64,.i .i64,.full 12,.full 13] 25,.row (Ty.prod (Ty.sl yi) (Ty.prod (Ty.sl aV) aS)) 2,.row (Ty.prod yi cq) 2],0,none,[],[0,1,2,7,8,9,10,11,12],[13,14,15,16,17,18,19,20,21,22,23,24,25,26,27,28,3,4,5,6],[.i,.i,.i,(.l (Ty.prod (Ty.sl yi) (Ty.prod (Ty.sl aV) aS))),(.l (Ty.prod yi cq)),.i,.i,.i,(.l (Ty.prod (Ty.sl yi) (Ty.prod (Ty.sl aV) aS))),.b,(.l (Ty.prod yi cq)),.i,.i,.i,(.l (Ty.prod (Ty.sl yi) (Ty.prod (Ty.sl aV) aS))),(.l (Ty.prod yi cq)),.i,.b,.i,.i],[.i x.1,.i x.2.1,.i x.2.2.1,.l (Ty.prod (Ty.sl yi) (Ty.prod (Ty.sl aV) aS)) x.2.2.2.1,.i x.2.2.2.2.1.1,.i x.2.2.2.2.1.2.1,.i x.2.2.2.2.1.2.2.1,.l (Ty.prod (Ty.sl yi) (Ty.prod (Ty.sl aV) aS)) x.2.2.2.2.1.2.2.2.1,.l (Ty.prod yi cq) x.2.2.2.2.1.2.2.2.2]⟩,[⟨(.exit 2),.normal,⟨bB 188 0 [(0,.v (.one (.i .i64))),(1,.v (.one (.i .i64))),(2,.v (.one (.i .i64))),(3,.v (.one (.full 0))),(10,.v (.one (.ptr 1 0))),(13,.v (.one (.ptr 4 0))),(14,.v (.one (.ptr 7 0))),(16,.v (.one (.ptr 11 0))),(17,.v (.one (.i .i64))),(28,.v (.one (.b))),(29,.v (.one (.i .i64)))],[.row (Ty.prod (Ty.sl yi) (Ty.prod (Ty.sl aV) aS)) 0,.cells [.i .i64,.i .i64,.i .i64,.full 2,.full 3] 25,.row (Ty.prod (Ty.sl yi) (Ty.prod (Ty.sl aV) aS)) 0,.row (Ty.prod yi cq) 0,.cells [.i .i64,.i .i64,.i .i64,.full 5,.full 6] 25,.row (Ty.prod (Ty.sl yi) (Ty.prod (Ty.sl aV) aS)) 2,.row (Ty.prod yi cq) 2,.cells [.i .i64,.i .i64,.i .i64,.full 8,.full 10] 25,.dp (Ty.prod (Ty.sl yi) (Ty.prod (Ty.sl aV) aS)) 9 Bool.false,.set 8,.row (Ty.prod yi cq) 2,.cells [.i .i64,.i .i64,.i .i64,.full 12,.full 13] 25,.row (Ty.prod (Ty.sl yi) (Ty.prod (Ty.sl aV) aS)) 2,.row (Ty.prod yi cq) 2],0,none,[],[0,1,2,6,7,8,9,10,11],[12,13,14,15,16,17,18,19,20,21,22,23,24,25,26,27,3,4,5],[.i,.i,.i,(.l (Ty.prod (Ty.sl yi) (Ty.prod (Ty.sl aV) aS))),(.l (Ty.prod yi cq)),.i,.i,.i,(.l (Ty.prod (Ty.sl yi) (Ty.prod (Ty.sl aV) aS))),.b,(.l (Ty.prod yi cq)),.i,.i,.i,(.l (Ty.prod (Ty.sl yi) (Ty.prod (Ty.sl aV) aS))),(.l (Ty.prod yi cq)),.i,.b,.i],[.i x.1,.i x.2.1,.i x.2.2.1,.l (Ty.prod (Ty.sl yi) (Ty.prod (Ty.sl aV) aS)) x.2.2.2.1,.i x.2.2.2.2.1.1,.i x.2.2.2.2.1.2.1,.i x.2.2.2.2.1.2.2.1,.l (Ty.prod (Ty.sl yi) (Ty.prod (Ty.sl aV) aS)) x.2.2.2.2.1.2.2.2.1,.l (Ty.prod yi cq) x.2.2.2.2.1.2.2.2.2]⟩⟩]⟩
def gY (x:(Int×Int×Int×List (List Int×List I6×I2)×(Int×Int×Int×List (List Int×List I6×I2)×List (Int×I3))×Int)) (s:(Int×Int×Int×List (List Int×List I6×I2)×List (Int×I3)×Int×Int×Int×List (List Int×List I6×I2)×Bool×List (Int×I3)×Int×Int×Int×List (List Int×List I6×I2)×List (Int×I3)×Int×Bool×I2)):(Int×Int×Int×List (List Int×List I6×I2)×List (Int×I3)×Int×Int×Int×List (List Int×List I6×I2)×Bool×List (Int×I3)×Int×Int×Int×List (List Int×List I6×I2)×List (Int×I3)×Int×Bool×I2)⊕(Int×Int×Int×List (List Int×List I6×I2)×List (Int×I3)×Int×Int×Int×List (List Int×List I6×I2)×Bool×List (Int×I3)×Int×Int×Int×List (List Int×List I6×I2)×List (Int×I3)×Int×Bool×Int):=
 (if (s.2.2.2.2.2.2.2.2.2.2.2.2.2.2.2.2.2.2.2<((s.2.2.2.2.2.2.2.2.1.getD s.2.2.2.2.2.2.2.2.2.2.2.2.2.2.2.2.2.2.1.toNat ([],[],0,0)).1.length:Int)) then
 (Sum.inl (s.1,s.2.1,s.2.2.1,s.2.2.2.1,s.2.2.2.2.1,s.2.2.2.2.2.1,s.2.2.2.2.2.2.1,s.2.2.2.2.2.2.2.1,s.2.2.2.2.2.2.2.2.1,false,s.2.2.2.2.2.2.2.2.2.2.1,s.2.2.2.2.2.2.2.2.2.2.2.1,s.2.2.2.2.2.2.2.2.2.2.2.2.1,s.2.2.2.2.2.2.2.2.2.2.2.2.2.1,s.2.2.2.2.2.2.2.2.2.2.2.2.2.2.1,s.2.2.2.2.2.2.2.2.2.2.2.2.2.2.2.1,s.2.2.2.2.2.2.2.2.2.2.2.2.2.2.2.2.1,s.2.2.2.2.2.2.2.2.2.2.2.2.2.2.2.2.2.1,s.2.2.2.2.2.2.2.2.2.2.2.2.2.2.2.2.2.2.1,(az (s.2.2.2.2.2.2.2.2.2.2.2.2.2.2.2.2.2.2.2+1)))) else
 (Sum.inr ((s.1,s.2.1,s.2.2.1,s.2.2.2.1,s.2.2.2.2.1,s.2.2.2.2.2.1,s.2.2.2.2.2.2.1,s.2.2.2.2.2.2.2.1,s.2.2.2.2.2.2.2.2.1,s.2.2.2.2.2.2.2.2.2.1,s.2.2.2.2.2.2.2.2.2.2.1,s.2.2.2.2.2.2.2.2.2.2.2.1,s.2.2.2.2.2.2.2.2.2.2.2.2.1,s.2.2.2.2.2.2.2.2.2.2.2.2.2.1,s.2.2.2.2.2.2.2.2.2.2.2.2.2.2.1,s.2.2.2.2.2.2.2.2.2.2.2.2.2.2.2.1,s.2.2.2.2.2.2.2.2.2.2.2.2.2.2.2.2.1,s.2.2.2.2.2.2.2.2.2.2.2.2.2.2.2.2.2.1,s.2.2.2.2.2.2.2.2.2.2.2.2.2.2.2.2.2.2.1))))
def lC (x:(Int×Int×Int×List (List Int×List I6×I2)×(Int×Int×Int×List (List Int×List I6×I2)×List (Int×I3))×Int)) (s:(Int×Int×Int×List (List Int×List I6×I2)×List (Int×I3)×Int×Int×Int×List (List Int×List I6×I2)×Bool×List (Int×I3)×Int×Int×Int×List (List Int×List I6×I2)×List (Int×I3)×Int×Bool×I2)):Prop:=
 (((0<=s.2.2.2.2.2.2.2.2.2.2.2.2.2.2.2.2.2.2.1)/\ (s.2.2.2.2.2.2.2.2.2.2.2.2.2.2.2.2.2.2.1<(s.2.2.2.2.2.2.2.2.1.length:Int)))/\
 ((s.2.2.2.2.2.2.2.2.2.2.2.2.2.2.2.2.2.2.1.toNat<s.2.2.2.2.2.2.2.2.1.length)/\
 ((s.2.2.2.2.2.2.2.2.2.2.2.2.2.2.2.2.2.2.1.toNat<s.2.2.2.2.2.2.2.2.1.length)/\
 ((s.2.2.2.2.2.2.2.2.2.2.2.2.2.2.2.2.2.2.1.toNat<s.2.2.2.2.2.2.2.2.1.length)/\
 ((s.2.2.2.2.2.2.2.2.2.2.2.2.2.2.2.2.2.2.1.toNat<s.2.2.2.2.2.2.2.2.1.length)/\
 ((s.2.2.2.2.2.2.2.2.2.2.2.2.2.2.2.2.2.2.2<((s.2.2.2.2.2.2.2.2.1.getD s.2.2.2.2.2.2.2.2.2.2.2.2.2.2.2.2.2.2.1.toNat ([],[],0,0)).1.length:Int))->
 (((0<=s.2.2.2.2.2.2.2.2.2.2.2.2.2.2.2.2.2.2.1)/\ (s.2.2.2.2.2.2.2.2.2.2.2.2.2.2.2.2.2.2.1<(s.2.2.2.2.2.2.2.2.1.length:Int)))/\
 ((s.2.2.2.2.2.2.2.2.2.2.2.2.2.2.2.2.2.2.1.toNat<s.2.2.2.2.2.2.2.2.1.length)/\
 ((s.2.2.2.2.2.2.2.2.2.2.2.2.2.2.2.2.2.2.1.toNat<s.2.2.2.2.2.2.2.2.1.length)/\
 ((s.2.2.2.2.2.2.2.2.2.2.2.2.2.2.2.2.2.2.1.toNat<s.2.2.2.2.2.2.2.2.1.length)/\
 ((s.2.2.2.2.2.2.2.2.2.2.2.2.2.2.2.2.2.2.1.toNat<s.2.2.2.2.2.2.2.2.1.length)/\
 (((0<=s.2.2.2.2.2.2.2.2.2.2.2.2.2.2.2.2.2.2.2)/\ (s.2.2.2.2.2.2.2.2.2.2.2.2.2.2.2.2.2.2.2<((s.2.2.2.2.2.2.2.2.1.getD s.2.2.2.2.2.2.2.2.2.2.2.2.2.2.2.2.2.2.1.toNat ([],[],0,0)).1.length:Int)))/\
 ((s.2.2.2.2.2.2.2.2.2.2.2.2.2.2.2.2.2.2.1.toNat<s.2.2.2.2.2.2.2.2.1.length)/\
 (s.2.2.2.2.2.2.2.2.2.2.2.2.2.2.2.2.2.2.2.toNat<(List.length (s.2.2.2.2.2.2.2.2.1.getD s.2.2.2.2.2.2.2.2.2.2.2.2.2.2.2.2.2.2.1.toNat ([],[],0,0)).1)))))))))))))))
def AT (x:(Int×Int×Int×List (List Int×List I6×I2)×(Int×Int×Int×List (List Int×List I6×I2)×List (Int×I3))×Int)) (s:(Int×Int×Int×List (List Int×List I6×I2)×List (Int×I3)×Int×Int×Int×List (List Int×List I6×I2)×Bool×List (Int×I3)×Int×Int×Int×List (List Int×List I6×I2)×List (Int×I3)×Int×Bool×I2)):Tr ((Int×Int×Int×List (List Int×List I6×I2)×List (Int×I3)×Int×Int×Int×List (List Int×List I6×I2)×Bool×List (Int×I3)×Int×Int×Int×List (List Int×List I6×I2)×List (Int×I3)×Int×Bool×I2)⊕(Int×Int×Int×List (List Int×List I6×I2)×List (Int×I3)×Int×Int×Int×List (List Int×List I6×I2)×Bool×List (Int×I3)×Int×Int×Int×List (List Int×List I6×I2)×List (Int×I3)×Int×Bool×Int)) true:=
 (.zF s.2.2.2.2.2.2.2.2.2.2.2.2.2.2.2.2.2.2.1 s.2.2.2.2.2.2.2.2.1
 (.od ((tN s.2.2.2.2.2.2.2.2.2.2.2.2.2.2.2.2.2.2.1)<s.2.2.2.2.2.2.2.2.1.length)
 (.i10 (s.2.2.2.2.2.2.2.2.2.2.2.2.2.2.2.2.2.2.2<(nL (gT s.2.2.2.2.2.2.2.2.1 s.2.2.2.2.2.2.2.2.2.2.2.2.2.2.2.2.2.2.1 ([],[],iR)).1))
 (.zF s.2.2.2.2.2.2.2.2.2.2.2.2.2.2.2.2.2.2.1 s.2.2.2.2.2.2.2.2.1
 (.od ((tN s.2.2.2.2.2.2.2.2.2.2.2.2.2.2.2.2.2.2.1)<s.2.2.2.2.2.2.2.2.1.length)
 (.oR s.2.2.2.2.2.2.2.2.2.2.2.2.2.2.2.2.2.2.2 (nL (gT s.2.2.2.2.2.2.2.2.1 s.2.2.2.2.2.2.2.2.2.2.2.2.2.2.2.2.2.2.1 ([],[],iR)).1)
 (.od ((tN s.2.2.2.2.2.2.2.2.2.2.2.2.2.2.2.2.2.2.1)<s.2.2.2.2.2.2.2.2.1.length)
 (.od ((tN s.2.2.2.2.2.2.2.2.2.2.2.2.2.2.2.2.2.2.2)<(List.length (gT s.2.2.2.2.2.2.2.2.1 s.2.2.2.2.2.2.2.2.2.2.2.2.2.2.2.2.2.2.1 ([],[],iR)).1))
 (.ret (.inl (s.1,s.2.1,s.2.2.1,s.2.2.2.1,s.2.2.2.2.1,s.2.2.2.2.2.1,s.2.2.2.2.2.2.1,s.2.2.2.2.2.2.2.1,s.2.2.2.2.2.2.2.2.1,false,s.2.2.2.2.2.2.2.2.2.2.1,s.2.2.2.2.2.2.2.2.2.2.2.1,s.2.2.2.2.2.2.2.2.2.2.2.2.1,s.2.2.2.2.2.2.2.2.2.2.2.2.2.1,s.2.2.2.2.2.2.2.2.2.2.2.2.2.2.1,s.2.2.2.2.2.2.2.2.2.2.2.2.2.2.2.1,s.2.2.2.2.2.2.2.2.2.2.2.2.2.2.2.2.1,s.2.2.2.2.2.2.2.2.2.2.2.2.2.2.2.2.2.1,s.2.2.2.2.2.2.2.2.2.2.2.2.2.2.2.2.2.2.1,(w1 s.2.2.2.2.2.2.2.2.2.2.2.2.2.2.2.2.2.2.2)))))))))
 (.ret (.inr ((s.1,s.2.1,s.2.2.1,s.2.2.2.1,s.2.2.2.2.1,s.2.2.2.2.2.1,s.2.2.2.2.2.2.1,s.2.2.2.2.2.2.2.1,s.2.2.2.2.2.2.2.2.1,s.2.2.2.2.2.2.2.2.2.1,s.2.2.2.2.2.2.2.2.2.2.1,s.2.2.2.2.2.2.2.2.2.2.2.1,s.2.2.2.2.2.2.2.2.2.2.2.2.1,s.2.2.2.2.2.2.2.2.2.2.2.2.2.1,s.2.2.2.2.2.2.2.2.2.2.2.2.2.2.1,s.2.2.2.2.2.2.2.2.2.2.2.2.2.2.2.1,s.2.2.2.2.2.2.2.2.2.2.2.2.2.2.2.2.1,s.2.2.2.2.2.2.2.2.2.2.2.2.2.2.2.2.2.1,s.2.2.2.2.2.2.2.2.2.2.2.2.2.2.2.2.2.2.1)))))))
def jc (x:(Int×Int×Int×List (List Int×List I6×I2)×(Int×Int×Int×List (List Int×List I6×I2)×List (Int×I3))×Int)):aB:=⟨[],⟨bB 188 0 [(0,.v (.one (.i .i64))),(1,.v (.one (.i .i64))),(2,.v (.one (.i .i64))),(3,.v (.one (.full 0))),(10,.v (.one (.ptr 1 0))),(13,.v (.one (.ptr 4 0))),(14,.v (.one (.ptr 7 0))),(16,.v (.one (.ptr 11 0))),(17,.v (.one (.i .i64))),(28,.v (.one (.b))),(29,.v (.one (.i .i64)))],[.row (Ty.prod (Ty.sl yi) (Ty.prod (Ty.sl aV) aS)) 0,.cells [.i .i64,.i .i64,.i .i64,.full 2,.full 3] 25,.row (Ty.prod (Ty.sl yi) (Ty.prod (Ty.sl aV) aS)) 0,.row (Ty.prod yi cq) 0,.cells [.i .i64,.i .i64,.i .i64,.full 5,.full 6] 25,.row (Ty.prod (Ty.sl yi) (Ty.prod (Ty.sl aV) aS)) 2,.row (Ty.prod yi cq) 2,.cells [.i .i64,.i .i64,.i .i64,.full 8,.full 10] 25,.dp (Ty.prod (Ty.sl yi) (Ty.prod (Ty.sl aV) aS)) 9 Bool.false,.set 8,.row (Ty.prod yi cq) 2,.cells [.i .i64,.i .i64,.i .i64,.full 12,.full 13] 25,.row (Ty.prod (Ty.sl yi) (Ty.prod (Ty.sl aV) aS)) 2,.row (Ty.prod yi cq) 2],0,none,[],[0,1,2,6,7,8,9,10,11],[12,13,14,15,16,17,18,19,20,21,22,23,24,25,26,27,3,4,5],[.i,.i,.i,(.l (Ty.prod (Ty.sl yi) (Ty.prod (Ty.sl aV) aS))),(.l (Ty.prod yi cq)),.i,.i,.i,(.l (Ty.prod (Ty.sl yi) (Ty.prod (Ty.sl aV) aS))),.b,(.l (Ty.prod yi cq)),.i,.i,.i,(.l (Ty.prod (Ty.sl yi) (Ty.prod (Ty.sl aV) aS))),(.l (Ty.prod yi cq)),.i,.b,.i],[.i x.1,.i x.2.1,.i x.2.2.1,.l (Ty.prod (Ty.sl yi) (Ty.prod (Ty.sl aV) aS)) x.2.2.2.1,.i x.2.2.2.2.1.1,.i x.2.2.2.2.1.2.1,.i x.2.2.2.2.1.2.2.1,.l (Ty.prod (Ty.sl yi) (Ty.prod (Ty.sl aV) aS)) x.2.2.2.2.1.2.2.2.1,.l (Ty.prod yi cq) x.2.2.2.2.1.2.2.2.2]⟩,[⟨(.exit 0),.normal,⟨bB 188 0 [(0,.v (.one (.i .i64))),(1,.v (.one (.i .i64))),(2,.v (.one (.i .i64))),(3,.v (.one (.full 0))),(10,.v (.one (.ptr 1 0))),(13,.v (.one (.ptr 4 0))),(16,.v (.one (.ptr 7 0))),(17,.v (.one (.i .i64))),(28,.v (.one (.b)))],[.row (Ty.prod (Ty.sl yi) (Ty.prod (Ty.sl aV) aS)) 0,.cells [.i .i64,.i .i64,.i .i64,.full 2,.full 3] 25,.row (Ty.prod (Ty.sl yi) (Ty.prod (Ty.sl aV) aS)) 0,.row (Ty.prod yi cq) 0,.cells [.i .i64,.i .i64,.i .i64,.full 5,.full 6] 25,.row (Ty.prod (Ty.sl yi) (Ty.prod (Ty.sl aV) aS)) 2,.row (Ty.prod yi cq) 2,.cells [.i .i64,.i .i64,.i .i64,.full 8,.full 9] 25,.row (Ty.prod (Ty.sl yi) (Ty.prod (Ty.sl aV) aS)) 2,.row (Ty.prod yi cq) 2],0,none,[],[0,1,2,5,6,7,8,9,10],[11,12,13,14,15,16,17,18,19,20,3,4],[.i,.i,.i,(.l (Ty.prod (Ty.sl yi) (Ty.prod (Ty.sl aV) aS))),(.l (Ty.prod yi cq)),.i,.i,.i,(.l (Ty.prod (Ty.sl yi) (Ty.prod (Ty.sl aV) aS))),(.l (Ty.prod yi cq)),.i,.b],[.i x.1,.i x.2.1,.i x.2.2.1,.l (Ty.prod (Ty.sl yi) (Ty.prod (Ty.sl aV) aS)) x.2.2.2.1,.i x.2.2.2.2.1.1,.i x.2.2.2.2.1.2.1,.i x.2.2.2.2.1.2.2.1,.l (Ty.prod (Ty.sl yi) (Ty.prod (Ty.sl aV) aS)) x.2.2.2.2.1.2.2.2.1,.l (Ty.prod yi cq) x.2.2.2.2.1.2.2.2.2]⟩⟩]⟩
def aQ (x:(Int×Int×Int×List (List Int×List I6×I2)×(Int×Int×Int×List (List Int×List I6×I2)×List (Int×I3))×Int)) (s:(Int×Int×Int×List (List Int×List I6×I2)×List (Int×I3)×Int×Int×Int×List (List Int×List I6×I2)×Bool×List (Int×I3)×Int×Int×Int×List (List Int×List I6×I2)×List (Int×I3)×Int×Bool×Int)):(Int×Int×Int×List (List Int×List I6×I2)×List (Int×I3)×Int×Int×Int×List (List Int×List I6×I2)×Bool×List (Int×I3)×Int×Int×Int×List (List Int×List I6×I2)×List (Int×I3)×Int×Bool×Int)⊕(Int×Int×Int×List (List Int×List I6×I2)×List (Int×I3)×Int×Int×Int×List (List Int×List I6×I2)×List (Int×I3)×Int×Bool):=
 (if (s.2.2.2.2.2.2.2.2.2.2.2.2.2.2.2.2.2.2<(s.2.2.2.2.2.2.2.2.1.length:Int)) then
 (ai (run (gY x) (s.1,s.2.1,s.2.2.1,s.2.2.2.1,s.2.2.2.2.1,s.2.2.2.2.2.1,s.2.2.2.2.2.2.1,s.2.2.2.2.2.2.2.1,s.2.2.2.2.2.2.2.2.1,s.2.2.2.2.2.2.2.2.2.1,s.2.2.2.2.2.2.2.2.2.2.1,s.2.2.2.2.2.2.2.2.2.2.2.1,s.2.2.2.2.2.2.2.2.2.2.2.2.1,s.2.2.2.2.2.2.2.2.2.2.2.2.2.1,s.2.2.2.2.2.2.2.2.2.2.2.2.2.2.1,s.2.2.2.2.2.2.2.2.2.2.2.2.2.2.2.1,s.2.2.2.2.2.2.2.2.2.2.2.2.2.2.2.2.1,s.2.2.2.2.2.2.2.2.2.2.2.2.2.2.2.2.2.1,s.2.2.2.2.2.2.2.2.2.2.2.2.2.2.2.2.2.2,0)) fun r=>
 (Sum.inl (r.1,r.2.1,r.2.2.1,r.2.2.2.1,r.2.2.2.2.1,r.2.2.2.2.2.1,r.2.2.2.2.2.2.1,r.2.2.2.2.2.2.2.1,r.2.2.2.2.2.2.2.2.1,r.2.2.2.2.2.2.2.2.2.1,r.2.2.2.2.2.2.2.2.2.2.1,r.2.2.2.2.2.2.2.2.2.2.2.1,r.2.2.2.2.2.2.2.2.2.2.2.2.1,r.2.2.2.2.2.2.2.2.2.2.2.2.2.1,r.2.2.2.2.2.2.2.2.2.2.2.2.2.2.1,r.2.2.2.2.2.2.2.2.2.2.2.2.2.2.2.1,r.2.2.2.2.2.2.2.2.2.2.2.2.2.2.2.2.1,r.2.2.2.2.2.2.2.2.2.2.2.2.2.2.2.2.2.1,(az (r.2.2.2.2.2.2.2.2.2.2.2.2.2.2.2.2.2.2+1))))) else
 (Sum.inr ((s.1,s.2.1,s.2.2.1,s.2.2.2.1,s.2.2.2.2.1,s.2.2.2.2.2.2.2.2.2.2.2.1,s.2.2.2.2.2.2.2.2.2.2.2.2.1,s.2.2.2.2.2.2.2.2.2.2.2.2.2.1,s.2.2.2.2.2.2.2.2.2.2.2.2.2.2.1,s.2.2.2.2.2.2.2.2.2.2.2.2.2.2.2.1,s.2.2.2.2.2.2.2.2.2.2.2.2.2.2.2.2.1,s.2.2.2.2.2.2.2.2.2.2.2.2.2.2.2.2.2.1))))
def cQ (x:(Int×Int×Int×List (List Int×List I6×I2)×(Int×Int×Int×List (List Int×List I6×I2)×List (Int×I3))×Int)) (s:(Int×Int×Int×List (List Int×List I6×I2)×List (Int×I3)×Int×Int×Int×List (List Int×List I6×I2)×Bool×List (Int×I3)×Int×Int×Int×List (List Int×List I6×I2)×List (Int×I3)×Int×Bool×Int)):Prop:=
 ((s.2.2.2.2.2.2.2.2.2.2.2.2.2.2.2.2.2.2<(s.2.2.2.2.2.2.2.2.1.length:Int))->
 (Term (gY x) (lC x) (s.1,s.2.1,s.2.2.1,s.2.2.2.1,s.2.2.2.2.1,s.2.2.2.2.2.1,s.2.2.2.2.2.2.1,s.2.2.2.2.2.2.2.1,s.2.2.2.2.2.2.2.2.1,s.2.2.2.2.2.2.2.2.2.1,s.2.2.2.2.2.2.2.2.2.2.1,s.2.2.2.2.2.2.2.2.2.2.2.1,s.2.2.2.2.2.2.2.2.2.2.2.2.1,s.2.2.2.2.2.2.2.2.2.2.2.2.2.1,s.2.2.2.2.2.2.2.2.2.2.2.2.2.2.1,s.2.2.2.2.2.2.2.2.2.2.2.2.2.2.2.1,s.2.2.2.2.2.2.2.2.2.2.2.2.2.2.2.2.1,s.2.2.2.2.2.2.2.2.2.2.2.2.2.2.2.2.2.1,s.2.2.2.2.2.2.2.2.2.2.2.2.2.2.2.2.2.2,0)))
def eY (x:(Int×Int×Int×List (List Int×List I6×I2)×(Int×Int×Int×List (List Int×List I6×I2)×List (Int×I3))×Int)) (s:(Int×Int×Int×List (List Int×List I6×I2)×List (Int×I3)×Int×Int×Int×List (List Int×List I6×I2)×Bool×List (Int×I3)×Int×Int×Int×List (List Int×List I6×I2)×List (Int×I3)×Int×Bool×Int)):Tr ((Int×Int×Int×List (List Int×List I6×I2)×List (Int×I3)×Int×Int×Int×List (List Int×List I6×I2)×Bool×List (Int×I3)×Int×Int×Int×List (List Int×List I6×I2)×List (Int×I3)×Int×Bool×Int)⊕(Int×Int×Int×List (List Int×List I6×I2)×List (Int×I3)×Int×Int×Int×List (List Int×List I6×I2)×List (Int×I3)×Int×Bool)) true:=
 (.i10 (s.2.2.2.2.2.2.2.2.2.2.2.2.2.2.2.2.2.2<(nL s.2.2.2.2.2.2.2.2.1))
 (aB.lp (G4 x) (AT x) (s.1,s.2.1,s.2.2.1,s.2.2.2.1,s.2.2.2.2.1,s.2.2.2.2.2.1,s.2.2.2.2.2.2.1,s.2.2.2.2.2.2.2.1,s.2.2.2.2.2.2.2.2.1,s.2.2.2.2.2.2.2.2.2.1,s.2.2.2.2.2.2.2.2.2.2.1,s.2.2.2.2.2.2.2.2.2.2.2.1,s.2.2.2.2.2.2.2.2.2.2.2.2.1,s.2.2.2.2.2.2.2.2.2.2.2.2.2.1,s.2.2.2.2.2.2.2.2.2.2.2.2.2.2.1,s.2.2.2.2.2.2.2.2.2.2.2.2.2.2.2.1,s.2.2.2.2.2.2.2.2.2.2.2.2.2.2.2.2.1,s.2.2.2.2.2.2.2.2.2.2.2.2.2.2.2.2.2.1,s.2.2.2.2.2.2.2.2.2.2.2.2.2.2.2.2.2.2,z0) fun r=>
 (.ret (.inl (r.1,r.2.1,r.2.2.1,r.2.2.2.1,r.2.2.2.2.1,r.2.2.2.2.2.1,r.2.2.2.2.2.2.1,r.2.2.2.2.2.2.2.1,r.2.2.2.2.2.2.2.2.1,r.2.2.2.2.2.2.2.2.2.1,r.2.2.2.2.2.2.2.2.2.2.1,r.2.2.2.2.2.2.2.2.2.2.2.1,r.2.2.2.2.2.2.2.2.2.2.2.2.1,r.2.2.2.2.2.2.2.2.2.2.2.2.2.1,r.2.2.2.2.2.2.2.2.2.2.2.2.2.2.1,r.2.2.2.2.2.2.2.2.2.2.2.2.2.2.2.1,r.2.2.2.2.2.2.2.2.2.2.2.2.2.2.2.2.1,r.2.2.2.2.2.2.2.2.2.2.2.2.2.2.2.2.2.1,(w1 r.2.2.2.2.2.2.2.2.2.2.2.2.2.2.2.2.2.2)))))
 (.ret (.inr ((s.1,s.2.1,s.2.2.1,s.2.2.2.1,s.2.2.2.2.1,s.2.2.2.2.2.2.2.2.2.2.2.1,s.2.2.2.2.2.2.2.2.2.2.2.2.1,s.2.2.2.2.2.2.2.2.2.2.2.2.2.1,s.2.2.2.2.2.2.2.2.2.2.2.2.2.2.1,s.2.2.2.2.2.2.2.2.2.2.2.2.2.2.2.1,s.2.2.2.2.2.2.2.2.2.2.2.2.2.2.2.2.1,s.2.2.2.2.2.2.2.2.2.2.2.2.2.2.2.2.2.1)))))
def xu (x:(Int×Int×Int×List (List Int×List I6×I2)×(Int×Int×Int×List (List Int×List I6×I2)×List (Int×I3))×Int)):Bool:=
 (ai (ud x.2.2.2.1) fun y=>
 (if (y=true) then
 true else
 (ai (ud x.2.2.2.2.1.2.2.2.1) fun aO=>
 (if (aO=true) then
 true else
 (if ((x.2.2.2.2.1.2.2.2.2.length:Int)>30) then
 true else
 (ai (HX x.2.2.2.2.1) fun y_2=>
 (ai (jH (x.1,x.2.1,x.2.2.1,x.2.2.2.1)) fun bf=>
 (ai (cL (x.1,x.2.1,x.2.2.1,x.2.2.2.1)) fun bz=>
 (ai (allM x.2.2.2.2.1) fun kX=>
 (ai (uc y_2) fun rq=>
 (ai (vL x.2.2.2.2) fun vh=>
 (ai (ug (y_2,x.2.2.2.2.2)) fun vk=>
 (ai (cr (bf.1,bz.1)) fun XI=>
 (if (XI=true) then
 (if ((bf.2==bz.2)=true) then
 (ai (kO (kX.1,rq.1)) fun mD=>
 (if (mD=true) then
 (ai (dG (kX.2.1,rq.2.1)) fun m5=>
 (if (m5=true) then
 (if ((kX.2.2==rq.2.2)=true) then
 (if ((((vh.1.1.1==vk.1.1.1)&&((vh.1.1.2==vk.1.1.2)&&true))&&(((vh.1.2.1.1==vk.1.2.1.1)&&((vh.1.2.1.2==vk.1.2.1.2)&&true))&&(((vh.1.2.2.1==vk.1.2.2.1)&&((vh.1.2.2.2==vk.1.2.2.2)&&true))&&true)))=true) then
 (ai (run (aQ x) (y_2.1,y_2.2.1,y_2.2.2.1,y_2.2.2.2.1,y_2.2.2.2.2,bf.1.1,bf.1.2.1,bf.1.2.2.1,bf.1.2.2.2.1,true,bf.1.2.2.2.2,bz.1.1,bz.1.2.1,bz.1.2.2.1,bz.1.2.2.2.1,bz.1.2.2.2.2,bz.2,(vh.2==vk.2),0)) fun r=>
 (ai (cL (x.1,x.2.1,x.2.2.1,x.2.2.2.1)) fun de=>
 (ai (eZ false) fun fh=>
 (if (fh=true) then
 (if (r.2.2.2.2.2.2.2.2.2.2.2=true) then
 (ai (fy x.2.2.2.1) fun eM=>
 (ai (cT x.2.2.2.1) fun eP=>
 (ai (dG (eM,eP)) fun gq=>
 (if (gq=true) then
 (ai (GY x.2.2.2.2.1) fun gw=>
 (ai (jT (r.1,r.2.1,r.2.2.1,r.2.2.2.1,r.2.2.2.2.1)) fun iL=>
 (if ((gw==iL)=true) then
 (ai (cr (x.2.2.2.2.1,r.1,r.2.1,r.2.2.1,r.2.2.2.1,r.2.2.2.2.1)) fun m6=>
 (if (m6=true) then
 (if ((de.2==r.2.2.2.2.2.2.2.2.2.2.1)=true) then
 (ai (cr ((r.2.2.2.2.2.1,r.2.2.2.2.2.2.1,r.2.2.2.2.2.2.2.1,r.2.2.2.2.2.2.2.2.1,r.2.2.2.2.2.2.2.2.2.1),de.1)) fun Aa=>
 Aa) else
 false) else
 false)) else
 false))) else
 false)))) else
 false) else
 false)))) else
 (ai (run (aQ x) (y_2.1,y_2.2.1,y_2.2.2.1,y_2.2.2.2.1,y_2.2.2.2.2,bf.1.1,bf.1.2.1,bf.1.2.2.1,bf.1.2.2.2.1,true,bf.1.2.2.2.2,bz.1.1,bz.1.2.1,bz.1.2.2.1,bz.1.2.2.2.1,bz.1.2.2.2.2,bz.2,false,0)) fun r=>
 (ai (cL (x.1,x.2.1,x.2.2.1,x.2.2.2.1)) fun de=>
 (ai (eZ false) fun fh=>
 (if (fh=true) then
 (if (r.2.2.2.2.2.2.2.2.2.2.2=true) then
 (ai (fy x.2.2.2.1) fun eM=>
 (ai (cT x.2.2.2.1) fun eP=>
 (ai (dG (eM,eP)) fun gq=>
 (if (gq=true) then
 (ai (GY x.2.2.2.2.1) fun gw=>
 (ai (jT (r.1,r.2.1,r.2.2.1,r.2.2.2.1,r.2.2.2.2.1)) fun iL=>
 (if ((gw==iL)=true) then
 (ai (cr (x.2.2.2.2.1,r.1,r.2.1,r.2.2.1,r.2.2.2.1,r.2.2.2.2.1)) fun m6=>
 (if (m6=true) then
 (if ((de.2==r.2.2.2.2.2.2.2.2.2.2.1)=true) then
 (ai (cr ((r.2.2.2.2.2.1,r.2.2.2.2.2.2.1,r.2.2.2.2.2.2.2.1,r.2.2.2.2.2.2.2.2.1,r.2.2.2.2.2.2.2.2.2.1),de.1)) fun Aa=>
 Aa) else
 false) else
 false)) else
 false))) else
 false)))) else
 false) else
 false))))) else
 (ai (run (aQ x) (y_2.1,y_2.2.1,y_2.2.2.1,y_2.2.2.2.1,y_2.2.2.2.2,bf.1.1,bf.1.2.1,bf.1.2.2.1,bf.1.2.2.2.1,true,bf.1.2.2.2.2,bz.1.1,bz.1.2.1,bz.1.2.2.1,bz.1.2.2.2.1,bz.1.2.2.2.2,bz.2,false,0)) fun r=>
 (ai (cL (x.1,x.2.1,x.2.2.1,x.2.2.2.1)) fun de=>
 (ai (eZ false) fun fh=>
 (if (fh=true) then
 (if (r.2.2.2.2.2.2.2.2.2.2.2=true) then
 (ai (fy x.2.2.2.1) fun eM=>
 (ai (cT x.2.2.2.1) fun eP=>
 (ai (dG (eM,eP)) fun gq=>
 (if (gq=true) then
 (ai (GY x.2.2.2.2.1) fun gw=>
 (ai (jT (r.1,r.2.1,r.2.2.1,r.2.2.2.1,r.2.2.2.2.1)) fun iL=>
 (if ((gw==iL)=true) then
 (ai (cr (x.2.2.2.2.1,r.1,r.2.1,r.2.2.1,r.2.2.2.1,r.2.2.2.2.1)) fun m6=>
 (if (m6=true) then
 (if ((de.2==r.2.2.2.2.2.2.2.2.2.2.1)=true) then
 (ai (cr ((r.2.2.2.2.2.1,r.2.2.2.2.2.2.1,r.2.2.2.2.2.2.2.1,r.2.2.2.2.2.2.2.2.1,r.2.2.2.2.2.2.2.2.2.1),de.1)) fun Aa=>
 Aa) else
 false) else
 false)) else
 false))) else
 false)))) else
 false) else
 false))))) else
 (ai (run (aQ x) (y_2.1,y_2.2.1,y_2.2.2.1,y_2.2.2.2.1,y_2.2.2.2.2,bf.1.1,bf.1.2.1,bf.1.2.2.1,bf.1.2.2.2.1,true,bf.1.2.2.2.2,bz.1.1,bz.1.2.1,bz.1.2.2.1,bz.1.2.2.2.1,bz.1.2.2.2.2,bz.2,false,0)) fun r=>
 (ai (cL (x.1,x.2.1,x.2.2.1,x.2.2.2.1)) fun de=>
 (ai (eZ false) fun fh=>
 (if (fh=true) then
 (if (r.2.2.2.2.2.2.2.2.2.2.2=true) then
 (ai (fy x.2.2.2.1) fun eM=>
 (ai (cT x.2.2.2.1) fun eP=>
 (ai (dG (eM,eP)) fun gq=>
 (if (gq=true) then
 (ai (GY x.2.2.2.2.1) fun gw=>
 (ai (jT (r.1,r.2.1,r.2.2.1,r.2.2.2.1,r.2.2.2.2.1)) fun iL=>
 (if ((gw==iL)=true) then
 (ai (cr (x.2.2.2.2.1,r.1,r.2.1,r.2.2.1,r.2.2.2.1,r.2.2.2.2.1)) fun m6=>
 (if (m6=true) then
 (if ((de.2==r.2.2.2.2.2.2.2.2.2.2.1)=true) then
 (ai (cr ((r.2.2.2.2.2.1,r.2.2.2.2.2.2.1,r.2.2.2.2.2.2.2.1,r.2.2.2.2.2.2.2.2.1,r.2.2.2.2.2.2.2.2.2.1),de.1)) fun Aa=>
 Aa) else
 false) else
 false)) else
 false))) else
 false)))) else
 false) else
 false)))))) else
 (ai (run (aQ x) (y_2.1,y_2.2.1,y_2.2.2.1,y_2.2.2.2.1,y_2.2.2.2.2,bf.1.1,bf.1.2.1,bf.1.2.2.1,bf.1.2.2.2.1,true,bf.1.2.2.2.2,bz.1.1,bz.1.2.1,bz.1.2.2.1,bz.1.2.2.2.1,bz.1.2.2.2.2,bz.2,false,0)) fun r=>
 (ai (cL (x.1,x.2.1,x.2.2.1,x.2.2.2.1)) fun m5=>
 (ai (eZ false) fun de=>
 (if (de=true) then
 (if (r.2.2.2.2.2.2.2.2.2.2.2=true) then
 (ai (fy x.2.2.2.1) fun fh=>
 (ai (cT x.2.2.2.1) fun eM=>
 (ai (dG (fh,eM)) fun eP=>
 (if (eP=true) then
 (ai (GY x.2.2.2.2.1) fun gq=>
 (ai (jT (r.1,r.2.1,r.2.2.1,r.2.2.2.1,r.2.2.2.2.1)) fun gw=>
 (if ((gq==gw)=true) then
 (ai (cr (x.2.2.2.2.1,r.1,r.2.1,r.2.2.1,r.2.2.2.1,r.2.2.2.2.1)) fun iL=>
 (if (iL=true) then
 (if ((m5.2==r.2.2.2.2.2.2.2.2.2.2.1)=true) then
 (ai (cr ((r.2.2.2.2.2.1,r.2.2.2.2.2.2.1,r.2.2.2.2.2.2.2.1,r.2.2.2.2.2.2.2.2.1,r.2.2.2.2.2.2.2.2.2.1),m5.1)) fun m6=>
 m6) else
 false) else
 false)) else
 false))) else
 false)))) else
 false) else
 false)))))) else
 (ai (run (aQ x) (y_2.1,y_2.2.1,y_2.2.2.1,y_2.2.2.2.1,y_2.2.2.2.2,bf.1.1,bf.1.2.1,bf.1.2.2.1,bf.1.2.2.2.1,true,bf.1.2.2.2.2,bz.1.1,bz.1.2.1,bz.1.2.2.1,bz.1.2.2.2.1,bz.1.2.2.2.2,bz.2,false,0)) fun r=>
 (ai (cL (x.1,x.2.1,x.2.2.1,x.2.2.2.1)) fun mD=>
 (ai (eZ false) fun m5=>
 (if (m5=true) then
 (if (r.2.2.2.2.2.2.2.2.2.2.2=true) then
 (ai (fy x.2.2.2.1) fun de=>
 (ai (cT x.2.2.2.1) fun fh=>
 (ai (dG (de,fh)) fun eM=>
 (if (eM=true) then
 (ai (GY x.2.2.2.2.1) fun eP=>
 (ai (jT (r.1,r.2.1,r.2.2.1,r.2.2.2.1,r.2.2.2.2.1)) fun gq=>
 (if ((eP==gq)=true) then
 (ai (cr (x.2.2.2.2.1,r.1,r.2.1,r.2.2.1,r.2.2.2.1,r.2.2.2.2.1)) fun gw=>
 (if (gw=true) then
 (if ((mD.2==r.2.2.2.2.2.2.2.2.2.2.1)=true) then
 (ai (cr ((r.2.2.2.2.2.1,r.2.2.2.2.2.2.1,r.2.2.2.2.2.2.2.1,r.2.2.2.2.2.2.2.2.1,r.2.2.2.2.2.2.2.2.2.1),mD.1)) fun iL=>
 iL) else
 false) else
 false)) else
 false))) else
 false)))) else
 false) else
 false))))) else
 (ai (run (aQ x) (y_2.1,y_2.2.1,y_2.2.2.1,y_2.2.2.2.1,y_2.2.2.2.2,bf.1.1,bf.1.2.1,bf.1.2.2.1,bf.1.2.2.2.1,true,bf.1.2.2.2.2,bz.1.1,bz.1.2.1,bz.1.2.2.1,bz.1.2.2.2.1,bz.1.2.2.2.2,bz.2,false,0)) fun r=>
 (ai (cL (x.1,x.2.1,x.2.2.1,x.2.2.2.1)) fun mD=>
 (ai (eZ false) fun m5=>
 (if (m5=true) then
 (if (r.2.2.2.2.2.2.2.2.2.2.2=true) then
 (ai (fy x.2.2.2.1) fun de=>
 (ai (cT x.2.2.2.1) fun fh=>
 (ai (dG (de,fh)) fun eM=>
 (if (eM=true) then
 (ai (GY x.2.2.2.2.1) fun eP=>
 (ai (jT (r.1,r.2.1,r.2.2.1,r.2.2.2.1,r.2.2.2.2.1)) fun gq=>
 (if ((eP==gq)=true) then
 (ai (cr (x.2.2.2.2.1,r.1,r.2.1,r.2.2.1,r.2.2.2.1,r.2.2.2.2.1)) fun gw=>
 (if (gw=true) then
 (if ((mD.2==r.2.2.2.2.2.2.2.2.2.2.1)=true) then
 (ai (cr ((r.2.2.2.2.2.1,r.2.2.2.2.2.2.1,r.2.2.2.2.2.2.2.1,r.2.2.2.2.2.2.2.2.1,r.2.2.2.2.2.2.2.2.2.1),mD.1)) fun iL=>
 iL) else
 false) else
 false)) else
 false))) else
 false)))) else
 false) else
 false))))))))))))))))))
def kK (x:(Int×Int×Int×List (List Int×List I6×I2)×(Int×Int×Int×List (List Int×List I6×I2)×List (Int×I3))×Int)):Prop:=
 ((uf x.2.2.2.1)/\
 aA (ud x.2.2.2.1) fun y=>
 (¬(y=true)->
 ((uf x.2.2.2.2.1.2.2.2.1)/\
 aA (ud x.2.2.2.2.1.2.2.2.1) fun aO=>
 (¬(aO=true)->
 (¬((x.2.2.2.2.1.2.2.2.2.length:Int)>30)->
 ((uh x.2.2.2.2.1)/\
 aA (HX x.2.2.2.2.1) fun y_2=>
 ((fq (x.1,x.2.1,x.2.2.1,x.2.2.2.1))/\
 aA (jH (x.1,x.2.1,x.2.2.1,x.2.2.2.1)) fun bf=>
 ((cR (x.1,x.2.1,x.2.2.1,x.2.2.2.1))/\
 aA (cL (x.1,x.2.1,x.2.2.1,x.2.2.2.1)) fun bz=>
 ((pU x.2.2.2.2.1)/\
 aA (allM x.2.2.2.2.1) fun kX=>
 ((qf y_2)/\
 aA (uc y_2) fun rq=>
 ((pN x.2.2.2.2)/\
 aA (vL x.2.2.2.2) fun vh=>
 ((qV (y_2,x.2.2.2.2.2))/\
 aA (ug (y_2,x.2.2.2.2.2)) fun vk=>
 ((bP (bf.1,bz.1))/\
 aA (cr (bf.1,bz.1)) fun XI=>
 (((XI=true)->
 ((((bf.2==bz.2)=true)->
 ((hY (kX.1,rq.1))/\
 aA (kO (kX.1,rq.1)) fun mD=>
 (((mD=true)->
 ((cU (kX.2.1,rq.2.1))/\
 aA (dG (kX.2.1,rq.2.1)) fun m5=>
 (((m5=true)->
 ((((kX.2.2==rq.2.2)=true)->
 ((((((vh.1.1.1==vk.1.1.1)&&((vh.1.1.2==vk.1.1.2)&&true))&&(((vh.1.2.1.1==vk.1.2.1.1)&&((vh.1.2.1.2==vk.1.2.1.2)&&true))&&(((vh.1.2.2.1==vk.1.2.2.1)&&((vh.1.2.2.2==vk.1.2.2.2)&&true))&&true)))=true)->
 (Term (aQ x) (cQ x) (y_2.1,y_2.2.1,y_2.2.2.1,y_2.2.2.2.1,y_2.2.2.2.2,bf.1.1,bf.1.2.1,bf.1.2.2.1,bf.1.2.2.2.1,true,bf.1.2.2.2.2,bz.1.1,bz.1.2.1,bz.1.2.2.1,bz.1.2.2.2.1,bz.1.2.2.2.2,bz.2,(vh.2==vk.2),0)/\
 aA (run (aQ x) (y_2.1,y_2.2.1,y_2.2.2.1,y_2.2.2.2.1,y_2.2.2.2.2,bf.1.1,bf.1.2.1,bf.1.2.2.1,bf.1.2.2.2.1,true,bf.1.2.2.2.2,bz.1.1,bz.1.2.1,bz.1.2.2.1,bz.1.2.2.2.1,bz.1.2.2.2.2,bz.2,(vh.2==vk.2),0)) fun r=>
 ((cR (x.1,x.2.1,x.2.2.1,x.2.2.2.1))/\
 aA (cL (x.1,x.2.1,x.2.2.1,x.2.2.2.1)) fun de=>
 ((dU false)/\
 aA (eZ false) fun fh=>
 ((fh=true)->
 ((r.2.2.2.2.2.2.2.2.2.2.2=true)->
 ((dD x.2.2.2.1)/\
 aA (fy x.2.2.2.1) fun eM=>
 ((dh x.2.2.2.1)/\
 aA (cT x.2.2.2.1) fun eP=>
 ((cU (eM,eP))/\
 aA (dG (eM,eP)) fun gq=>
 ((gq=true)->
 ((jw x.2.2.2.2.1)/\
 aA (GY x.2.2.2.2.1) fun gw=>
 ((fW (r.1,r.2.1,r.2.2.1,r.2.2.2.1,r.2.2.2.2.1))/\
 aA (jT (r.1,r.2.1,r.2.2.1,r.2.2.2.1,r.2.2.2.2.1)) fun iL=>
 (((gw==iL)=true)->
 ((bP (x.2.2.2.2.1,r.1,r.2.1,r.2.2.1,r.2.2.2.1,r.2.2.2.2.1))/\
 aA (cr (x.2.2.2.2.1,r.1,r.2.1,r.2.2.1,r.2.2.2.1,r.2.2.2.2.1)) fun m6=>
 ((m6=true)->
 (((de.2==r.2.2.2.2.2.2.2.2.2.2.1)=true)->
 (bP ((r.2.2.2.2.2.1,r.2.2.2.2.2.2.1,r.2.2.2.2.2.2.2.1,r.2.2.2.2.2.2.2.2.1,r.2.2.2.2.2.2.2.2.2.1),de.1))))))))))))))))))/\
 (¬((((vh.1.1.1==vk.1.1.1)&&((vh.1.1.2==vk.1.1.2)&&true))&&(((vh.1.2.1.1==vk.1.2.1.1)&&((vh.1.2.1.2==vk.1.2.1.2)&&true))&&(((vh.1.2.2.1==vk.1.2.2.1)&&((vh.1.2.2.2==vk.1.2.2.2)&&true))&&true)))=true)->
 (Term (aQ x) (cQ x) (y_2.1,y_2.2.1,y_2.2.2.1,y_2.2.2.2.1,y_2.2.2.2.2,bf.1.1,bf.1.2.1,bf.1.2.2.1,bf.1.2.2.2.1,true,bf.1.2.2.2.2,bz.1.1,bz.1.2.1,bz.1.2.2.1,bz.1.2.2.2.1,bz.1.2.2.2.2,bz.2,false,0)/\
 aA (run (aQ x) (y_2.1,y_2.2.1,y_2.2.2.1,y_2.2.2.2.1,y_2.2.2.2.2,bf.1.1,bf.1.2.1,bf.1.2.2.1,bf.1.2.2.2.1,true,bf.1.2.2.2.2,bz.1.1,bz.1.2.1,bz.1.2.2.1,bz.1.2.2.2.1,bz.1.2.2.2.2,bz.2,false,0)) fun r=>
 ((cR (x.1,x.2.1,x.2.2.1,x.2.2.2.1))/\
 aA (cL (x.1,x.2.1,x.2.2.1,x.2.2.2.1)) fun de=>
 ((dU false)/\
 aA (eZ false) fun fh=>
 ((fh=true)->
 ((r.2.2.2.2.2.2.2.2.2.2.2=true)->
 ((dD x.2.2.2.1)/\
 aA (fy x.2.2.2.1) fun eM=>
 ((dh x.2.2.2.1)/\
 aA (cT x.2.2.2.1) fun eP=>
 ((cU (eM,eP))/\
 aA (dG (eM,eP)) fun gq=>
 ((gq=true)->
 ((jw x.2.2.2.2.1)/\
 aA (GY x.2.2.2.2.1) fun gw=>
 ((fW (r.1,r.2.1,r.2.2.1,r.2.2.2.1,r.2.2.2.2.1))/\
 aA (jT (r.1,r.2.1,r.2.2.1,r.2.2.2.1,r.2.2.2.2.1)) fun iL=>
 (((gw==iL)=true)->
 ((bP (x.2.2.2.2.1,r.1,r.2.1,r.2.2.1,r.2.2.2.1,r.2.2.2.2.1))/\
 aA (cr (x.2.2.2.2.1,r.1,r.2.1,r.2.2.1,r.2.2.2.1,r.2.2.2.2.1)) fun m6=>
 ((m6=true)->
 (((de.2==r.2.2.2.2.2.2.2.2.2.2.1)=true)->
 (bP ((r.2.2.2.2.2.1,r.2.2.2.2.2.2.1,r.2.2.2.2.2.2.2.1,r.2.2.2.2.2.2.2.2.1,r.2.2.2.2.2.2.2.2.2.1),de.1))))))))))))))))))))/\
 (¬((kX.2.2==rq.2.2)=true)->
 (Term (aQ x) (cQ x) (y_2.1,y_2.2.1,y_2.2.2.1,y_2.2.2.2.1,y_2.2.2.2.2,bf.1.1,bf.1.2.1,bf.1.2.2.1,bf.1.2.2.2.1,true,bf.1.2.2.2.2,bz.1.1,bz.1.2.1,bz.1.2.2.1,bz.1.2.2.2.1,bz.1.2.2.2.2,bz.2,false,0)/\
 aA (run (aQ x) (y_2.1,y_2.2.1,y_2.2.2.1,y_2.2.2.2.1,y_2.2.2.2.2,bf.1.1,bf.1.2.1,bf.1.2.2.1,bf.1.2.2.2.1,true,bf.1.2.2.2.2,bz.1.1,bz.1.2.1,bz.1.2.2.1,bz.1.2.2.2.1,bz.1.2.2.2.2,bz.2,false,0)) fun r=>
 ((cR (x.1,x.2.1,x.2.2.1,x.2.2.2.1))/\
 aA (cL (x.1,x.2.1,x.2.2.1,x.2.2.2.1)) fun de=>
 ((dU false)/\
 aA (eZ false) fun fh=>
 ((fh=true)->
 ((r.2.2.2.2.2.2.2.2.2.2.2=true)->
 ((dD x.2.2.2.1)/\
 aA (fy x.2.2.2.1) fun eM=>
 ((dh x.2.2.2.1)/\
 aA (cT x.2.2.2.1) fun eP=>
 ((cU (eM,eP))/\
 aA (dG (eM,eP)) fun gq=>
 ((gq=true)->
 ((jw x.2.2.2.2.1)/\
 aA (GY x.2.2.2.2.1) fun gw=>
 ((fW (r.1,r.2.1,r.2.2.1,r.2.2.2.1,r.2.2.2.2.1))/\
 aA (jT (r.1,r.2.1,r.2.2.1,r.2.2.2.1,r.2.2.2.2.1)) fun iL=>
 (((gw==iL)=true)->
 ((bP (x.2.2.2.2.1,r.1,r.2.1,r.2.2.1,r.2.2.2.1,r.2.2.2.2.1))/\
 aA (cr (x.2.2.2.2.1,r.1,r.2.1,r.2.2.1,r.2.2.2.1,r.2.2.2.2.1)) fun m6=>
 ((m6=true)->
 (((de.2==r.2.2.2.2.2.2.2.2.2.2.1)=true)->
 (bP ((r.2.2.2.2.2.1,r.2.2.2.2.2.2.1,r.2.2.2.2.2.2.2.1,r.2.2.2.2.2.2.2.2.1,r.2.2.2.2.2.2.2.2.2.1),de.1))))))))))))))))))))/\
 (¬(m5=true)->
 (Term (aQ x) (cQ x) (y_2.1,y_2.2.1,y_2.2.2.1,y_2.2.2.2.1,y_2.2.2.2.2,bf.1.1,bf.1.2.1,bf.1.2.2.1,bf.1.2.2.2.1,true,bf.1.2.2.2.2,bz.1.1,bz.1.2.1,bz.1.2.2.1,bz.1.2.2.2.1,bz.1.2.2.2.2,bz.2,false,0)/\
 aA (run (aQ x) (y_2.1,y_2.2.1,y_2.2.2.1,y_2.2.2.2.1,y_2.2.2.2.2,bf.1.1,bf.1.2.1,bf.1.2.2.1,bf.1.2.2.2.1,true,bf.1.2.2.2.2,bz.1.1,bz.1.2.1,bz.1.2.2.1,bz.1.2.2.2.1,bz.1.2.2.2.2,bz.2,false,0)) fun r=>
 ((cR (x.1,x.2.1,x.2.2.1,x.2.2.2.1))/\
 aA (cL (x.1,x.2.1,x.2.2.1,x.2.2.2.1)) fun de=>
 ((dU false)/\
 aA (eZ false) fun fh=>
 ((fh=true)->
 ((r.2.2.2.2.2.2.2.2.2.2.2=true)->
 ((dD x.2.2.2.1)/\
 aA (fy x.2.2.2.1) fun eM=>
 ((dh x.2.2.2.1)/\
 aA (cT x.2.2.2.1) fun eP=>
 ((cU (eM,eP))/\
 aA (dG (eM,eP)) fun gq=>
 ((gq=true)->
 ((jw x.2.2.2.2.1)/\
 aA (GY x.2.2.2.2.1) fun gw=>
 ((fW (r.1,r.2.1,r.2.2.1,r.2.2.2.1,r.2.2.2.2.1))/\
 aA (jT (r.1,r.2.1,r.2.2.1,r.2.2.2.1,r.2.2.2.2.1)) fun iL=>
 (((gw==iL)=true)->
 ((bP (x.2.2.2.2.1,r.1,r.2.1,r.2.2.1,r.2.2.2.1,r.2.2.2.2.1))/\
 aA (cr (x.2.2.2.2.1,r.1,r.2.1,r.2.2.1,r.2.2.2.1,r.2.2.2.2.1)) fun m6=>
 ((m6=true)->
 (((de.2==r.2.2.2.2.2.2.2.2.2.2.1)=true)->
 (bP ((r.2.2.2.2.2.1,r.2.2.2.2.2.2.1,r.2.2.2.2.2.2.2.1,r.2.2.2.2.2.2.2.2.1,r.2.2.2.2.2.2.2.2.2.1),de.1)))))))))))))))))))))/\
 (¬(mD=true)->
 (Term (aQ x) (cQ x) (y_2.1,y_2.2.1,y_2.2.2.1,y_2.2.2.2.1,y_2.2.2.2.2,bf.1.1,bf.1.2.1,bf.1.2.2.1,bf.1.2.2.2.1,true,bf.1.2.2.2.2,bz.1.1,bz.1.2.1,bz.1.2.2.1,bz.1.2.2.2.1,bz.1.2.2.2.2,bz.2,false,0)/\
 aA (run (aQ x) (y_2.1,y_2.2.1,y_2.2.2.1,y_2.2.2.2.1,y_2.2.2.2.2,bf.1.1,bf.1.2.1,bf.1.2.2.1,bf.1.2.2.2.1,true,bf.1.2.2.2.2,bz.1.1,bz.1.2.1,bz.1.2.2.1,bz.1.2.2.2.1,bz.1.2.2.2.2,bz.2,false,0)) fun r=>
 ((cR (x.1,x.2.1,x.2.2.1,x.2.2.2.1))/\
 aA (cL (x.1,x.2.1,x.2.2.1,x.2.2.2.1)) fun m5=>
 ((dU false)/\
 aA (eZ false) fun de=>
 ((de=true)->
 ((r.2.2.2.2.2.2.2.2.2.2.2=true)->
 ((dD x.2.2.2.1)/\
 aA (fy x.2.2.2.1) fun fh=>
 ((dh x.2.2.2.1)/\
 aA (cT x.2.2.2.1) fun eM=>
 ((cU (fh,eM))/\
 aA (dG (fh,eM)) fun eP=>
 ((eP=true)->
 ((jw x.2.2.2.2.1)/\
 aA (GY x.2.2.2.2.1) fun gq=>
 ((fW (r.1,r.2.1,r.2.2.1,r.2.2.2.1,r.2.2.2.2.1))/\
 aA (jT (r.1,r.2.1,r.2.2.1,r.2.2.2.1,r.2.2.2.2.1)) fun gw=>
 (((gq==gw)=true)->
 ((bP (x.2.2.2.2.1,r.1,r.2.1,r.2.2.1,r.2.2.2.1,r.2.2.2.2.1))/\
 aA (cr (x.2.2.2.2.1,r.1,r.2.1,r.2.2.1,r.2.2.2.1,r.2.2.2.2.1)) fun iL=>
 ((iL=true)->
 (((m5.2==r.2.2.2.2.2.2.2.2.2.2.1)=true)->
 (bP ((r.2.2.2.2.2.1,r.2.2.2.2.2.2.1,r.2.2.2.2.2.2.2.1,r.2.2.2.2.2.2.2.2.1,r.2.2.2.2.2.2.2.2.2.1),m5.1)))))))))))))))))))))/\
 (¬((bf.2==bz.2)=true)->
 (Term (aQ x) (cQ x) (y_2.1,y_2.2.1,y_2.2.2.1,y_2.2.2.2.1,y_2.2.2.2.2,bf.1.1,bf.1.2.1,bf.1.2.2.1,bf.1.2.2.2.1,true,bf.1.2.2.2.2,bz.1.1,bz.1.2.1,bz.1.2.2.1,bz.1.2.2.2.1,bz.1.2.2.2.2,bz.2,false,0)/\
 aA (run (aQ x) (y_2.1,y_2.2.1,y_2.2.2.1,y_2.2.2.2.1,y_2.2.2.2.2,bf.1.1,bf.1.2.1,bf.1.2.2.1,bf.1.2.2.2.1,true,bf.1.2.2.2.2,bz.1.1,bz.1.2.1,bz.1.2.2.1,bz.1.2.2.2.1,bz.1.2.2.2.2,bz.2,false,0)) fun r=>
 ((cR (x.1,x.2.1,x.2.2.1,x.2.2.2.1))/\
 aA (cL (x.1,x.2.1,x.2.2.1,x.2.2.2.1)) fun mD=>
 ((dU false)/\
 aA (eZ false) fun m5=>
 ((m5=true)->
 ((r.2.2.2.2.2.2.2.2.2.2.2=true)->
 ((dD x.2.2.2.1)/\
 aA (fy x.2.2.2.1) fun de=>
 ((dh x.2.2.2.1)/\
 aA (cT x.2.2.2.1) fun fh=>
 ((cU (de,fh))/\
 aA (dG (de,fh)) fun eM=>
 ((eM=true)->
 ((jw x.2.2.2.2.1)/\
 aA (GY x.2.2.2.2.1) fun eP=>
 ((fW (r.1,r.2.1,r.2.2.1,r.2.2.2.1,r.2.2.2.2.1))/\
 aA (jT (r.1,r.2.1,r.2.2.1,r.2.2.2.1,r.2.2.2.2.1)) fun gq=>
 (((eP==gq)=true)->
 ((bP (x.2.2.2.2.1,r.1,r.2.1,r.2.2.1,r.2.2.2.1,r.2.2.2.2.1))/\
 aA (cr (x.2.2.2.2.1,r.1,r.2.1,r.2.2.1,r.2.2.2.1,r.2.2.2.2.1)) fun gw=>
 ((gw=true)->
 (((mD.2==r.2.2.2.2.2.2.2.2.2.2.1)=true)->
 (bP ((r.2.2.2.2.2.1,r.2.2.2.2.2.2.1,r.2.2.2.2.2.2.2.1,r.2.2.2.2.2.2.2.2.1,r.2.2.2.2.2.2.2.2.2.1),mD.1))))))))))))))))))))/\
 (¬(XI=true)->
 (Term (aQ x) (cQ x) (y_2.1,y_2.2.1,y_2.2.2.1,y_2.2.2.2.1,y_2.2.2.2.2,bf.1.1,bf.1.2.1,bf.1.2.2.1,bf.1.2.2.2.1,true,bf.1.2.2.2.2,bz.1.1,bz.1.2.1,bz.1.2.2.1,bz.1.2.2.2.1,bz.1.2.2.2.2,bz.2,false,0)/\
 aA (run (aQ x) (y_2.1,y_2.2.1,y_2.2.2.1,y_2.2.2.2.1,y_2.2.2.2.2,bf.1.1,bf.1.2.1,bf.1.2.2.1,bf.1.2.2.2.1,true,bf.1.2.2.2.2,bz.1.1,bz.1.2.1,bz.1.2.2.1,bz.1.2.2.2.1,bz.1.2.2.2.2,bz.2,false,0)) fun r=>
 ((cR (x.1,x.2.1,x.2.2.1,x.2.2.2.1))/\
 aA (cL (x.1,x.2.1,x.2.2.1,x.2.2.2.1)) fun mD=>
 ((dU false)/\
 aA (eZ false) fun m5=>
 ((m5=true)->
 ((r.2.2.2.2.2.2.2.2.2.2.2=true)->
 ((dD x.2.2.2.1)/\
 aA (fy x.2.2.2.1) fun de=>
 ((dh x.2.2.2.1)/\
 aA (cT x.2.2.2.1) fun fh=>
 ((cU (de,fh))/\
 aA (dG (de,fh)) fun eM=>
 ((eM=true)->
 ((jw x.2.2.2.2.1)/\
 aA (GY x.2.2.2.2.1) fun eP=>
 ((fW (r.1,r.2.1,r.2.2.1,r.2.2.2.1,r.2.2.2.2.1))/\
 aA (jT (r.1,r.2.1,r.2.2.1,r.2.2.2.1,r.2.2.2.2.1)) fun gq=>
 (((eP==gq)=true)->
 ((bP (x.2.2.2.2.1,r.1,r.2.1,r.2.2.1,r.2.2.2.1,r.2.2.2.2.1))/\
 aA (cr (x.2.2.2.2.1,r.1,r.2.1,r.2.2.1,r.2.2.2.1,r.2.2.2.2.1)) fun gw=>
 ((gw=true)->
 (((mD.2==r.2.2.2.2.2.2.2.2.2.2.1)=true)->
 (bP ((r.2.2.2.2.2.1,r.2.2.2.2.2.2.1,r.2.2.2.2.2.2.2.1,r.2.2.2.2.2.2.2.2.1,r.2.2.2.2.2.2.2.2.2.1),mD.1))))))))))))))))))))))))))))))))
def V6 (x:(Int×Int×Int×List (List Int×List I6×I2)×(Int×Int×Int×List (List Int×List I6×I2)×List (Int×I3))×Int)):Tr Bool true:=
 (.fn wC x.2.2.2.1 fun y=>
 (.iK y
 (.ret true)
 (.fn wC x.2.2.2.2.1.2.2.2.1 fun aO=>
 (.iK aO
 (.ret true)
 (.zu ((nL x.2.2.2.2.1.2.2.2.2)>30)
 (.ret true)
 (.fn Bv x.2.2.2.2.1 fun y_2=>
 (.fn k8 (x.1,x.2.1,x.2.2.1,x.2.2.2.1) fun bf=>
 (.fn eE (x.1,x.2.1,x.2.2.1,x.2.2.2.1) fun bz=>
 (.fn CH x.2.2.2.2.1 fun kX=>
 (.fn wB y_2 fun rq=>
 (.fn Au x.2.2.2.2 fun vh=>
 (.fn xP (y_2,x.2.2.2.2.2) fun vk=>
 (.fn cE (bf.1,bz.1) fun XI=>
 (.b11 XI
 (.b11 (bf.2==bz.2)
 (.fn jQ (kX.1,rq.1) fun mD=>
 (.b11 mD
 (.fn ff (kX.2.1,rq.2.1) fun m5=>
 (.b11 m5
 (.b11 (kX.2.2==rq.2.2)
 (.b11 (((vh.1.1.1==vk.1.1.1)&&((vh.1.1.2==vk.1.1.2)&&true))&&(((vh.1.2.1.1==vk.1.2.1.1)&&((vh.1.2.1.2==vk.1.2.1.2)&&true))&&(((vh.1.2.2.1==vk.1.2.2.1)&&((vh.1.2.2.2==vk.1.2.2.2)&&true))&&true)))
 (aB.lp (jc x) (eY x) (y_2.1,y_2.2.1,y_2.2.2.1,y_2.2.2.2.1,y_2.2.2.2.2,bf.1.1,bf.1.2.1,bf.1.2.2.1,bf.1.2.2.2.1,true,bf.1.2.2.2.2,bz.1.1,bz.1.2.1,bz.1.2.2.1,bz.1.2.2.2.1,bz.1.2.2.2.2,bz.2,(vh.2==vk.2),z0) fun r=>
 (.fn eE (x.1,x.2.1,x.2.2.1,x.2.2.2.1) fun de=>
 (.fn iD false fun fh=>
 (.jL fh
 (.jL r.2.2.2.2.2.2.2.2.2.2.2
 (.fn g9 x.2.2.2.1 fun eM=>
 (.fn eF x.2.2.2.1 fun eP=>
 (.fn ff (eM,eP) fun gq=>
 (.jL gq
 (.fn uY x.2.2.2.2.1 fun gw=>
 (.fn lT (r.1,r.2.1,r.2.2.1,r.2.2.2.1,r.2.2.2.2.1) fun iL=>
 (.jL (gw==iL)
 (.fn cE (x.2.2.2.2.1,r.1,r.2.1,r.2.2.1,r.2.2.2.1,r.2.2.2.2.1) fun m6=>
 (.jL m6
 (.jL (de.2==r.2.2.2.2.2.2.2.2.2.2.1)
 (.fn cE ((r.2.2.2.2.2.1,r.2.2.2.2.2.2.1,r.2.2.2.2.2.2.2.1,r.2.2.2.2.2.2.2.2.1,r.2.2.2.2.2.2.2.2.2.1),de.1) fun Aa=>
 (.ret Aa))
 (.ret false))
 (.ret false)))
 (.ret false))))
 (.ret false)))))
 (.ret false))
 (.ret false)))))
 (aB.lp (jc x) (eY x) (y_2.1,y_2.2.1,y_2.2.2.1,y_2.2.2.2.1,y_2.2.2.2.2,bf.1.1,bf.1.2.1,bf.1.2.2.1,bf.1.2.2.2.1,true,bf.1.2.2.2.2,bz.1.1,bz.1.2.1,bz.1.2.2.1,bz.1.2.2.2.1,bz.1.2.2.2.2,bz.2,false,z0) fun r=>
 (.fn eE (x.1,x.2.1,x.2.2.1,x.2.2.2.1) fun de=>
 (.fn iD false fun fh=>
 (.jL fh
 (.jL r.2.2.2.2.2.2.2.2.2.2.2
 (.fn g9 x.2.2.2.1 fun eM=>
 (.fn eF x.2.2.2.1 fun eP=>
 (.fn ff (eM,eP) fun gq=>
 (.jL gq
 (.fn uY x.2.2.2.2.1 fun gw=>
 (.fn lT (r.1,r.2.1,r.2.2.1,r.2.2.2.1,r.2.2.2.2.1) fun iL=>
 (.jL (gw==iL)
 (.fn cE (x.2.2.2.2.1,r.1,r.2.1,r.2.2.1,r.2.2.2.1,r.2.2.2.2.1) fun m6=>
 (.jL m6
 (.jL (de.2==r.2.2.2.2.2.2.2.2.2.2.1)
 (.fn cE ((r.2.2.2.2.2.1,r.2.2.2.2.2.2.1,r.2.2.2.2.2.2.2.1,r.2.2.2.2.2.2.2.2.1,r.2.2.2.2.2.2.2.2.2.1),de.1) fun Aa=>
 (.ret Aa))
 (.ret false))
 (.ret false)))
 (.ret false))))
 (.ret false)))))
 (.ret false))
 (.ret false))))))
 (aB.lp (jc x) (eY x) (y_2.1,y_2.2.1,y_2.2.2.1,y_2.2.2.2.1,y_2.2.2.2.2,bf.1.1,bf.1.2.1,bf.1.2.2.1,bf.1.2.2.2.1,true,bf.1.2.2.2.2,bz.1.1,bz.1.2.1,bz.1.2.2.1,bz.1.2.2.2.1,bz.1.2.2.2.2,bz.2,false,z0) fun r=>
 (.fn eE (x.1,x.2.1,x.2.2.1,x.2.2.2.1) fun de=>
 (.fn iD false fun fh=>
 (.jL fh
 (.jL r.2.2.2.2.2.2.2.2.2.2.2
 (.fn g9 x.2.2.2.1 fun eM=>
 (.fn eF x.2.2.2.1 fun eP=>
 (.fn ff (eM,eP) fun gq=>
 (.jL gq
 (.fn uY x.2.2.2.2.1 fun gw=>
 (.fn lT (r.1,r.2.1,r.2.2.1,r.2.2.2.1,r.2.2.2.2.1) fun iL=>
 (.jL (gw==iL)
 (.fn cE (x.2.2.2.2.1,r.1,r.2.1,r.2.2.1,r.2.2.2.1,r.2.2.2.2.1) fun m6=>
 (.jL m6
 (.jL (de.2==r.2.2.2.2.2.2.2.2.2.2.1)
 (.fn cE ((r.2.2.2.2.2.1,r.2.2.2.2.2.2.1,r.2.2.2.2.2.2.2.1,r.2.2.2.2.2.2.2.2.1,r.2.2.2.2.2.2.2.2.2.1),de.1) fun Aa=>
 (.ret Aa))
 (.ret false))
 (.ret false)))
 (.ret false))))
 (.ret false)))))
 (.ret false))
 (.ret false))))))
 (aB.lp (jc x) (eY x) (y_2.1,y_2.2.1,y_2.2.2.1,y_2.2.2.2.1,y_2.2.2.2.2,bf.1.1,bf.1.2.1,bf.1.2.2.1,bf.1.2.2.2.1,true,bf.1.2.2.2.2,bz.1.1,bz.1.2.1,bz.1.2.2.1,bz.1.2.2.2.1,bz.1.2.2.2.2,bz.2,false,z0) fun r=>
 (.fn eE (x.1,x.2.1,x.2.2.1,x.2.2.2.1) fun de=>
 (.fn iD false fun fh=>
 (.jL fh
 (.jL r.2.2.2.2.2.2.2.2.2.2.2
 (.fn g9 x.2.2.2.1 fun eM=>
 (.fn eF x.2.2.2.1 fun eP=>
 (.fn ff (eM,eP) fun gq=>
 (.jL gq
 (.fn uY x.2.2.2.2.1 fun gw=>
 (.fn lT (r.1,r.2.1,r.2.2.1,r.2.2.2.1,r.2.2.2.2.1) fun iL=>
 (.jL (gw==iL)
 (.fn cE (x.2.2.2.2.1,r.1,r.2.1,r.2.2.1,r.2.2.2.1,r.2.2.2.2.1) fun m6=>
 (.jL m6
 (.jL (de.2==r.2.2.2.2.2.2.2.2.2.2.1)
 (.fn cE ((r.2.2.2.2.2.1,r.2.2.2.2.2.2.1,r.2.2.2.2.2.2.2.1,r.2.2.2.2.2.2.2.2.1,r.2.2.2.2.2.2.2.2.2.1),de.1) fun Aa=>
 (.ret Aa))
 (.ret false))
 (.ret false)))
 (.ret false))))
 (.ret false)))))
 (.ret false))
 (.ret false)))))))
 (aB.lp (jc x) (eY x) (y_2.1,y_2.2.1,y_2.2.2.1,y_2.2.2.2.1,y_2.2.2.2.2,bf.1.1,bf.1.2.1,bf.1.2.2.1,bf.1.2.2.2.1,true,bf.1.2.2.2.2,bz.1.1,bz.1.2.1,bz.1.2.2.1,bz.1.2.2.2.1,bz.1.2.2.2.2,bz.2,false,z0) fun r=>
 (.fn eE (x.1,x.2.1,x.2.2.1,x.2.2.2.1) fun m5=>
 (.fn iD false fun de=>
 (.jL de
 (.jL r.2.2.2.2.2.2.2.2.2.2.2
 (.fn g9 x.2.2.2.1 fun fh=>
 (.fn eF x.2.2.2.1 fun eM=>
 (.fn ff (fh,eM) fun eP=>
 (.jL eP
 (.fn uY x.2.2.2.2.1 fun gq=>
 (.fn lT (r.1,r.2.1,r.2.2.1,r.2.2.2.1,r.2.2.2.2.1) fun gw=>
 (.jL (gq==gw)
 (.fn cE (x.2.2.2.2.1,r.1,r.2.1,r.2.2.1,r.2.2.2.1,r.2.2.2.2.1) fun iL=>
 (.jL iL
 (.jL (m5.2==r.2.2.2.2.2.2.2.2.2.2.1)
 (.fn cE ((r.2.2.2.2.2.1,r.2.2.2.2.2.2.1,r.2.2.2.2.2.2.2.1,r.2.2.2.2.2.2.2.2.1,r.2.2.2.2.2.2.2.2.2.1),m5.1) fun m6=>
 (.ret m6))
 (.ret false))
 (.ret false)))
 (.ret false))))
 (.ret false)))))
 (.ret false))
 (.ret false)))))))
 (aB.lp (jc x) (eY x) (y_2.1,y_2.2.1,y_2.2.2.1,y_2.2.2.2.1,y_2.2.2.2.2,bf.1.1,bf.1.2.1,bf.1.2.2.1,bf.1.2.2.2.1,true,bf.1.2.2.2.2,bz.1.1,bz.1.2.1,bz.1.2.2.1,bz.1.2.2.2.1,bz.1.2.2.2.2,bz.2,false,z0) fun r=>
 (.fn eE (x.1,x.2.1,x.2.2.1,x.2.2.2.1) fun mD=>
 (.fn iD false fun m5=>
 (.jL m5
 (.jL r.2.2.2.2.2.2.2.2.2.2.2
 (.fn g9 x.2.2.2.1 fun de=>
 (.fn eF x.2.2.2.1 fun fh=>
 (.fn ff (de,fh) fun eM=>
 (.jL eM
 (.fn uY x.2.2.2.2.1 fun eP=>
 (.fn lT (r.1,r.2.1,r.2.2.1,r.2.2.2.1,r.2.2.2.2.1) fun gq=>
 (.jL (eP==gq)
 (.fn cE (x.2.2.2.2.1,r.1,r.2.1,r.2.2.1,r.2.2.2.1,r.2.2.2.2.1) fun gw=>
 (.jL gw
 (.jL (mD.2==r.2.2.2.2.2.2.2.2.2.2.1)
 (.fn cE ((r.2.2.2.2.2.1,r.2.2.2.2.2.2.1,r.2.2.2.2.2.2.2.1,r.2.2.2.2.2.2.2.2.1,r.2.2.2.2.2.2.2.2.2.1),mD.1) fun iL=>
 (.ret iL))
 (.ret false))
 (.ret false)))
 (.ret false))))
 (.ret false)))))
 (.ret false))
 (.ret false))))))
 (aB.lp (jc x) (eY x) (y_2.1,y_2.2.1,y_2.2.2.1,y_2.2.2.2.1,y_2.2.2.2.2,bf.1.1,bf.1.2.1,bf.1.2.2.1,bf.1.2.2.2.1,true,bf.1.2.2.2.2,bz.1.1,bz.1.2.1,bz.1.2.2.1,bz.1.2.2.2.1,bz.1.2.2.2.2,bz.2,false,z0) fun r=>
 (.fn eE (x.1,x.2.1,x.2.2.1,x.2.2.2.1) fun mD=>
 (.fn iD false fun m5=>
 (.jL m5
 (.jL r.2.2.2.2.2.2.2.2.2.2.2
 (.fn g9 x.2.2.2.1 fun de=>
 (.fn eF x.2.2.2.1 fun fh=>
 (.fn ff (de,fh) fun eM=>
 (.jL eM
 (.fn uY x.2.2.2.2.1 fun eP=>
 (.fn lT (r.1,r.2.1,r.2.2.1,r.2.2.2.1,r.2.2.2.2.1) fun gq=>
 (.jL (eP==gq)
 (.fn cE (x.2.2.2.2.1,r.1,r.2.1,r.2.2.1,r.2.2.2.1,r.2.2.2.2.1) fun gw=>
 (.jL gw
 (.jL (mD.2==r.2.2.2.2.2.2.2.2.2.2.1)
 (.fn cE ((r.2.2.2.2.2.1,r.2.2.2.2.2.2.1,r.2.2.2.2.2.2.2.1,r.2.2.2.2.2.2.2.2.1,r.2.2.2.2.2.2.2.2.2.1),mD.1) fun iL=>
 (.ret iL))
 (.ret false))
 (.ret false)))
 (.ret false))))
 (.ret false)))))
 (.ret false))
 (.ret false)))))))))))))))))))
abbrev C0:cC:=⟨(.pair (.one yi) (.pair (.one yi) (.pair (.one yi) (.pair (.one (Ty.sl (Ty.prod (Ty.sl yi) (Ty.prod (Ty.sl aV) aS)))) (.pair (.agg (Ty.prod yi (Ty.prod yi (Ty.prod yi (Ty.prod (Ty.sl (Ty.prod (Ty.sl yi) (Ty.prod (Ty.sl aV) aS))) (Ty.sl (Ty.prod yi cq))))))) (.one yi)))))),(.one Ty.bool),kK,xu⟩
theorem RW:ah Tryz.prog 3 (aj C0):=ah.tr C0 V6 (fn:=Tryz.f3) ay uE mixed (by kernel_rfl) (av.nil _ _) (fun x=>(au.tr ay (ae.bS uE (av.nil _ _)) mixed 0 (jc x) (eY x) (au.tr ay (ae.bS uE (av.nil _ _)) mixed 2 (G4 x) (AT x) au.nil (by kernel_rfl) fun g s Q=>(by kernel_rfl)) (by kernel_rfl) fun g s Q=>(by kernel_rfl))) (fun x=>(by kernel_rfl)) fun x Q=>(by kernel_rfl)
end Go.Proofs.YtbjfokijjefoeaaGreat
