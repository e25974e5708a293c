/- Models of functions of layer 27: seams. -/
import Derived.Test.YtojielnkfeoccaaGreatEd
import Derived.Test.YtojielnkfeoccaaGreatEvN
noncomputable section
set_option linter.unusedSectionVars false
set_option linter.unusedVariables false
set_option linter.unusedSimpArgs false
namespace Go.Proofs.YtojielnkfeoccaaGreat
open Go Go.Ev Go.Proofs
theorem Tj:jL tt 33 (.prod aH aH):=fun x y=>by
 obtain ⟨⟨a,b⟩,c,d⟩:=x
 obtain ⟨⟨a2,b2⟩,c2,d2⟩:=y
 show some (((a==a2)&&((b==b2)&&true))&&(((c==c2)&&((d==d2)&&true))&&true))=some (((a==a2)&&(b==b2))&&((c==c2)&&(d==d2)))
 simp only [Bool.and_true]
abbrev vQ:Type:=(List I2×List (Int×I6)×List (I2×I2)×List ((I2×I2)×Bool)×Int×Int×List Int×List (Int×Int×List Int)×Nat×Int×Int×Int×Int×Int×Int×Int×Int×Int×Int×Int×Int×Int×Int×Int×Int×Int×Int×Int×Int×Int×Int×Int×Int×Int×Int×Int×Int×Int×Int×Int×Int×Int×Int×I3)
abbrev vR:Type:=(List I2×List (Int×I6)×List (I2×I2)×List ((I2×I2)×Bool)×Int×Int×List Int×Int×List (Int×Int×List Int)×Int×Int×Int×Int×Nat×I2)
abbrev Lb:Type:=(List I2×List (Int×I6)×List (I2×I2)×List ((I2×I2)×Bool)×Int×Int×List Int×List (Int×Int×List Int)×Int×I3)
abbrev gB:Type:=((List I3×List I2×List I3×List I9)×Int×Int×Int×List (List Int×List I6×I2)×List (Int×I3))
abbrev IG:Type:=(List I2×List (Int×I6)×List (I2×I2)×List ((I2×I2)×Bool)×List (Int×Int×List Int)×I2)
abbrev Rh:Type:=(List I6×List Int×List I2×List (Int×I6)×Int×Int×List Int×I2)
abbrev Lc:Type:=(List I6×List Int×List I2×List (Int×I6)×I2)
abbrev cQ (v:(Int×Int)×((Int×Int)×Int×Int)) (a:Int):Int×Int:=(List.getD [v.1.1,v.1.2,v.2.1.1,v.2.1.2,v.2.2.1,v.2.2.2] (a.toNat*2) (0:Int),List.getD [v.1.1,v.1.2,v.2.1.1,v.2.1.2,v.2.2.1,v.2.2.2] ((a.toNat*2)+1) (0:Int))
abbrev abx:Ty:= .prod aH (.prod aH (.prod aH (.prod aH (.prod aH (.prod aH (.prod aH (.prod aH aH)))))))
def abU:List (Nat×bE):=((0,p9 tt mQ cT [(2,p9 tt mQ cT [] [] [] 2 (cI (blk 2 (bh Tryz.f28))) 10)] [] [] 0 (cI (blk 0 (bh Tryz.f28))) 3):: [(2,p9 tt mQ cT [] [] [] 2 (cI (blk 2 (bh Tryz.f28))) 10)])
def abV:Ev.Spec:=Ld tt mQ abU Tryz.f28 (.agg abx)
theorem W2:ak Tryz.prog 28 abV:=ak.walked aD mG mixed (by kernel_rfl) (by kernel_rfl) (ay.yM aD (af.eO mG (aA.nil _ _)) mixed 0 3 (ay.yM aD (af.eO mG (aA.nil _ _)) mixed 2 10 ay.nil (by kernel_rfl)) (by kernel_rfl)) fun _=>rfl
def yB:List (Nat×Ev.Spec):=(28,abV)::DX
theorem fb:af Tryz.prog yB:=af.add (fn:=Tryz.f28) (by kernel_rfl) W2 EU
def xU (x:gB):aW:=⟨[.env],⟨dy 80 0 [(2,.v (.one (.ptr 9 0))),(4,.v (.one (.ptr 10 0))),(6,.v (.one (.full 11))),(7,.v (.one (.full 12))),(9,.v (.one (.ptr 13 0))),(10,.v (.one (.i .i64))),(34,.v (.one (.full 4))),(35,.v (.one (.i .i64))),(36,.v (.one (.i .i64))),(41,.v (.one (.full 16))),(42,.v (.one (.i .i64))),(43,.v (.one (.i .i64)))],[.row cj 0,.row aH 0,.row cj 0,.row kB 0,.row (Ty.prod (Ty.sl yi) (Ty.prod (Ty.sl bZ) aH)) 0,.row (Ty.prod yi cj) 0,.cells [.full 0,.full 1,.full 2,.full 3] 41,.cells [.i .i64,.i .i64,.i .i64,.full 4,.full 5] 45,.eJ 8,.cells [.full 0,.full 1,.full 2,.full 3] 41,.cells [.raw,.raw,.raw,.raw,.raw,.raw] 70,.row bZ 2,.row yi 2,.cells [.full 0,.full 1,.full 2,.full 3,.mp 14,.mp 15] 70,.map Bool.false Bool.false yi yi,.map Bool.false Bool.true yi bZ,.row yi 0],9,none,[14],[1,5,6,7,8,9,10,11,12,13,15,16,17,18,19,20],[21,22,23,24,0,2,25,3,4],[(.l bZ),(.l yi),(.l (.prod yi yi)),(.l (.prod yi bZ)),.i,.i,(.l yi),.i,.i],[.i (x.2.2.2.2.1.length:Int),.l cj x.1.1,.l aH x.1.2.1,.l cj x.1.2.2.1,.l kB x.1.2.2.2,.l (Ty.prod (Ty.sl yi) (Ty.prod (Ty.sl bZ) aH)) x.2.2.2.2.1,.l (Ty.prod yi cj) x.2.2.2.2.2,.i x.2.1,.i x.2.2.1,.i x.2.2.2.1,.v (.slice none 0 0),.v (.slice none 0 0),.v (.slice none 0 0),.v (.slice none 0 0),.v (Value.map Option.none),.v (Value.map Option.none)]⟩,[⟨.ret,.ret,⟨dy 80 0 [(4,.v (.one (.ptr 9 0))),(5,.v (.one (.b)))],[.row cj 0,.row aH 0,.row cj 0,.row kB 0,.row (Ty.prod (Ty.sl yi) (Ty.prod (Ty.sl bZ) aH)) 0,.row (Ty.prod yi cj) 0,.cells [.full 0,.full 1,.full 2,.full 3] 41,.cells [.i .i64,.i .i64,.i .i64,.full 4,.full 5] 45,.eJ 8,.cells [.full 0,.full 1,.full 2,.full 3,.mp 10,.mp 11] 70,.map Bool.false Bool.false yi yi,.map Bool.false Bool.true yi bZ],9,none,[10],[0,1,2,3,4,5,6,7,8,9],[11,12],[(.l (.prod yi yi)),(.l (.prod yi bZ))],[.b false,.l cj x.1.1,.l aH x.1.2.1,.l cj x.1.2.2.1,.l kB x.1.2.2.2,.l (Ty.prod (Ty.sl yi) (Ty.prod (Ty.sl bZ) aH)) x.2.2.2.2.1,.l (Ty.prod yi cj) x.2.2.2.2.2,.i x.2.1,.i x.2.2.1,.i x.2.2.2.1]⟩⟩,⟨(.exit 2),.normal,⟨dy 80 0 [(2,.v (.one (.ptr 9 0))),(4,.v (.one (.ptr 10 0))),(6,.v (.one (.full 11))),(7,.v (.one (.full 12))),(9,.v (.one (.ptr 13 0))),(10,.v (.one (.i .i64))),(34,.v (.one (.full 4))),(35,.v (.one (.i .i64))),(36,.v (.one (.i .i64)))],[.row cj 0,.row aH 0,.row cj 0,.row kB 0,.row (Ty.prod (Ty.sl yi) (Ty.prod (Ty.sl bZ) aH)) 0,.row (Ty.prod yi cj) 0,.cells [.full 0,.full 1,.full 2,.full 3] 41,.cells [.i .i64,.i .i64,.i .i64,.full 4,.full 5] 45,.eJ 8,.cells [.full 0,.full 1,.full 2,.full 3] 41,.cells [.raw,.raw,.raw,.raw,.raw,.raw] 70,.row bZ 2,.row yi 2,.cells [.full 0,.full 1,.full 2,.full 3,.mp 14,.mp 15] 70,.map Bool.false Bool.false yi yi,.map Bool.false Bool.true yi bZ],9,none,[12],[1,3,4,5,6,7,8,9,10,11,13,14,15,16,17,18],[19,20,21,22,0,2],[(.l bZ),(.l yi),(.l (.prod yi yi)),(.l (.prod yi bZ)),.i,.i],[.i (x.2.2.2.2.1.length:Int),.l cj x.1.1,.l aH x.1.2.1,.l cj x.1.2.2.1,.l kB x.1.2.2.2,.l (Ty.prod (Ty.sl yi) (Ty.prod (Ty.sl bZ) aH)) x.2.2.2.2.1,.l (Ty.prod yi cj) x.2.2.2.2.2,.i x.2.1,.i x.2.2.1,.i x.2.2.2.1,.v (.slice none 0 0),.v (.slice none 0 0),.v (.slice none 0 0),.v (.slice none 0 0),.v (Value.map Option.none),.v (Value.map Option.none)]⟩⟩]⟩
abbrev ZM (s:Rh):=(s.2.2.2.2.2.2.1.getD s.2.2.2.2.2.2.2.2.toNat (0:Int))
def cR (x:gB) (s:Rh):Rh⊕((List I2×List (Int×I6))⊕Lc):=
 (if (s.2.2.2.2.2.2.2.2<s.2.2.2.2.2.2.2.1) then
 (if ((ZM s)<0) then
 (Sum.inr (Sum.inl (s.2.2.1,s.2.2.2.1))) else
 (if ((ZM s)>=(x.1.2.2.2.length:Int)) then
 (Sum.inr (Sum.inl (s.2.2.1,s.2.2.2.1))) else
 (au (bU (k:=yi) s.2.2.1 (ZM s) (s.2.1.getD s.2.2.2.2.1.toNat 0)) fun y=>
 (au (bU (k:=yi) s.2.2.2.1 (ZM s) (s.1.getD s.2.2.2.2.1.toNat ((0,0),(0,0),0,0))) fun bq=>
 (Sum.inl (s.1,s.2.1,y,bq,(aj (s.2.2.2.2.1+1)),s.2.2.2.2.2.1,s.2.2.2.2.2.2.1,s.2.2.2.2.2.2.2.1,(aj (s.2.2.2.2.2.2.2.2+1)))))))) else
 (Sum.inr (Sum.inr ((s.1,s.2.1,s.2.2.1,s.2.2.2.1,s.2.2.2.2.1,s.2.2.2.2.2.1)))))
def iT (x:gB) (s:Rh):Prop:=
 ((s.2.2.2.2.2.2.2.2<s.2.2.2.2.2.2.2.1)->
 (((0<=s.2.2.2.2.2.2.2.2)/\ (s.2.2.2.2.2.2.2.2<(s.2.2.2.2.2.2.1.length:Int)))/\
 ((s.2.2.2.2.2.2.2.2.toNat<s.2.2.2.2.2.2.1.length)/\
 ((s.2.2.2.2.2.2.2.2.toNat<s.2.2.2.2.2.2.1.length)/\
 (¬((ZM s)<0)->
 (¬((ZM s)>=(x.1.2.2.2.length:Int))->
 (((0<=s.2.2.2.2.1)/\ (s.2.2.2.2.1<(s.2.1.length:Int)))/\
 ((s.2.2.2.2.1.toNat<s.2.1.length)/\
 ((s.2.2.2.2.1.toNat<s.2.1.length)/\
 (((0<=s.2.2.2.2.1)/\ (s.2.2.2.2.1<(s.1.length:Int)))/\
 ((s.2.2.2.2.1.toNat<s.1.length)/\
 (s.2.2.2.2.1.toNat<s.1.length))))))))))))
def sO (x:gB) (s:Rh):Tr (Rh⊕((List I2×List (Int×I6))⊕Lc)) true:=
 (.i10 (s.2.2.2.2.2.2.2.2<s.2.2.2.2.2.2.2.1)
 (.lA s.2.2.2.2.2.2.2.2 s.2.2.2.2.2.2.1
 (.uu ((gI s.2.2.2.2.2.2.1 s.2.2.2.2.2.2.2.2)<z0)
 (.ret (.inr (Sum.inl (s.2.2.1,s.2.2.2.1))))
 (.uu ((gI s.2.2.2.2.2.2.1 s.2.2.2.2.2.2.2.2)>=(nL x.1.2.2.2))
 (.ret (.inr (Sum.inl (s.2.2.1,s.2.2.2.1))))
 (.lA s.2.2.2.2.1 s.2.1
 (.lA s.2.2.2.2.1 s.1
 (.fact (jL tt 3 yi) uw
 (.lt (bU (k:=yi) s.2.2.1 (gI s.2.2.2.2.2.2.1 s.2.2.2.2.2.2.2.2) (gI s.2.1 s.2.2.2.2.1)) fun y=>
 (.fact (jL tt 3 yi) uw
 (.lt (bU (k:=yi) s.2.2.2.1 (gI s.2.2.2.2.2.2.1 s.2.2.2.2.2.2.2.2) (gT s.1 s.2.2.2.2.1 aV)) fun bq=>
 (.ret (.inl (s.1,s.2.1,y,bq,(w1 s.2.2.2.2.1),s.2.2.2.2.2.1,s.2.2.2.2.2.2.1,s.2.2.2.2.2.2.2.1,(w1 s.2.2.2.2.2.2.2.2)))))))))))))
 (.ret (.inr (Sum.inr ((s.1,s.2.1,s.2.2.1,s.2.2.2.1,s.2.2.2.2.1,s.2.2.2.2.2.1))))))
def xT (x:gB):aW:=⟨[.env],⟨dy 80 0 [(2,.v (.one (.ptr 9 0))),(4,.v (.one (.ptr 10 0))),(6,.v (.one (.full 11))),(7,.v (.one (.full 12))),(9,.v (.one (.ptr 13 0))),(10,.v (.one (.i .i64))),(34,.v (.one (.full 4))),(35,.v (.one (.i .i64))),(36,.v (.one (.i .i64)))],[.row cj 0,.row aH 0,.row cj 0,.row kB 0,.row (Ty.prod (Ty.sl yi) (Ty.prod (Ty.sl bZ) aH)) 0,.row (Ty.prod yi cj) 0,.cells [.full 0,.full 1,.full 2,.full 3] 41,.cells [.i .i64,.i .i64,.i .i64,.full 4,.full 5] 45,.eJ 8,.cells [.full 0,.full 1,.full 2,.full 3] 41,.cells [.raw,.raw,.raw,.raw,.raw,.raw] 70,.row bZ 2,.row yi 2,.cells [.full 0,.full 1,.full 2,.full 3,.mp 14,.mp 15] 70,.map Bool.false Bool.false yi yi,.map Bool.false Bool.true yi bZ],9,none,[12],[1,3,4,5,6,7,8,9,10,11,13,14,15,16,17,18],[19,20,21,22,0,2],[(.l bZ),(.l yi),(.l (.prod yi yi)),(.l (.prod yi bZ)),.i,.i],[.i (x.2.2.2.2.1.length:Int),.l cj x.1.1,.l aH x.1.2.1,.l cj x.1.2.2.1,.l kB x.1.2.2.2,.l (Ty.prod (Ty.sl yi) (Ty.prod (Ty.sl bZ) aH)) x.2.2.2.2.1,.l (Ty.prod yi cj) x.2.2.2.2.2,.i x.2.1,.i x.2.2.1,.i x.2.2.2.1,.v (.slice none 0 0),.v (.slice none 0 0),.v (.slice none 0 0),.v (.slice none 0 0),.v (Value.map Option.none),.v (Value.map Option.none)]⟩,[⟨.ret,.ret,⟨dy 80 0 [(4,.v (.one (.ptr 9 0))),(5,.v (.one (.b)))],[.row cj 0,.row aH 0,.row cj 0,.row kB 0,.row (Ty.prod (Ty.sl yi) (Ty.prod (Ty.sl bZ) aH)) 0,.row (Ty.prod yi cj) 0,.cells [.full 0,.full 1,.full 2,.full 3] 41,.cells [.i .i64,.i .i64,.i .i64,.full 4,.full 5] 45,.eJ 8,.cells [.full 0,.full 1,.full 2,.full 3,.mp 10,.mp 11] 70,.map Bool.false Bool.false yi yi,.map Bool.false Bool.true yi bZ],9,none,[10],[0,1,2,3,4,5,6,7,8,9],[11,12],[(.l (.prod yi yi)),(.l (.prod yi bZ))],[.b false,.l cj x.1.1,.l aH x.1.2.1,.l cj x.1.2.2.1,.l kB x.1.2.2.2,.l (Ty.prod (Ty.sl yi) (Ty.prod (Ty.sl bZ) aH)) x.2.2.2.2.1,.l (Ty.prod yi cj) x.2.2.2.2.2,.i x.2.1,.i x.2.2.1,.i x.2.2.2.1]⟩⟩,⟨(.exit 0),.normal,⟨dy 80 0 [(4,.v (.one (.ptr 9 0))),(9,.v (.one (.ptr 10 0)))],[.row cj 0,.row aH 0,.row cj 0,.row kB 0,.row (Ty.prod (Ty.sl yi) (Ty.prod (Ty.sl bZ) aH)) 0,.row (Ty.prod yi cj) 0,.cells [.full 0,.full 1,.full 2,.full 3] 41,.cells [.i .i64,.i .i64,.i .i64,.full 4,.full 5] 45,.eJ 8,.cells [.raw,.raw,.raw,.raw,.raw,.raw] 70,.cells [.full 0,.full 1,.full 2,.full 3,.mp 11,.mp 12] 70,.map Bool.false Bool.false yi yi,.map Bool.false Bool.true yi bZ],9,none,[9],[0,1,2,3,4,5,6,7,8,10,11,12,13,14,15],[16,17],[(.l (.prod yi yi)),(.l (.prod yi bZ))],[.l cj x.1.1,.l aH x.1.2.1,.l cj x.1.2.2.1,.l kB x.1.2.2.2,.l (Ty.prod (Ty.sl yi) (Ty.prod (Ty.sl bZ) aH)) x.2.2.2.2.1,.l (Ty.prod yi cj) x.2.2.2.2.2,.i x.2.1,.i x.2.2.1,.i x.2.2.2.1,.v (.slice none 0 0),.v (.slice none 0 0),.v (.slice none 0 0),.v (.slice none 0 0),.v (Value.map Option.none),.v (Value.map Option.none)]⟩⟩]⟩
abbrev qz1 (x:gB) (s:Lc):=(s.1,s.2.1,s.2.2.1,s.2.2.2.1,s.2.2.2.2.1,s.2.2.2.2.2,(x.2.2.2.2.1.getD s.2.2.2.2.2.toNat ([],[],(0:Int),(0:Int))).1,((x.2.2.2.2.1.getD s.2.2.2.2.2.toNat ([],[],(0:Int),(0:Int))).1.length:Int),(0:Int))
def fA (x:gB) (s:Lc):Lc⊕((List I2×List (Int×I6))⊕(List I2×List (Int×I6))):=
 (if (s.2.2.2.2.2<(x.2.2.2.2.1.length:Int)) then
 (au (run (cR x) (qz1 x s)) fun r=>
 (Sum.elim (fun a=>
 (Sum.inr (Sum.inl (a.1,a.2)))) (fun b=>
 (Sum.inl (b.1,b.2.1,b.2.2.1,b.2.2.2.1,b.2.2.2.2.1,(aj (b.2.2.2.2.2+1))))) r)) else
 (Sum.inr (Sum.inr ((s.2.2.1,s.2.2.2.1)))))
def kR (x:gB) (s:Lc):Prop:=
 ((s.2.2.2.2.2<(x.2.2.2.2.1.length:Int))->
 (((0<=s.2.2.2.2.2)/\ (s.2.2.2.2.2<(x.2.2.2.2.1.length:Int)))/\
 ((s.2.2.2.2.2.toNat<x.2.2.2.2.1.length)/\
 ((s.2.2.2.2.2.toNat<x.2.2.2.2.1.length)/\
 (Term (cR x) (iT x) (qz1 x s))))))
def sN (x:gB) (s:Lc):Tr (Lc⊕((List I2×List (Int×I6))⊕(List I2×List (Int×I6)))) true:=
 (.i10 (s.2.2.2.2.2<(nL x.2.2.2.2.1))
 (.lA s.2.2.2.2.2 x.2.2.2.2.1
 (aW.lp (xU x) (sO x) (s.1,s.2.1,s.2.2.1,s.2.2.2.1,s.2.2.2.2.1,s.2.2.2.2.2,(gT x.2.2.2.2.1 s.2.2.2.2.2 ([],[],aY)).1,(nL (gT x.2.2.2.2.1 s.2.2.2.2.2 ([],[],aY)).1),z0) fun r=>
 (.Bq r (fun a=>
 (.ret (.inr (Sum.inl (a.1,a.2))))) (fun b=>
 (.ret (.inl (b.1,b.2.1,b.2.2.1,b.2.2.2.1,b.2.2.2.2.1,(w1 b.2.2.2.2.2))))))))
 (.ret (.inr (Sum.inr ((s.2.2.1,s.2.2.2.1))))))
def uC (x:gB):aW:=⟨[.env],⟨dy 49 0 [(4,.v (.one (.ptr 9 0))),(5,.v (.one (.ptr 7 0))),(9,.v (.one (.ptr 19 0))),(10,.v (.one (.ptr 20 0))),(21,.v (.one (.i .i64)))],[.cells [.full 1,.full 2,.full 3,.full 4,.mp 5,.mp 6] 70,.row cj 0,.row aH 0,.row cj 0,.row kB 0,.map Bool.false Bool.false yi yi,.map Bool.false Bool.true yi bZ,.cells [.full 18] 23,.gone,.cells [.mp 10] 76,.map Bool.true Bool.false (Ty.prod aH aH) Ty.bool,.cells [.i .i64,.i .i64,.full 12] 78,.row yi 0,.row (Ty.prod yi (Ty.prod yi (Ty.sl yi))) 2,.alias 12 false,.gone,.cells [.full 1,.full 2,.full 3,.full 4,.mp 5,.mp 6] 70,.eJ 17,.row (Ty.prod aH aH) 2,.cells [.i .i64,.i .i64,.i .i64,.i .i64,.i .i64,.i .i64,.i .i64,.i .i64,.i .i64,.i .i64,.i .i64,.i .i64,.i .i64,.i .i64,.i .i64,.i .i64,.i .i64,.i .i64] 79,.cells [.i .i64,.i .i64,.i .i64,.i .i64,.i .i64,.i .i64,.i .i64,.i .i64,.i .i64,.i .i64,.i .i64,.i .i64,.i .i64,.i .i64,.i .i64,.i .i64,.i .i64,.i .i64] 79],18,none,[13],[1,2,3,4],[5,6,14,7,8,9,10,11,12,15,16,17,18,19,20,21,22,23,24,25,26,27,28,29,30,31,32,33,34,35,36,37,38,39,40,41,42,43,44,45,46,47,48,49,50,0],[(.l (.prod yi yi)),(.l (.prod yi bZ)),(.l (Ty.prod aH aH)),(.l (.prod (Ty.prod aH aH) Ty.bool)),.i,.i,(.l yi),(.l (Ty.prod yi (Ty.prod yi (Ty.sl yi)))),.n,.i,.i,.i,.i,.i,.i,.i,.i,.i,.i,.i,.i,.i,.i,.i,.i,.i,.i,.i,.i,.i,.i,.i,.i,.i,.i,.i,.i,.i,.i,.i,.i,.i,.i,.i,.i,.i],[.l cj x.1.1,.l aH x.1.2.1,.l cj x.1.2.2.1,.l kB x.1.2.2.2]⟩,[⟨(.exit 0),.normal,⟨dy 49 0 [],[.cells [.full 1,.full 2,.full 3,.full 4,.mp 5,.mp 6] 70,.row cj 0,.row aH 0,.row cj 0,.row kB 0,.map Bool.false Bool.false yi yi,.map Bool.false Bool.true yi bZ,.cells [.full 18] 23,.gone,.cells [.mp 10] 76,.map Bool.true Bool.false (Ty.prod aH aH) Ty.bool,.cells [.i .i64,.i .i64,.full 12] 78,.row yi 0,.row (Ty.prod yi (Ty.prod yi (Ty.sl yi))) 2,.alias 12 false,.gone,.cells [.full 1,.full 2,.full 3,.full 4,.mp 5,.mp 6] 70,.eJ 17,.row (Ty.prod aH aH) 2],18,none,[12],[0,1,2,3],[4,5,13,6,7,8,9,10,11],[(.l (.prod yi yi)),(.l (.prod yi bZ)),(.l (Ty.prod aH aH)),(.l (.prod (Ty.prod aH aH) Ty.bool)),.i,.i,(.l yi),(.l (Ty.prod yi (Ty.prod yi (Ty.sl yi)))),.n],[.l cj x.1.1,.l aH x.1.2.1,.l cj x.1.2.2.1,.l kB x.1.2.2.2]⟩⟩]⟩
abbrev XK (s:vQ):= [s.2.2.2.2.2.2.2.2.2.2.2.2.2.2.2.2.2.2.2.2.2.2.2.2.2.2.2.1,s.2.2.2.2.2.2.2.2.2.2.2.2.2.2.2.2.2.2.2.2.2.2.2.2.2.2.2.2.1,s.2.2.2.2.2.2.2.2.2.2.2.2.2.2.2.2.2.2.2.2.2.2.2.2.2.2.2.2.2.1,s.2.2.2.2.2.2.2.2.2.2.2.2.2.2.2.2.2.2.2.2.2.2.2.2.2.2.2.2.2.2.1,s.2.2.2.2.2.2.2.2.2.2.2.2.2.2.2.2.2.2.2.2.2.2.2.2.2.2.2.2.2.2.2.1,s.2.2.2.2.2.2.2.2.2.2.2.2.2.2.2.2.2.2.2.2.2.2.2.2.2.2.2.2.2.2.2.2.1,s.2.2.2.2.2.2.2.2.2.2.2.2.2.2.2.2.2.2.2.2.2.2.2.2.2.2.2.2.2.2.2.2.2.1,s.2.2.2.2.2.2.2.2.2.2.2.2.2.2.2.2.2.2.2.2.2.2.2.2.2.2.2.2.2.2.2.2.2.2.1,s.2.2.2.2.2.2.2.2.2.2.2.2.2.2.2.2.2.2.2.2.2.2.2.2.2.2.2.2.2.2.2.2.2.2.2.1,s.2.2.2.2.2.2.2.2.2.2.2.2.2.2.2.2.2.2.2.2.2.2.2.2.2.2.2.2.2.2.2.2.2.2.2.2.1,s.2.2.2.2.2.2.2.2.2.2.2.2.2.2.2.2.2.2.2.2.2.2.2.2.2.2.2.2.2.2.2.2.2.2.2.2.2.1,s.2.2.2.2.2.2.2.2.2.2.2.2.2.2.2.2.2.2.2.2.2.2.2.2.2.2.2.2.2.2.2.2.2.2.2.2.2.2.1,s.2.2.2.2.2.2.2.2.2.2.2.2.2.2.2.2.2.2.2.2.2.2.2.2.2.2.2.2.2.2.2.2.2.2.2.2.2.2.2.1,s.2.2.2.2.2.2.2.2.2.2.2.2.2.2.2.2.2.2.2.2.2.2.2.2.2.2.2.2.2.2.2.2.2.2.2.2.2.2.2.2.1,s.2.2.2.2.2.2.2.2.2.2.2.2.2.2.2.2.2.2.2.2.2.2.2.2.2.2.2.2.2.2.2.2.2.2.2.2.2.2.2.2.2.1,s.2.2.2.2.2.2.2.2.2.2.2.2.2.2.2.2.2.2.2.2.2.2.2.2.2.2.2.2.2.2.2.2.2.2.2.2.2.2.2.2.2.2.1,s.2.2.2.2.2.2.2.2.2.2.2.2.2.2.2.2.2.2.2.2.2.2.2.2.2.2.2.2.2.2.2.2.2.2.2.2.2.2.2.2.2.2.2.1,s.2.2.2.2.2.2.2.2.2.2.2.2.2.2.2.2.2.2.2.2.2.2.2.2.2.2.2.2.2.2.2.2.2.2.2.2.2.2.2.2.2.2.2.2.1]
abbrev XL (s:vQ):= [s.2.2.2.2.2.2.2.2.2.1,s.2.2.2.2.2.2.2.2.2.2.1,s.2.2.2.2.2.2.2.2.2.2.2.1,s.2.2.2.2.2.2.2.2.2.2.2.2.1,s.2.2.2.2.2.2.2.2.2.2.2.2.2.1,s.2.2.2.2.2.2.2.2.2.2.2.2.2.2.1,s.2.2.2.2.2.2.2.2.2.2.2.2.2.2.2.1,s.2.2.2.2.2.2.2.2.2.2.2.2.2.2.2.2.1,s.2.2.2.2.2.2.2.2.2.2.2.2.2.2.2.2.2.1,s.2.2.2.2.2.2.2.2.2.2.2.2.2.2.2.2.2.2.1,s.2.2.2.2.2.2.2.2.2.2.2.2.2.2.2.2.2.2.2.1,s.2.2.2.2.2.2.2.2.2.2.2.2.2.2.2.2.2.2.2.2.1,s.2.2.2.2.2.2.2.2.2.2.2.2.2.2.2.2.2.2.2.2.2.1,s.2.2.2.2.2.2.2.2.2.2.2.2.2.2.2.2.2.2.2.2.2.2.1,s.2.2.2.2.2.2.2.2.2.2.2.2.2.2.2.2.2.2.2.2.2.2.2.1,s.2.2.2.2.2.2.2.2.2.2.2.2.2.2.2.2.2.2.2.2.2.2.2.2.1,s.2.2.2.2.2.2.2.2.2.2.2.2.2.2.2.2.2.2.2.2.2.2.2.2.2.1,s.2.2.2.2.2.2.2.2.2.2.2.2.2.2.2.2.2.2.2.2.2.2.2.2.2.2.1]
abbrev qz4 (s:vQ):=(s.2.2.2.2.1,s.2.2.2.2.2.1,s.2.2.2.2.2.2.1,s.2.2.2.2.2.2.2.1,s.2.2.2.2.2.2.2.2.1,s.2.2.2.2.2.2.2.2.2.1,s.2.2.2.2.2.2.2.2.2.2.1,s.2.2.2.2.2.2.2.2.2.2.2.1,s.2.2.2.2.2.2.2.2.2.2.2.2.1,s.2.2.2.2.2.2.2.2.2.2.2.2.2.1,s.2.2.2.2.2.2.2.2.2.2.2.2.2.2.1,s.2.2.2.2.2.2.2.2.2.2.2.2.2.2.2.1,s.2.2.2.2.2.2.2.2.2.2.2.2.2.2.2.2.1,s.2.2.2.2.2.2.2.2.2.2.2.2.2.2.2.2.2.1,s.2.2.2.2.2.2.2.2.2.2.2.2.2.2.2.2.2.2.1,s.2.2.2.2.2.2.2.2.2.2.2.2.2.2.2.2.2.2.2.1,s.2.2.2.2.2.2.2.2.2.2.2.2.2.2.2.2.2.2.2.2.1,s.2.2.2.2.2.2.2.2.2.2.2.2.2.2.2.2.2.2.2.2.2.1,s.2.2.2.2.2.2.2.2.2.2.2.2.2.2.2.2.2.2.2.2.2.2.1,s.2.2.2.2.2.2.2.2.2.2.2.2.2.2.2.2.2.2.2.2.2.2.2.1,s.2.2.2.2.2.2.2.2.2.2.2.2.2.2.2.2.2.2.2.2.2.2.2.2.1,s.2.2.2.2.2.2.2.2.2.2.2.2.2.2.2.2.2.2.2.2.2.2.2.2.2.1,s.2.2.2.2.2.2.2.2.2.2.2.2.2.2.2.2.2.2.2.2.2.2.2.2.2.2.1,s.2.2.2.2.2.2.2.2.2.2.2.2.2.2.2.2.2.2.2.2.2.2.2.2.2.2.2.1,s.2.2.2.2.2.2.2.2.2.2.2.2.2.2.2.2.2.2.2.2.2.2.2.2.2.2.2.2.1,s.2.2.2.2.2.2.2.2.2.2.2.2.2.2.2.2.2.2.2.2.2.2.2.2.2.2.2.2.2.1,s.2.2.2.2.2.2.2.2.2.2.2.2.2.2.2.2.2.2.2.2.2.2.2.2.2.2.2.2.2.2.1,s.2.2.2.2.2.2.2.2.2.2.2.2.2.2.2.2.2.2.2.2.2.2.2.2.2.2.2.2.2.2.2.1,s.2.2.2.2.2.2.2.2.2.2.2.2.2.2.2.2.2.2.2.2.2.2.2.2.2.2.2.2.2.2.2.2.1,s.2.2.2.2.2.2.2.2.2.2.2.2.2.2.2.2.2.2.2.2.2.2.2.2.2.2.2.2.2.2.2.2.2.1,s.2.2.2.2.2.2.2.2.2.2.2.2.2.2.2.2.2.2.2.2.2.2.2.2.2.2.2.2.2.2.2.2.2.2.1,s.2.2.2.2.2.2.2.2.2.2.2.2.2.2.2.2.2.2.2.2.2.2.2.2.2.2.2.2.2.2.2.2.2.2.2.1,s.2.2.2.2.2.2.2.2.2.2.2.2.2.2.2.2.2.2.2.2.2.2.2.2.2.2.2.2.2.2.2.2.2.2.2.2.1,s.2.2.2.2.2.2.2.2.2.2.2.2.2.2.2.2.2.2.2.2.2.2.2.2.2.2.2.2.2.2.2.2.2.2.2.2.2.1,s.2.2.2.2.2.2.2.2.2.2.2.2.2.2.2.2.2.2.2.2.2.2.2.2.2.2.2.2.2.2.2.2.2.2.2.2.2.2.1,s.2.2.2.2.2.2.2.2.2.2.2.2.2.2.2.2.2.2.2.2.2.2.2.2.2.2.2.2.2.2.2.2.2.2.2.2.2.2.2.1,s.2.2.2.2.2.2.2.2.2.2.2.2.2.2.2.2.2.2.2.2.2.2.2.2.2.2.2.2.2.2.2.2.2.2.2.2.2.2.2.2.1,s.2.2.2.2.2.2.2.2.2.2.2.2.2.2.2.2.2.2.2.2.2.2.2.2.2.2.2.2.2.2.2.2.2.2.2.2.2.2.2.2.2.1,s.2.2.2.2.2.2.2.2.2.2.2.2.2.2.2.2.2.2.2.2.2.2.2.2.2.2.2.2.2.2.2.2.2.2.2.2.2.2.2.2.2.2.1,s.2.2.2.2.2.2.2.2.2.2.2.2.2.2.2.2.2.2.2.2.2.2.2.2.2.2.2.2.2.2.2.2.2.2.2.2.2.2.2.2.2.2.2.1,s.2.2.2.2.2.2.2.2.2.2.2.2.2.2.2.2.2.2.2.2.2.2.2.2.2.2.2.2.2.2.2.2.2.2.2.2.2.2.2.2.2.2.2.2.1,(aj (s.2.2.2.2.2.2.2.2.2.2.2.2.2.2.2.2.2.2.2.2.2.2.2.2.2.2.2.2.2.2.2.2.2.2.2.2.2.2.2.2.2.2.2.2.2+(1:Int))))
abbrev qz5 (s:vQ):=(s.2.2.2.2.1,s.2.2.2.2.2.1,s.2.2.2.2.2.2.1,s.2.2.2.2.2.2.2.1,s.2.2.2.2.2.2.2.2.1,s.2.2.2.2.2.2.2.2.2.1,s.2.2.2.2.2.2.2.2.2.2.1,s.2.2.2.2.2.2.2.2.2.2.2.1,s.2.2.2.2.2.2.2.2.2.2.2.2.1,s.2.2.2.2.2.2.2.2.2.2.2.2.2.1,s.2.2.2.2.2.2.2.2.2.2.2.2.2.2.1,s.2.2.2.2.2.2.2.2.2.2.2.2.2.2.2.1,s.2.2.2.2.2.2.2.2.2.2.2.2.2.2.2.2.1,s.2.2.2.2.2.2.2.2.2.2.2.2.2.2.2.2.2.1,s.2.2.2.2.2.2.2.2.2.2.2.2.2.2.2.2.2.2.1,s.2.2.2.2.2.2.2.2.2.2.2.2.2.2.2.2.2.2.2.1,s.2.2.2.2.2.2.2.2.2.2.2.2.2.2.2.2.2.2.2.2.1,s.2.2.2.2.2.2.2.2.2.2.2.2.2.2.2.2.2.2.2.2.2.1,s.2.2.2.2.2.2.2.2.2.2.2.2.2.2.2.2.2.2.2.2.2.2.1,s.2.2.2.2.2.2.2.2.2.2.2.2.2.2.2.2.2.2.2.2.2.2.2.1,s.2.2.2.2.2.2.2.2.2.2.2.2.2.2.2.2.2.2.2.2.2.2.2.2.1,s.2.2.2.2.2.2.2.2.2.2.2.2.2.2.2.2.2.2.2.2.2.2.2.2.2.1,s.2.2.2.2.2.2.2.2.2.2.2.2.2.2.2.2.2.2.2.2.2.2.2.2.2.2.1,s.2.2.2.2.2.2.2.2.2.2.2.2.2.2.2.2.2.2.2.2.2.2.2.2.2.2.2.1,s.2.2.2.2.2.2.2.2.2.2.2.2.2.2.2.2.2.2.2.2.2.2.2.2.2.2.2.2.1,s.2.2.2.2.2.2.2.2.2.2.2.2.2.2.2.2.2.2.2.2.2.2.2.2.2.2.2.2.2.1,s.2.2.2.2.2.2.2.2.2.2.2.2.2.2.2.2.2.2.2.2.2.2.2.2.2.2.2.2.2.2.1,s.2.2.2.2.2.2.2.2.2.2.2.2.2.2.2.2.2.2.2.2.2.2.2.2.2.2.2.2.2.2.2.1,s.2.2.2.2.2.2.2.2.2.2.2.2.2.2.2.2.2.2.2.2.2.2.2.2.2.2.2.2.2.2.2.2.1,s.2.2.2.2.2.2.2.2.2.2.2.2.2.2.2.2.2.2.2.2.2.2.2.2.2.2.2.2.2.2.2.2.2.1,s.2.2.2.2.2.2.2.2.2.2.2.2.2.2.2.2.2.2.2.2.2.2.2.2.2.2.2.2.2.2.2.2.2.2.1,s.2.2.2.2.2.2.2.2.2.2.2.2.2.2.2.2.2.2.2.2.2.2.2.2.2.2.2.2.2.2.2.2.2.2.2.1,s.2.2.2.2.2.2.2.2.2.2.2.2.2.2.2.2.2.2.2.2.2.2.2.2.2.2.2.2.2.2.2.2.2.2.2.2.1,s.2.2.2.2.2.2.2.2.2.2.2.2.2.2.2.2.2.2.2.2.2.2.2.2.2.2.2.2.2.2.2.2.2.2.2.2.2.1,s.2.2.2.2.2.2.2.2.2.2.2.2.2.2.2.2.2.2.2.2.2.2.2.2.2.2.2.2.2.2.2.2.2.2.2.2.2.2.1,s.2.2.2.2.2.2.2.2.2.2.2.2.2.2.2.2.2.2.2.2.2.2.2.2.2.2.2.2.2.2.2.2.2.2.2.2.2.2.2.1,s.2.2.2.2.2.2.2.2.2.2.2.2.2.2.2.2.2.2.2.2.2.2.2.2.2.2.2.2.2.2.2.2.2.2.2.2.2.2.2.2.1,s.2.2.2.2.2.2.2.2.2.2.2.2.2.2.2.2.2.2.2.2.2.2.2.2.2.2.2.2.2.2.2.2.2.2.2.2.2.2.2.2.2.1,s.2.2.2.2.2.2.2.2.2.2.2.2.2.2.2.2.2.2.2.2.2.2.2.2.2.2.2.2.2.2.2.2.2.2.2.2.2.2.2.2.2.2.1,s.2.2.2.2.2.2.2.2.2.2.2.2.2.2.2.2.2.2.2.2.2.2.2.2.2.2.2.2.2.2.2.2.2.2.2.2.2.2.2.2.2.2.2.1,s.2.2.2.2.2.2.2.2.2.2.2.2.2.2.2.2.2.2.2.2.2.2.2.2.2.2.2.2.2.2.2.2.2.2.2.2.2.2.2.2.2.2.2.2.1,(w1 s.2.2.2.2.2.2.2.2.2.2.2.2.2.2.2.2.2.2.2.2.2.2.2.2.2.2.2.2.2.2.2.2.2.2.2.2.2.2.2.2.2.2.2.2.2))
abbrev Vk (s:vQ):=(0+(s.2.2.2.2.2.2.2.2.2.2.2.2.2.2.2.2.2.2.2.2.2.2.2.2.2.2.2.2.2.2.2.2.2.2.2.2.2.2.2.2.2.2.2.2.2.toNat*2))
abbrev Vl (s:vQ):=(0+((tN s.2.2.2.2.2.2.2.2.2.2.2.2.2.2.2.2.2.2.2.2.2.2.2.2.2.2.2.2.2.2.2.2.2.2.2.2.2.2.2.2.2.2.2.2.2)*2))
abbrev qz8 (s:vQ):=(((List.getD (XL s) (Vk s) (0:Int)),(List.getD (XL s) ((Vk s)+1) (0:Int))),(List.getD (XK s) (Vk s) (0:Int)),(List.getD (XK s) ((Vk s)+1) (0:Int)))
abbrev qz9 (s:vQ):=(((List.getD (XL s) (Vl s) z0),(List.getD (XL s) ((Vl s)+1) z0)),(List.getD (XK s) (Vl s) z0),(List.getD (XK s) ((Vl s)+1) z0))
abbrev abG (s:vQ):=(!(((List.getD (XL s) (Vk s) (0:Int))==(List.getD (XK s) (Vk s) (0:Int)))&&(((List.getD (XL s) ((Vk s)+1) (0:Int))==(List.getD (XK s) ((Vk s)+1) (0:Int)))&&true)))
abbrev abH (s:vQ):=((s.1,s.2.1,s.2.2.1,s.2.2.2.1,s.2.2.2.2.1,s.2.2.2.2.2.1,s.2.2.2.2.2.2.1,s.2.2.2.2.2.2.2.1,s.2.2.2.2.2.2.2.2.1))
def dg (x:gB) (s:vQ):vQ⊕(List I2×List (Int×I6)×List (I2×I2)×List ((I2×I2)×Bool)×Int×Int×List Int×List (Int×Int×List Int)×Nat):=
 (if (s.2.2.2.2.2.2.2.2.2.2.2.2.2.2.2.2.2.2.2.2.2.2.2.2.2.2.2.2.2.2.2.2.2.2.2.2.2.2.2.2.2.2.2.2.2<9) then
 (if ((abG s)=true) then
 (au (aU (k:=(Ty.prod aH aH)) s.2.2.2.1 (qz8 s) false) fun y=>
 (if ((!y)=true) then
 (au (bU (k:=(Ty.prod aH aH)) s.2.2.2.1 (qz8 s) true) fun bq=>
 (Sum.inl (s.1,s.2.1,(s.2.2.1++ [(qz8 s)]),bq,(qz4 s)))) else
 (Sum.inl (s.1,s.2.1,s.2.2.1,s.2.2.2.1,(qz4 s))))) else
 (Sum.inl (s.1,s.2.1,s.2.2.1,s.2.2.2.1,(qz4 s)))) else
 (Sum.inr (abH s)))
def fB (x:gB) (s:vQ):Prop:=
 ((s.2.2.2.2.2.2.2.2.2.2.2.2.2.2.2.2.2.2.2.2.2.2.2.2.2.2.2.2.2.2.2.2.2.2.2.2.2.2.2.2.2.2.2.2.2<9)->
 (((0<=s.2.2.2.2.2.2.2.2.2.2.2.2.2.2.2.2.2.2.2.2.2.2.2.2.2.2.2.2.2.2.2.2.2.2.2.2.2.2.2.2.2.2.2.2.2)/\ (s.2.2.2.2.2.2.2.2.2.2.2.2.2.2.2.2.2.2.2.2.2.2.2.2.2.2.2.2.2.2.2.2.2.2.2.2.2.2.2.2.2.2.2.2.2<9))/\
 ((((Vk s)+2)<=18)/\
 (((0<=s.2.2.2.2.2.2.2.2.2.2.2.2.2.2.2.2.2.2.2.2.2.2.2.2.2.2.2.2.2.2.2.2.2.2.2.2.2.2.2.2.2.2.2.2.2)/\ (s.2.2.2.2.2.2.2.2.2.2.2.2.2.2.2.2.2.2.2.2.2.2.2.2.2.2.2.2.2.2.2.2.2.2.2.2.2.2.2.2.2.2.2.2.2<9))/\
 ((((Vk s)+2)<=18)/\
 (((abG s)=true)->
 (aM (aU (k:=(Ty.prod aH aH)) s.2.2.2.1 (qz8 s) false) fun y=>
 (((!y)=true)->
 (aM (bU (k:=(Ty.prod aH aH)) s.2.2.2.1 (qz8 s) true) fun bq=>
 ((s.2.2.1.length+1)<1099511627776))))))))))
def q6 (x:gB) (s:vQ):Tr (vQ⊕(List I2×List (Int×I6)×List (I2×I2)×List ((I2×I2)×Bool)×Int×Int×List Int×List (Int×Int×List Int)×Nat)) true:=
 (.i10 (s.2.2.2.2.2.2.2.2.2.2.2.2.2.2.2.2.2.2.2.2.2.2.2.2.2.2.2.2.2.2.2.2.2.2.2.2.2.2.2.2.2.2.2.2.2<9)
 (.oR s.2.2.2.2.2.2.2.2.2.2.2.2.2.2.2.2.2.2.2.2.2.2.2.2.2.2.2.2.2.2.2.2.2.2.2.2.2.2.2.2.2.2.2.2.2 9
 (.od (((Vl s)+2)<=18)
 (.oR s.2.2.2.2.2.2.2.2.2.2.2.2.2.2.2.2.2.2.2.2.2.2.2.2.2.2.2.2.2.2.2.2.2.2.2.2.2.2.2.2.2.2.2.2.2 9
 (.od (((Vl s)+2)<=18)
 (.Es (!(((List.getD (XL s) (Vl s) z0)==(List.getD (XK s) (Vl s) z0))&&(((List.getD (XL s) ((Vl s)+1) z0)==(List.getD (XK s) ((Vl s)+1) z0))&&true)))
 (.fact (jL tt 33 (Ty.prod aH aH)) Tj
 (.lt (aU (k:=(Ty.prod aH aH)) s.2.2.2.1 (qz9 s) false) fun y=>
 (.Es (!y)
 (.fact (jL tt 33 (Ty.prod aH aH)) Tj
 (.lt (bU (k:=(Ty.prod aH aH)) s.2.2.2.1 (qz9 s) true) fun bq=>
 (.od ((s.2.2.1.length+1)<1099511627776)
 (.ret (.inl (s.1,s.2.1,(s.2.2.1++ [(qz9 s)]),bq,(qz5 s)))))))
 (.ret (.inl (s.1,s.2.1,s.2.2.1,s.2.2.2.1,(qz5 s)))))))
 (.ret (.inl (s.1,s.2.1,s.2.2.1,s.2.2.2.1,(qz5 s)))))))))
 (.ret (.inr (abH s))))
def lW (x:gB):aW:=⟨[],⟨dy 74 0 [(6,.v (.one (.ptr 0 0))),(11,.v (.one (.ptr 7 0))),(12,.v (.one (.eN 27 0 [.loc 0 0,.loc 9 0,.loc 7 0]))),(14,.v (.one (.ptr 11 0))),(16,.v (.one (.i .i64))),(37,.v (.one (.full 13))),(38,.v (.one (.i .i64))),(39,.v (.one (.i .i64))),(44,.v (.one (.full 12))),(45,.v (.one (.i .i64))),(46,.v (.one (.i .i64))),(55,.v (.one (.full 14))),(56,.v (.one (.i .i64))),(57,.v (.one (.i .i64)))],[.cells [.full 1,.full 2,.full 3,.full 4,.mp 5,.mp 6] 70,.row cj 0,.row aH 0,.row cj 0,.row kB 0,.map Bool.false Bool.false yi yi,.map Bool.false Bool.true yi bZ,.cells [.full 8] 23,.row (Ty.prod aH aH) 2,.cells [.mp 10] 76,.map Bool.true Bool.false (Ty.prod aH aH) Ty.bool,.cells [.i .i64,.i .i64,.full 12] 78,.row yi 0,.row (Ty.prod yi (Ty.prod yi (Ty.sl yi))) 2,.alias 12 false],0,none,[],[7,8,9,10],[11,12,13,14,15,16,17,0,18,1,2,3,4,19,5,6],[(.l (.prod yi yi)),(.l (.prod yi bZ)),(.l (Ty.prod aH aH)),(.l (.prod (Ty.prod aH aH) Ty.bool)),.i,.i,(.l yi),.i,(.l (Ty.prod yi (Ty.prod yi (Ty.sl yi)))),.i,.i,.i,.i,.n,.i,.i],[.l cj x.1.1,.l aH x.1.2.1,.l cj x.1.2.2.1,.l kB x.1.2.2.2]⟩,[⟨(.exit 4),.normal,⟨dy 74 0 [(6,.v (.one (.ptr 0 0))),(11,.v (.one (.ptr 7 0))),(12,.v (.one (.eN 27 0 [.loc 0 0,.loc 9 0,.loc 7 0]))),(14,.v (.one (.ptr 11 0))),(37,.v (.one (.full 13))),(38,.v (.one (.i .i64))),(39,.v (.one (.i .i64))),(44,.v (.one (.full 12))),(45,.v (.one (.i .i64))),(46,.v (.one (.i .i64)))],[.cells [.full 1,.full 2,.full 3,.full 4,.mp 5,.mp 6] 70,.row cj 0,.row aH 0,.row cj 0,.row kB 0,.map Bool.false Bool.false yi yi,.map Bool.false Bool.true yi bZ,.cells [.full 8] 23,.row (Ty.prod aH aH) 2,.cells [.mp 10] 76,.map Bool.true Bool.false (Ty.prod aH aH) Ty.bool,.cells [.i .i64,.i .i64,.full 12] 78,.row yi 0,.row (Ty.prod yi (Ty.prod yi (Ty.sl yi))) 2],0,none,[],[4,5,6,7],[8,9,10,11,12,13,14,15,0,1,2,3],[(.l (.prod yi yi)),(.l (.prod yi bZ)),(.l (Ty.prod aH aH)),(.l (.prod (Ty.prod aH aH) Ty.bool)),.i,.i,(.l yi),(.l (Ty.prod yi (Ty.prod yi (Ty.sl yi)))),.i,.i,.i,.i],[.l cj x.1.1,.l aH x.1.2.1,.l cj x.1.2.2.1,.l kB x.1.2.2.2]⟩⟩]⟩
abbrev sK (s:vR):=(s.2.2.2.2.2.2.1.getD (s.2.2.2.2.2.2.2.2.2.2.2.2.2.1+s.2.2.2.2.2.2.2.2.2.2.2.2.2.2.2.toNat) (0:Int))
abbrev ry (x:gB) (s:vR):=(x.1.2.2.2.getD (Int.toNat (sK s)) (((0:Int),(0:Int),(0:Int)),((0:Int),(0:Int),(0:Int)),(0:Int),(0:Int),(0:Int)))
abbrev WG (x:gB) (s:vR):=(au (iE ([(ry x s).1,(ry x s).2.1,(ry x s).2.2],s.2.2.2.2.1)) fun bn=>
 (au (aU (k:=yi) s.2.1 (sK s) (((0:Int),(0:Int)),((0:Int),(0:Int)),(0:Int),(0:Int))) fun bz=>
 (au (iE ([(ry x s).1,(ry x s).2.1,(ry x s).2.2],s.2.2.2.2.2.1)) fun bN=>
 (au (aU (k:=yi) s.2.1 (sK s) (((0:Int),(0:Int)),((0:Int),(0:Int)),(0:Int),(0:Int))) fun cC=>
 (au (along ((cQ bz bn),(cQ cC bN),(0:Int))) fun Ln=>
 (au (bM Ln.1) fun Rw=>
 (au (along ((cQ bz bn),(cQ cC bN),(1:Int))) fun Bs=>
 (au (bM Bs.1) fun Bt=>
 (au (along ((cQ bz bn),(cQ cC bN),(2:Int))) fun Bu=>
 (au (bM Bu.1) fun Bv=>
 (au (along ((cQ bz bn),(cQ cC bN),(3:Int))) fun Bw=>
 (au (bM Bw.1) fun By=>
 (au (along ((cQ bz bn),(cQ cC bN),(4:Int))) fun Bz=>
 (au (bM Bz.1) fun BA=>
 (au (along ((cQ bz bn),(cQ cC bN),(5:Int))) fun BB=>
 (au (bM BB.1) fun BD=>
 (au (along ((cQ bz bn),(cQ cC bN),(6:Int))) fun BE=>
 (au (bM BE.1) fun BF=>
 (au (along ((cQ bz bn),(cQ cC bN),(7:Int))) fun BG=>
 (au (bM BG.1) fun EX=>
 (au (along ((cQ bz bn),(cQ cC bN),(8:Int))) fun IL=>
 (au (bM IL.1) fun U3=>
 ((Rw.1,Rw.2.1),(Bt.1,Bt.2.1),(Bv.1,Bv.2.1),(By.1,By.2.1),(BA.1,BA.2.1),(BD.1,BD.2.1),(BF.1,BF.2.1),(EX.1,EX.2.1),U3.1,U3.2.1)))))))))))))))))))))))
abbrev ru (x:gB) (s:vR):=(x.1.2.2.2.getD s.2.2.2.2.2.2.2.1.toNat (((0:Int),(0:Int),(0:Int)),((0:Int),(0:Int),(0:Int)),(0:Int),(0:Int),(0:Int)))
abbrev WH (x:gB) (s:vR):=(au (iE ([(ru x s).1,(ru x s).2.1,(ru x s).2.2],s.2.2.2.2.1)) fun bJ=>
 (au (aU (k:=yi) s.2.1 s.2.2.2.2.2.2.2.1 (((0:Int),(0:Int)),((0:Int),(0:Int)),(0:Int),(0:Int))) fun bn=>
 (au (iE ([(ru x s).1,(ru x s).2.1,(ru x s).2.2],s.2.2.2.2.2.1)) fun bz=>
 (au (aU (k:=yi) s.2.1 s.2.2.2.2.2.2.2.1 (((0:Int),(0:Int)),((0:Int),(0:Int)),(0:Int),(0:Int))) fun bN=>
 (au (along ((cQ bn bJ),(cQ bN bz),(0:Int))) fun cC=>
 (au (bM cC.1) fun Ln=>
 (au (along ((cQ bn bJ),(cQ bN bz),(1:Int))) fun Rw=>
 (au (bM Rw.1) fun Bs=>
 (au (along ((cQ bn bJ),(cQ bN bz),(2:Int))) fun Bt=>
 (au (bM Bt.1) fun Bu=>
 (au (along ((cQ bn bJ),(cQ bN bz),(3:Int))) fun Bv=>
 (au (bM Bv.1) fun Bw=>
 (au (along ((cQ bn bJ),(cQ bN bz),(4:Int))) fun By=>
 (au (bM By.1) fun Bz=>
 (au (along ((cQ bn bJ),(cQ bN bz),(5:Int))) fun BA=>
 (au (bM BA.1) fun BB=>
 (au (along ((cQ bn bJ),(cQ bN bz),(6:Int))) fun BD=>
 (au (bM BD.1) fun BE=>
 (au (along ((cQ bn bJ),(cQ bN bz),(7:Int))) fun BF=>
 (au (bM BF.1) fun BG=>
 (au (along ((cQ bn bJ),(cQ bN bz),(8:Int))) fun EX=>
 (au (bM EX.1) fun IL=>
 ((Ln.1,Ln.2.1),(Bs.1,Bs.2.1),(Bu.1,Bu.2.1),(Bw.1,Bw.2.1),(Bz.1,Bz.2.1),(BB.1,BB.2.1),(BE.1,BE.2.1),(BG.1,BG.2.1),IL.1,IL.2.1)))))))))))))))))))))))
abbrev Bp (s:vR):=(s.2.2.2.2.2.2.1.getD (s.2.2.2.2.2.2.2.2.2.2.2.2.2.1+(tN s.2.2.2.2.2.2.2.2.2.2.2.2.2.2.2)) z0)
abbrev Zd (s:vR):=(s.1,s.2.1,s.2.2.1,s.2.2.2.1,s.2.2.2.2.1,s.2.2.2.2.2.1,s.2.2.2.2.2.2.1,s.2.2.2.2.2.2.2.1,s.2.2.2.2.2.2.2.2.1,s.2.2.2.2.2.2.2.2.2.1,s.2.2.2.2.2.2.2.2.2.2.1,s.2.2.2.2.2.2.2.2.2.2.2.1,s.2.2.2.2.2.2.2.2.2.2.2.2.1,s.2.2.2.2.2.2.2.2.2.2.2.2.2.1,s.2.2.2.2.2.2.2.2.2.2.2.2.2.2.1,(aj (s.2.2.2.2.2.2.2.2.2.2.2.2.2.2.2+(1:Int))))
abbrev Ze (s:vR):vR⊕Lb:=(.inl (s.1,s.2.1,s.2.2.1,s.2.2.2.1,s.2.2.2.2.1,s.2.2.2.2.2.1,s.2.2.2.2.2.2.1,s.2.2.2.2.2.2.2.1,s.2.2.2.2.2.2.2.2.1,s.2.2.2.2.2.2.2.2.2.1,s.2.2.2.2.2.2.2.2.2.2.1,s.2.2.2.2.2.2.2.2.2.2.2.1,s.2.2.2.2.2.2.2.2.2.2.2.2.1,s.2.2.2.2.2.2.2.2.2.2.2.2.2.1,s.2.2.2.2.2.2.2.2.2.2.2.2.2.2.1,(w1 s.2.2.2.2.2.2.2.2.2.2.2.2.2.2.2)))
abbrev abI (s:vR):=((s.1,s.2.1,s.2.2.1,s.2.2.2.1,s.2.2.2.2.1,s.2.2.2.2.2.1,s.2.2.2.2.2.2.1,s.2.2.2.2.2.2.2.2.1,s.2.2.2.2.2.2.2.2.2.1,s.2.2.2.2.2.2.2.2.2.2.1,s.2.2.2.2.2.2.2.2.2.2.2.1,s.2.2.2.2.2.2.2.2.2.2.2.2.1))
abbrev abJ (x:gB) (s:vR):= [(gT x.1.2.2.2 s.2.2.2.2.2.2.2.1 vW).1,(gT x.1.2.2.2 s.2.2.2.2.2.2.2.1 vW).2.1,(gT x.1.2.2.2 s.2.2.2.2.2.2.2.1 vW).2.2]
def gV (x:gB) (s:vR):vR⊕Lb:=
 (if (s.2.2.2.2.2.2.2.2.2.2.2.2.2.2.2<s.2.2.2.2.2.2.2.2.2.2.2.2.2.2.1) then
 (au (aU (k:=yi) s.1 s.2.2.2.2.2.2.2.1 0) fun y=>
 (au (aU (k:=yi) s.1 (sK s) 0) fun bq=>
 (if ((nj (k:=yi) s.1 s.2.2.2.2.2.2.2.1)=true) then
 (if ((nj (k:=yi) s.1 (sK s))=true) then
 (if ((y !=bq)=true) then
 (au (WH x s) fun y_2=>
 (au (WG x s) fun bJ=>
 (au (run (dg x) (s.1,s.2.1,s.2.2.1,s.2.2.2.1,s.2.2.2.2.1,s.2.2.2.2.2.1,s.2.2.2.2.2.2.1,s.2.2.2.2.2.2.2.2.1,s.2.2.2.2.2.2.2.2.2.2.2.2.2.1,y_2.1.1,y_2.1.2,y_2.2.1.1,y_2.2.1.2,y_2.2.2.1.1,y_2.2.2.1.2,y_2.2.2.2.1.1,y_2.2.2.2.1.2,y_2.2.2.2.2.1.1,y_2.2.2.2.2.1.2,y_2.2.2.2.2.2.1.1,y_2.2.2.2.2.2.1.2,y_2.2.2.2.2.2.2.1.1,y_2.2.2.2.2.2.2.1.2,y_2.2.2.2.2.2.2.2.1.1,y_2.2.2.2.2.2.2.2.1.2,y_2.2.2.2.2.2.2.2.2.1,y_2.2.2.2.2.2.2.2.2.2,bJ.1.1,bJ.1.2,bJ.2.1.1,bJ.2.1.2,bJ.2.2.1.1,bJ.2.2.1.2,bJ.2.2.2.1.1,bJ.2.2.2.1.2,bJ.2.2.2.2.1.1,bJ.2.2.2.2.1.2,bJ.2.2.2.2.2.1.1,bJ.2.2.2.2.2.1.2,bJ.2.2.2.2.2.2.1.1,bJ.2.2.2.2.2.2.1.2,bJ.2.2.2.2.2.2.2.1.1,bJ.2.2.2.2.2.2.2.1.2,bJ.2.2.2.2.2.2.2.2.1,bJ.2.2.2.2.2.2.2.2.2,0)) fun r=>
 (Sum.inl (r.1,r.2.1,r.2.2.1,r.2.2.2.1,r.2.2.2.2.1,r.2.2.2.2.2.1,r.2.2.2.2.2.2.1,s.2.2.2.2.2.2.2.1,r.2.2.2.2.2.2.2.1,s.2.2.2.2.2.2.2.2.2.1,s.2.2.2.2.2.2.2.2.2.2.1,s.2.2.2.2.2.2.2.2.2.2.2.1,s.2.2.2.2.2.2.2.2.2.2.2.2.1,r.2.2.2.2.2.2.2.2,s.2.2.2.2.2.2.2.2.2.2.2.2.2.2.1,(aj (s.2.2.2.2.2.2.2.2.2.2.2.2.2.2.2+1))))))) else
 (Sum.inl (Zd s))) else
 (Sum.inl (Zd s))) else
 (Sum.inl (Zd s))))) else
 (Sum.inr (abI s)))
def mE (x:gB) (s:vR):Prop:=
 ((s.2.2.2.2.2.2.2.2.2.2.2.2.2.2.2<s.2.2.2.2.2.2.2.2.2.2.2.2.2.2.1)->
 (((0<=s.2.2.2.2.2.2.2.2.2.2.2.2.2.2.2)/\ (s.2.2.2.2.2.2.2.2.2.2.2.2.2.2.2<(((s.2.2.2.2.2.2.1.length- s.2.2.2.2.2.2.2.2.2.2.2.2.2.1):Nat):Int)))/\
 (((s.2.2.2.2.2.2.2.2.2.2.2.2.2.1+s.2.2.2.2.2.2.2.2.2.2.2.2.2.2.2.toNat)<s.2.2.2.2.2.2.1.length)/\
 (((s.2.2.2.2.2.2.2.2.2.2.2.2.2.1+s.2.2.2.2.2.2.2.2.2.2.2.2.2.2.2.toNat)<s.2.2.2.2.2.2.1.length)/\
 (aM (aU (k:=yi) s.1 s.2.2.2.2.2.2.2.1 0) fun y=>
 (aM (aU (k:=yi) s.1 (sK s) 0) fun bq=>
 (((nj (k:=yi) s.1 s.2.2.2.2.2.2.2.1)=true)->
 (((nj (k:=yi) s.1 (sK s))=true)->
 (((y !=bq)=true)->
 ((∀(e:Env) (XX:Nat->Prop),(((0<=s.2.2.2.2.2.2.2.1)/\ (s.2.2.2.2.2.2.2.1<(x.1.2.2.2.length:Int)))/\
 ((s.2.2.2.2.2.2.2.1.toNat<x.1.2.2.2.length)/\
 ((s.2.2.2.2.2.2.2.1.toNat<x.1.2.2.2.length)/\
 ((eR ([(ru x s).1,(ru x s).2.1,(ru x s).2.2],s.2.2.2.2.1))/\
 aM (iE ([(ru x s).1,(ru x s).2.1,(ru x s).2.2],s.2.2.2.2.1)) fun bJ=>
 (aM (aU (k:=yi) s.2.1 s.2.2.2.2.2.2.2.1 ((0,0),(0,0),0,0)) fun bn=>
 (((0<=bJ)/\ (bJ<3))/\
 (((0<=s.2.2.2.2.2.2.2.1)/\ (s.2.2.2.2.2.2.2.1<(x.1.2.2.2.length:Int)))/\
 ((s.2.2.2.2.2.2.2.1.toNat<x.1.2.2.2.length)/\
 ((s.2.2.2.2.2.2.2.1.toNat<x.1.2.2.2.length)/\
 ((eR ([(ru x s).1,(ru x s).2.1,(ru x s).2.2],s.2.2.2.2.2.1))/\
 aM (iE ([(ru x s).1,(ru x s).2.1,(ru x s).2.2],s.2.2.2.2.2.1)) fun bz=>
 (aM (aU (k:=yi) s.2.1 s.2.2.2.2.2.2.2.1 ((0,0),(0,0),0,0)) fun bN=>
 (((0<=bz)/\ (bz<3))/\
 ((bt ((cQ bn bJ),(cQ bN bz),0))/\
 aM (along ((cQ bn bJ),(cQ bN bz),0)) fun cC=>
 (aM (bM cC.1) fun Ln=>
 ((bt ((cQ bn bJ),(cQ bN bz),1))/\
 aM (along ((cQ bn bJ),(cQ bN bz),1)) fun Rw=>
 (aM (bM Rw.1) fun Bs=>
 ((bt ((cQ bn bJ),(cQ bN bz),2))/\
 aM (along ((cQ bn bJ),(cQ bN bz),2)) fun Bt=>
 (aM (bM Bt.1) fun Bu=>
 ((bt ((cQ bn bJ),(cQ bN bz),3))/\
 aM (along ((cQ bn bJ),(cQ bN bz),3)) fun Bv=>
 (aM (bM Bv.1) fun Bw=>
 ((bt ((cQ bn bJ),(cQ bN bz),4))/\
 aM (along ((cQ bn bJ),(cQ bN bz),4)) fun By=>
 (aM (bM By.1) fun Bz=>
 ((bt ((cQ bn bJ),(cQ bN bz),5))/\
 aM (along ((cQ bn bJ),(cQ bN bz),5)) fun BA=>
 (aM (bM BA.1) fun BB=>
 ((bt ((cQ bn bJ),(cQ bN bz),6))/\
 aM (along ((cQ bn bJ),(cQ bN bz),6)) fun BD=>
 (aM (bM BD.1) fun BE=>
 ((bt ((cQ bn bJ),(cQ bN bz),7))/\
 aM (along ((cQ bn bJ),(cQ bN bz),7)) fun BF=>
 (aM (bM BF.1) fun BG=>
 (bt ((cQ bn bJ),(cQ bN bz),8))))))))))))))))))))))))))))))/\ (WH x s)=(WH x s))/\
 aM (WH x s) fun y_2=>
 ((∀(e:Env) (XX:Nat->Prop),(((0<=(sK s))/\ ((sK s)<(x.1.2.2.2.length:Int)))/\
 (((Int.toNat (sK s))<x.1.2.2.2.length)/\
 (((Int.toNat (sK s))<x.1.2.2.2.length)/\
 ((eR ([(ry x s).1,(ry x s).2.1,(ry x s).2.2],s.2.2.2.2.1))/\
 aM (iE ([(ry x s).1,(ry x s).2.1,(ry x s).2.2],s.2.2.2.2.1)) fun bn=>
 (aM (aU (k:=yi) s.2.1 (sK s) ((0,0),(0,0),0,0)) fun bz=>
 (((0<=bn)/\ (bn<3))/\
 (((0<=(sK s))/\ ((sK s)<(x.1.2.2.2.length:Int)))/\
 (((Int.toNat (sK s))<x.1.2.2.2.length)/\
 (((Int.toNat (sK s))<x.1.2.2.2.length)/\
 ((eR ([(ry x s).1,(ry x s).2.1,(ry x s).2.2],s.2.2.2.2.2.1))/\
 aM (iE ([(ry x s).1,(ry x s).2.1,(ry x s).2.2],s.2.2.2.2.2.1)) fun bN=>
 (aM (aU (k:=yi) s.2.1 (sK s) ((0,0),(0,0),0,0)) fun cC=>
 (((0<=bN)/\ (bN<3))/\
 ((bt ((cQ bz bn),(cQ cC bN),0))/\
 aM (along ((cQ bz bn),(cQ cC bN),0)) fun Ln=>
 (aM (bM Ln.1) fun Rw=>
 ((bt ((cQ bz bn),(cQ cC bN),1))/\
 aM (along ((cQ bz bn),(cQ cC bN),1)) fun Bs=>
 (aM (bM Bs.1) fun Bt=>
 ((bt ((cQ bz bn),(cQ cC bN),2))/\
 aM (along ((cQ bz bn),(cQ cC bN),2)) fun Bu=>
 (aM (bM Bu.1) fun Bv=>
 ((bt ((cQ bz bn),(cQ cC bN),3))/\
 aM (along ((cQ bz bn),(cQ cC bN),3)) fun Bw=>
 (aM (bM Bw.1) fun By=>
 ((bt ((cQ bz bn),(cQ cC bN),4))/\
 aM (along ((cQ bz bn),(cQ cC bN),4)) fun Bz=>
 (aM (bM Bz.1) fun BA=>
 ((bt ((cQ bz bn),(cQ cC bN),5))/\
 aM (along ((cQ bz bn),(cQ cC bN),5)) fun BB=>
 (aM (bM BB.1) fun BD=>
 ((bt ((cQ bz bn),(cQ cC bN),6))/\
 aM (along ((cQ bz bn),(cQ cC bN),6)) fun BE=>
 (aM (bM BE.1) fun BF=>
 ((bt ((cQ bz bn),(cQ cC bN),7))/\
 aM (along ((cQ bz bn),(cQ cC bN),7)) fun BG=>
 (aM (bM BG.1) fun EX=>
 (bt ((cQ bz bn),(cQ cC bN),8))))))))))))))))))))))))))))))/\ (WG x s)=(WG x s))/\
 aM (WG x s) fun bJ=>
 (Term (dg x) (fB x) (s.1,s.2.1,s.2.2.1,s.2.2.2.1,s.2.2.2.2.1,s.2.2.2.2.2.1,s.2.2.2.2.2.2.1,s.2.2.2.2.2.2.2.2.1,s.2.2.2.2.2.2.2.2.2.2.2.2.2.1,y_2.1.1,y_2.1.2,y_2.2.1.1,y_2.2.1.2,y_2.2.2.1.1,y_2.2.2.1.2,y_2.2.2.2.1.1,y_2.2.2.2.1.2,y_2.2.2.2.2.1.1,y_2.2.2.2.2.1.2,y_2.2.2.2.2.2.1.1,y_2.2.2.2.2.2.1.2,y_2.2.2.2.2.2.2.1.1,y_2.2.2.2.2.2.2.1.2,y_2.2.2.2.2.2.2.2.1.1,y_2.2.2.2.2.2.2.2.1.2,y_2.2.2.2.2.2.2.2.2.1,y_2.2.2.2.2.2.2.2.2.2,bJ.1.1,bJ.1.2,bJ.2.1.1,bJ.2.1.2,bJ.2.2.1.1,bJ.2.2.1.2,bJ.2.2.2.1.1,bJ.2.2.2.1.2,bJ.2.2.2.2.1.1,bJ.2.2.2.2.1.2,bJ.2.2.2.2.2.1.1,bJ.2.2.2.2.2.1.2,bJ.2.2.2.2.2.2.1.1,bJ.2.2.2.2.2.2.1.2,bJ.2.2.2.2.2.2.2.1.1,bJ.2.2.2.2.2.2.2.1.2,bJ.2.2.2.2.2.2.2.2.1,bJ.2.2.2.2.2.2.2.2.2,0)))))))))))))
def nN (x:gB) (s:vR):Tr (vR⊕Lb) true:=
 (.i10 (s.2.2.2.2.2.2.2.2.2.2.2.2.2.2.2<s.2.2.2.2.2.2.2.2.2.2.2.2.2.2.1)
 (.oR s.2.2.2.2.2.2.2.2.2.2.2.2.2.2.2 (((s.2.2.2.2.2.2.1.length- s.2.2.2.2.2.2.2.2.2.2.2.2.2.1):Nat):Int)
 (.od ((s.2.2.2.2.2.2.2.2.2.2.2.2.2.1+(tN s.2.2.2.2.2.2.2.2.2.2.2.2.2.2.2))<s.2.2.2.2.2.2.1.length)
 (.od ((s.2.2.2.2.2.2.2.2.2.2.2.2.2.1+(tN s.2.2.2.2.2.2.2.2.2.2.2.2.2.2.2))<s.2.2.2.2.2.2.1.length)
 (.we
 (.fact (jL tt 3 yi) uw
 (.lt (aU (k:=yi) s.1 s.2.2.2.2.2.2.2.1 z0) fun y=>
 (.fact (jL tt 3 yi) uw
 (.lt (aU (k:=yi) s.1 (Bp s) z0) fun bq=>
 (.Es (nj (k:=yi) s.1 s.2.2.2.2.2.2.2.1)
 (.Es (nj (k:=yi) s.1 (Bp s))
 (.pn 0 15
 (.Es (y !=bq)
 (.we
 (Tr.bd0 (fun e XX=>
 (.lA s.2.2.2.2.2.2.2.1 x.1.2.2.2
 (.fn nq ((abJ x s),s.2.2.2.2.1) fun bJ=>
 (.fact (jL tt 3 yi) uw
 (.lt (aU (k:=yi) s.2.1 s.2.2.2.2.2.2.2.1 aV) fun bn=>
 (.oR bJ 3
 (.lA s.2.2.2.2.2.2.2.1 x.1.2.2.2
 (.fn nq ((abJ x s),s.2.2.2.2.2.1) fun bz=>
 (.fact (jL tt 3 yi) uw
 (.lt (aU (k:=yi) s.2.1 s.2.2.2.2.2.2.2.1 aV) fun bN=>
 (.oR bz 3
 (.fn dD (((List.getD [bn.1.1,bn.1.2,bn.2.1.1,bn.2.1.2,bn.2.2.1,bn.2.2.2] ((tN bJ)*2) z0),(List.getD [bn.1.1,bn.1.2,bn.2.1.1,bn.2.1.2,bn.2.2.1,bn.2.2.2] (((tN bJ)*2)+1) z0)),((List.getD [bN.1.1,bN.1.2,bN.2.1.1,bN.2.1.2,bN.2.2.1,bN.2.2.2] ((tN bz)*2) z0),(List.getD [bN.1.1,bN.1.2,bN.2.1.1,bN.2.1.2,bN.2.2.1,bN.2.2.2] (((tN bz)*2)+1) z0)),z0) fun cC=>
 (.fn0 cV cC.1 trivial fun Ln=>
 (.fn dD (((List.getD [bn.1.1,bn.1.2,bn.2.1.1,bn.2.1.2,bn.2.2.1,bn.2.2.2] ((tN bJ)*2) z0),(List.getD [bn.1.1,bn.1.2,bn.2.1.1,bn.2.1.2,bn.2.2.1,bn.2.2.2] (((tN bJ)*2)+1) z0)),((List.getD [bN.1.1,bN.1.2,bN.2.1.1,bN.2.1.2,bN.2.2.1,bN.2.2.2] ((tN bz)*2) z0),(List.getD [bN.1.1,bN.1.2,bN.2.1.1,bN.2.1.2,bN.2.2.1,bN.2.2.2] (((tN bz)*2)+1) z0)),z1) fun Rw=>
 (.fn0 cV Rw.1 trivial fun Bs=>
 (.fn dD (((List.getD [bn.1.1,bn.1.2,bn.2.1.1,bn.2.1.2,bn.2.2.1,bn.2.2.2] ((tN bJ)*2) z0),(List.getD [bn.1.1,bn.1.2,bn.2.1.1,bn.2.1.2,bn.2.2.1,bn.2.2.2] (((tN bJ)*2)+1) z0)),((List.getD [bN.1.1,bN.1.2,bN.2.1.1,bN.2.1.2,bN.2.2.1,bN.2.2.2] ((tN bz)*2) z0),(List.getD [bN.1.1,bN.1.2,bN.2.1.1,bN.2.1.2,bN.2.2.1,bN.2.2.2] (((tN bz)*2)+1) z0)),2) fun Bt=>
 (.fn0 cV Bt.1 trivial fun Bu=>
 (.fn dD (((List.getD [bn.1.1,bn.1.2,bn.2.1.1,bn.2.1.2,bn.2.2.1,bn.2.2.2] ((tN bJ)*2) z0),(List.getD [bn.1.1,bn.1.2,bn.2.1.1,bn.2.1.2,bn.2.2.1,bn.2.2.2] (((tN bJ)*2)+1) z0)),((List.getD [bN.1.1,bN.1.2,bN.2.1.1,bN.2.1.2,bN.2.2.1,bN.2.2.2] ((tN bz)*2) z0),(List.getD [bN.1.1,bN.1.2,bN.2.1.1,bN.2.1.2,bN.2.2.1,bN.2.2.2] (((tN bz)*2)+1) z0)),3) fun Bv=>
 (.fn0 cV Bv.1 trivial fun Bw=>
 (.fn dD (((List.getD [bn.1.1,bn.1.2,bn.2.1.1,bn.2.1.2,bn.2.2.1,bn.2.2.2] ((tN bJ)*2) z0),(List.getD [bn.1.1,bn.1.2,bn.2.1.1,bn.2.1.2,bn.2.2.1,bn.2.2.2] (((tN bJ)*2)+1) z0)),((List.getD [bN.1.1,bN.1.2,bN.2.1.1,bN.2.1.2,bN.2.2.1,bN.2.2.2] ((tN bz)*2) z0),(List.getD [bN.1.1,bN.1.2,bN.2.1.1,bN.2.1.2,bN.2.2.1,bN.2.2.2] (((tN bz)*2)+1) z0)),4) fun By=>
 (.fn0 cV By.1 trivial fun Bz=>
 (.fn dD (((List.getD [bn.1.1,bn.1.2,bn.2.1.1,bn.2.1.2,bn.2.2.1,bn.2.2.2] ((tN bJ)*2) z0),(List.getD [bn.1.1,bn.1.2,bn.2.1.1,bn.2.1.2,bn.2.2.1,bn.2.2.2] (((tN bJ)*2)+1) z0)),((List.getD [bN.1.1,bN.1.2,bN.2.1.1,bN.2.1.2,bN.2.2.1,bN.2.2.2] ((tN bz)*2) z0),(List.getD [bN.1.1,bN.1.2,bN.2.1.1,bN.2.1.2,bN.2.2.1,bN.2.2.2] (((tN bz)*2)+1) z0)),5) fun BA=>
 (.fn0 cV BA.1 trivial fun BB=>
 (.fn dD (((List.getD [bn.1.1,bn.1.2,bn.2.1.1,bn.2.1.2,bn.2.2.1,bn.2.2.2] ((tN bJ)*2) z0),(List.getD [bn.1.1,bn.1.2,bn.2.1.1,bn.2.1.2,bn.2.2.1,bn.2.2.2] (((tN bJ)*2)+1) z0)),((List.getD [bN.1.1,bN.1.2,bN.2.1.1,bN.2.1.2,bN.2.2.1,bN.2.2.2] ((tN bz)*2) z0),(List.getD [bN.1.1,bN.1.2,bN.2.1.1,bN.2.1.2,bN.2.2.1,bN.2.2.2] (((tN bz)*2)+1) z0)),6) fun BD=>
 (.fn0 cV BD.1 trivial fun BE=>
 (.fn dD (((List.getD [bn.1.1,bn.1.2,bn.2.1.1,bn.2.1.2,bn.2.2.1,bn.2.2.2] ((tN bJ)*2) z0),(List.getD [bn.1.1,bn.1.2,bn.2.1.1,bn.2.1.2,bn.2.2.1,bn.2.2.2] (((tN bJ)*2)+1) z0)),((List.getD [bN.1.1,bN.1.2,bN.2.1.1,bN.2.1.2,bN.2.2.1,bN.2.2.2] ((tN bz)*2) z0),(List.getD [bN.1.1,bN.1.2,bN.2.1.1,bN.2.1.2,bN.2.2.1,bN.2.2.2] (((tN bz)*2)+1) z0)),7) fun BF=>
 (.fn0 cV BF.1 trivial fun BG=>
 (.fn dD (((List.getD [bn.1.1,bn.1.2,bn.2.1.1,bn.2.1.2,bn.2.2.1,bn.2.2.2] ((tN bJ)*2) z0),(List.getD [bn.1.1,bn.1.2,bn.2.1.1,bn.2.1.2,bn.2.2.1,bn.2.2.2] (((tN bJ)*2)+1) z0)),((List.getD [bN.1.1,bN.1.2,bN.2.1.1,bN.2.1.2,bN.2.2.1,bN.2.2.2] ((tN bz)*2) z0),(List.getD [bN.1.1,bN.1.2,bN.2.1.1,bN.2.1.2,bN.2.2.1,bN.2.2.2] (((tN bz)*2)+1) z0)),8) fun EX=>
 (.fn0 cV EX.1 trivial fun IL=>
 (.fact (([.cells [.full 1,.full 2,.full 3,.full 4,.mp 5,.mp 6] 70,.row cj x.1.1 0,.row aH x.1.2.1 0,.row cj x.1.2.2.1 0,.row kB x.1.2.2.2 0,.map Bool.false Bool.false yi yi s.1,.map Bool.false Bool.true yi bZ s.2.1,.cells [.full 8] 23,.row (Ty.prod aH aH) s.2.2.1 2,.cells [.mp 10] 76,.map Bool.true Bool.false (Ty.prod aH aH) Ty.bool s.2.2.2.1,.cells [ci s.2.2.2.2.1,ci s.2.2.2.2.2.1,.full 12] 78,.row yi s.2.2.2.2.2.2.1 0,.row (Ty.prod yi (Ty.prod yi (Ty.sl yi))) s.2.2.2.2.2.2.2.2.1 2,.alias 12 s.2.2.2.2.2.2.2.2.2.2.2.2.2.1 none,.gone,.cells [.full 1,.full 2,.full 3,.full 4,.mp 5,.mp 6] 70,.gone,.cells [ci s.2.2.2.2.1,ci s.2.2.2.2.2.1,.full 12] 78,.eJ e 19,.ga XX]:List aQ)=([.cells [.full 1,.full 2,.full 3,.full 4,.mp 5,.mp 6] 70,.row cj x.1.1 0,.row aH x.1.2.1 0,.row cj x.1.2.2.1 0,.row kB x.1.2.2.2 0,.map Bool.false Bool.false yi yi s.1,.map Bool.false Bool.true yi bZ s.2.1,.cells [.full 8] 23,.row (Ty.prod aH aH) s.2.2.1 2,.cells [.mp 10] 76,.map Bool.true Bool.false (Ty.prod aH aH) Ty.bool s.2.2.2.1,.cells [ci s.2.2.2.2.1,ci s.2.2.2.2.2.1,.full 12] 78,.row yi s.2.2.2.2.2.2.1 0,.row (Ty.prod yi (Ty.prod yi (Ty.sl yi))) s.2.2.2.2.2.2.2.2.1 2,.alias 12 s.2.2.2.2.2.2.2.2.2.2.2.2.2.1 none,.gone,.cells [.full 1,.full 2,.full 3,.full 4,.mp 5,.mp 6] 70,.gone,.cells [ci s.2.2.2.2.1,ci s.2.2.2.2.2.1,.full 12] 78,.eJ e 19,.ga XX]:List aQ)) rfl
 (.ret ((Ln.1,Ln.2.1),(Bs.1,Bs.2.1),(Bu.1,Bu.2.1),(Bw.1,Bw.2.1),(Bz.1,Bz.2.1),(BB.1,BB.2.1),(BE.1,BE.2.1),(BG.1,BG.2.1),IL.1,IL.2.1)))))))))))))))))))))))))))))))) fun y_2=>
 (Tr.bd0 (fun e XX=>
 (.lA (Bp s) x.1.2.2.2
 (.fn nq ([(gT x.1.2.2.2 (Bp s) vW).1,(gT x.1.2.2.2 (Bp s) vW).2.1,(gT x.1.2.2.2 (Bp s) vW).2.2],s.2.2.2.2.1) fun bn=>
 (.fact (jL tt 3 yi) uw
 (.lt (aU (k:=yi) s.2.1 (Bp s) aV) fun bz=>
 (.oR bn 3
 (.lA (Bp s) x.1.2.2.2
 (.fn nq ([(gT x.1.2.2.2 (Bp s) vW).1,(gT x.1.2.2.2 (Bp s) vW).2.1,(gT x.1.2.2.2 (Bp s) vW).2.2],s.2.2.2.2.2.1) fun bN=>
 (.fact (jL tt 3 yi) uw
 (.lt (aU (k:=yi) s.2.1 (Bp s) aV) fun cC=>
 (.oR bN 3
 (.fn dD (((List.getD [bz.1.1,bz.1.2,bz.2.1.1,bz.2.1.2,bz.2.2.1,bz.2.2.2] ((tN bn)*2) z0),(List.getD [bz.1.1,bz.1.2,bz.2.1.1,bz.2.1.2,bz.2.2.1,bz.2.2.2] (((tN bn)*2)+1) z0)),((List.getD [cC.1.1,cC.1.2,cC.2.1.1,cC.2.1.2,cC.2.2.1,cC.2.2.2] ((tN bN)*2) z0),(List.getD [cC.1.1,cC.1.2,cC.2.1.1,cC.2.1.2,cC.2.2.1,cC.2.2.2] (((tN bN)*2)+1) z0)),z0) fun Ln=>
 (.fn0 cV Ln.1 trivial fun Rw=>
 (.fn dD (((List.getD [bz.1.1,bz.1.2,bz.2.1.1,bz.2.1.2,bz.2.2.1,bz.2.2.2] ((tN bn)*2) z0),(List.getD [bz.1.1,bz.1.2,bz.2.1.1,bz.2.1.2,bz.2.2.1,bz.2.2.2] (((tN bn)*2)+1) z0)),((List.getD [cC.1.1,cC.1.2,cC.2.1.1,cC.2.1.2,cC.2.2.1,cC.2.2.2] ((tN bN)*2) z0),(List.getD [cC.1.1,cC.1.2,cC.2.1.1,cC.2.1.2,cC.2.2.1,cC.2.2.2] (((tN bN)*2)+1) z0)),z1) fun Bs=>
 (.fn0 cV Bs.1 trivial fun Bt=>
 (.fn dD (((List.getD [bz.1.1,bz.1.2,bz.2.1.1,bz.2.1.2,bz.2.2.1,bz.2.2.2] ((tN bn)*2) z0),(List.getD [bz.1.1,bz.1.2,bz.2.1.1,bz.2.1.2,bz.2.2.1,bz.2.2.2] (((tN bn)*2)+1) z0)),((List.getD [cC.1.1,cC.1.2,cC.2.1.1,cC.2.1.2,cC.2.2.1,cC.2.2.2] ((tN bN)*2) z0),(List.getD [cC.1.1,cC.1.2,cC.2.1.1,cC.2.1.2,cC.2.2.1,cC.2.2.2] (((tN bN)*2)+1) z0)),2) fun Bu=>
 (.fn0 cV Bu.1 trivial fun Bv=>
 (.fn dD (((List.getD [bz.1.1,bz.1.2,bz.2.1.1,bz.2.1.2,bz.2.2.1,bz.2.2.2] ((tN bn)*2) z0),(List.getD [bz.1.1,bz.1.2,bz.2.1.1,bz.2.1.2,bz.2.2.1,bz.2.2.2] (((tN bn)*2)+1) z0)),((List.getD [cC.1.1,cC.1.2,cC.2.1.1,cC.2.1.2,cC.2.2.1,cC.2.2.2] ((tN bN)*2) z0),(List.getD [cC.1.1,cC.1.2,cC.2.1.1,cC.2.1.2,cC.2.2.1,cC.2.2.2] (((tN bN)*2)+1) z0)),3) fun Bw=>
 (.fn0 cV Bw.1 trivial fun By=>
 (.fn dD (((List.getD [bz.1.1,bz.1.2,bz.2.1.1,bz.2.1.2,bz.2.2.1,bz.2.2.2] ((tN bn)*2) z0),(List.getD [bz.1.1,bz.1.2,bz.2.1.1,bz.2.1.2,bz.2.2.1,bz.2.2.2] (((tN bn)*2)+1) z0)),((List.getD [cC.1.1,cC.1.2,cC.2.1.1,cC.2.1.2,cC.2.2.1,cC.2.2.2] ((tN bN)*2) z0),(List.getD [cC.1.1,cC.1.2,cC.2.1.1,cC.2.1.2,cC.2.2.1,cC.2.2.2] (((tN bN)*2)+1) z0)),4) fun Bz=>
 (.fn0 cV Bz.1 trivial fun BA=>
 (.fn dD (((List.getD [bz.1.1,bz.1.2,bz.2.1.1,bz.2.1.2,bz.2.2.1,bz.2.2.2] ((tN bn)*2) z0),(List.getD [bz.1.1,bz.1.2,bz.2.1.1,bz.2.1.2,bz.2.2.1,bz.2.2.2] (((tN bn)*2)+1) z0)),((List.getD [cC.1.1,cC.1.2,cC.2.1.1,cC.2.1.2,cC.2.2.1,cC.2.2.2] ((tN bN)*2) z0),(List.getD [cC.1.1,cC.1.2,cC.2.1.1,cC.2.1.2,cC.2.2.1,cC.2.2.2] (((tN bN)*2)+1) z0)),5) fun BB=>
 (.fn0 cV BB.1 trivial fun BD=>
 (.fn dD (((List.getD [bz.1.1,bz.1.2,bz.2.1.1,bz.2.1.2,bz.2.2.1,bz.2.2.2] ((tN bn)*2) z0),(List.getD [bz.1.1,bz.1.2,bz.2.1.1,bz.2.1.2,bz.2.2.1,bz.2.2.2] (((tN bn)*2)+1) z0)),((List.getD [cC.1.1,cC.1.2,cC.2.1.1,cC.2.1.2,cC.2.2.1,cC.2.2.2] ((tN bN)*2) z0),(List.getD [cC.1.1,cC.1.2,cC.2.1.1,cC.2.1.2,cC.2.2.1,cC.2.2.2] (((tN bN)*2)+1) z0)),6) fun BE=>
 (.fn0 cV BE.1 trivial fun BF=>
 (.fn dD (((List.getD [bz.1.1,bz.1.2,bz.2.1.1,bz.2.1.2,bz.2.2.1,bz.2.2.2] ((tN bn)*2) z0),(List.getD [bz.1.1,bz.1.2,bz.2.1.1,bz.2.1.2,bz.2.2.1,bz.2.2.2] (((tN bn)*2)+1) z0)),((List.getD [cC.1.1,cC.1.2,cC.2.1.1,cC.2.1.2,cC.2.2.1,cC.2.2.2] ((tN bN)*2) z0),(List.getD [cC.1.1,cC.1.2,cC.2.1.1,cC.2.1.2,cC.2.2.1,cC.2.2.2] (((tN bN)*2)+1) z0)),7) fun BG=>
 (.fn0 cV BG.1 trivial fun EX=>
 (.fn dD (((List.getD [bz.1.1,bz.1.2,bz.2.1.1,bz.2.1.2,bz.2.2.1,bz.2.2.2] ((tN bn)*2) z0),(List.getD [bz.1.1,bz.1.2,bz.2.1.1,bz.2.1.2,bz.2.2.1,bz.2.2.2] (((tN bn)*2)+1) z0)),((List.getD [cC.1.1,cC.1.2,cC.2.1.1,cC.2.1.2,cC.2.2.1,cC.2.2.2] ((tN bN)*2) z0),(List.getD [cC.1.1,cC.1.2,cC.2.1.1,cC.2.1.2,cC.2.2.1,cC.2.2.2] (((tN bN)*2)+1) z0)),8) fun IL=>
 (.fn0 cV IL.1 trivial fun U3=>
 (.fact (([.cells [.full 1,.full 2,.full 3,.full 4,.mp 5,.mp 6] 70,.row cj x.1.1 0,.row aH x.1.2.1 0,.row cj x.1.2.2.1 0,.row kB x.1.2.2.2 0,.map Bool.false Bool.false yi yi s.1,.map Bool.false Bool.true yi bZ s.2.1,.cells [.full 8] 23,.row (Ty.prod aH aH) s.2.2.1 2,.cells [.mp 10] 76,.map Bool.true Bool.false (Ty.prod aH aH) Ty.bool s.2.2.2.1,.cells [ci s.2.2.2.2.1,ci s.2.2.2.2.2.1,.full 12] 78,.row yi s.2.2.2.2.2.2.1 0,.row (Ty.prod yi (Ty.prod yi (Ty.sl yi))) s.2.2.2.2.2.2.2.2.1 2,.alias 12 s.2.2.2.2.2.2.2.2.2.2.2.2.2.1 none,.gone,.cells [.full 1,.full 2,.full 3,.full 4,.mp 5,.mp 6] 70,.gone,.cells [ci s.2.2.2.2.1,ci s.2.2.2.2.2.1,.full 12] 78,.eJ e 19,.ga XX]:List aQ)=([.cells [.full 1,.full 2,.full 3,.full 4,.mp 5,.mp 6] 70,.row cj x.1.1 0,.row aH x.1.2.1 0,.row cj x.1.2.2.1 0,.row kB x.1.2.2.2 0,.map Bool.false Bool.false yi yi s.1,.map Bool.false Bool.true yi bZ s.2.1,.cells [.full 8] 23,.row (Ty.prod aH aH) s.2.2.1 2,.cells [.mp 10] 76,.map Bool.true Bool.false (Ty.prod aH aH) Ty.bool s.2.2.2.1,.cells [ci s.2.2.2.2.1,ci s.2.2.2.2.2.1,.full 12] 78,.row yi s.2.2.2.2.2.2.1 0,.row (Ty.prod yi (Ty.prod yi (Ty.sl yi))) s.2.2.2.2.2.2.2.2.1 2,.alias 12 s.2.2.2.2.2.2.2.2.2.2.2.2.2.1 none,.gone,.cells [.full 1,.full 2,.full 3,.full 4,.mp 5,.mp 6] 70,.gone,.cells [ci s.2.2.2.2.1,ci s.2.2.2.2.2.1,.full 12] 78,.eJ e 19,.ga XX]:List aQ)) rfl
 (.ret ((Rw.1,Rw.2.1),(Bt.1,Bt.2.1),(Bv.1,Bv.2.1),(By.1,By.2.1),(BA.1,BA.2.1),(BD.1,BD.2.1),(BF.1,BF.2.1),(EX.1,EX.2.1),U3.1,U3.2.1)))))))))))))))))))))))))))))))) fun bJ=>
 (aW.lp (uC x) (q6 x) (s.1,s.2.1,s.2.2.1,s.2.2.2.1,s.2.2.2.2.1,s.2.2.2.2.2.1,s.2.2.2.2.2.2.1,s.2.2.2.2.2.2.2.2.1,s.2.2.2.2.2.2.2.2.2.2.2.2.2.1,y_2.1.1,y_2.1.2,y_2.2.1.1,y_2.2.1.2,y_2.2.2.1.1,y_2.2.2.1.2,y_2.2.2.2.1.1,y_2.2.2.2.1.2,y_2.2.2.2.2.1.1,y_2.2.2.2.2.1.2,y_2.2.2.2.2.2.1.1,y_2.2.2.2.2.2.1.2,y_2.2.2.2.2.2.2.1.1,y_2.2.2.2.2.2.2.1.2,y_2.2.2.2.2.2.2.2.1.1,y_2.2.2.2.2.2.2.2.1.2,y_2.2.2.2.2.2.2.2.2.1,y_2.2.2.2.2.2.2.2.2.2,bJ.1.1,bJ.1.2,bJ.2.1.1,bJ.2.1.2,bJ.2.2.1.1,bJ.2.2.1.2,bJ.2.2.2.1.1,bJ.2.2.2.1.2,bJ.2.2.2.2.1.1,bJ.2.2.2.2.1.2,bJ.2.2.2.2.2.1.1,bJ.2.2.2.2.2.1.2,bJ.2.2.2.2.2.2.1.1,bJ.2.2.2.2.2.2.1.2,bJ.2.2.2.2.2.2.2.1.1,bJ.2.2.2.2.2.2.2.1.2,bJ.2.2.2.2.2.2.2.2.1,bJ.2.2.2.2.2.2.2.2.2,z0) fun r=>
 (.pn 1 17
 (.ret (.inl (r.1,r.2.1,r.2.2.1,r.2.2.2.1,r.2.2.2.2.1,r.2.2.2.2.2.1,r.2.2.2.2.2.2.1,s.2.2.2.2.2.2.2.1,r.2.2.2.2.2.2.2.1,s.2.2.2.2.2.2.2.2.2.1,s.2.2.2.2.2.2.2.2.2.2.1,s.2.2.2.2.2.2.2.2.2.2.2.1,s.2.2.2.2.2.2.2.2.2.2.2.2.1,r.2.2.2.2.2.2.2.2,s.2.2.2.2.2.2.2.2.2.2.2.2.2.2.1,(w1 s.2.2.2.2.2.2.2.2.2.2.2.2.2.2.2)))))))))
 (.ret (Ze s))))
 (.pn 0 15
 (.ret (Ze s))))
 (.pn 0 15
 (.ret (Ze s))))))))))))
 (.ret (.inr (abI s))))
def nM (x:gB):aW:=⟨[],⟨dy 74 0 [(6,.v (.one (.ptr 0 0))),(11,.v (.one (.ptr 7 0))),(12,.v (.one (.eN 27 0 [.loc 0 0,.loc 9 0,.loc 7 0]))),(14,.v (.one (.ptr 11 0))),(37,.v (.one (.full 13))),(38,.v (.one (.i .i64))),(39,.v (.one (.i .i64))),(44,.v (.one (.full 12))),(45,.v (.one (.i .i64))),(46,.v (.one (.i .i64)))],[.cells [.full 1,.full 2,.full 3,.full 4,.mp 5,.mp 6] 70,.row cj 0,.row aH 0,.row cj 0,.row kB 0,.map Bool.false Bool.false yi yi,.map Bool.false Bool.true yi bZ,.cells [.full 8] 23,.row (Ty.prod aH aH) 2,.cells [.mp 10] 76,.map Bool.true Bool.false (Ty.prod aH aH) Ty.bool,.cells [.i .i64,.i .i64,.full 12] 78,.row yi 0,.row (Ty.prod yi (Ty.prod yi (Ty.sl yi))) 2],0,none,[],[4,5,6,7],[8,9,10,11,12,13,14,15,0,1,2,3],[(.l (.prod yi yi)),(.l (.prod yi bZ)),(.l (Ty.prod aH aH)),(.l (.prod (Ty.prod aH aH) Ty.bool)),.i,.i,(.l yi),(.l (Ty.prod yi (Ty.prod yi (Ty.sl yi)))),.i,.i,.i,.i],[.l cj x.1.1,.l aH x.1.2.1,.l cj x.1.2.2.1,.l kB x.1.2.2.2]⟩,[⟨(.exit 2),.normal,⟨dy 74 0 [(6,.v (.one (.ptr 0 0))),(11,.v (.one (.ptr 7 0))),(12,.v (.one (.eN 27 0 [.loc 0 0,.loc 9 0,.loc 7 0]))),(37,.v (.one (.full 11))),(38,.v (.one (.i .i64))),(39,.v (.one (.i .i64)))],[.cells [.full 1,.full 2,.full 3,.full 4,.mp 5,.mp 6] 70,.row cj 0,.row aH 0,.row cj 0,.row kB 0,.map Bool.false Bool.false yi yi,.map Bool.false Bool.true yi bZ,.cells [.full 8] 23,.row (Ty.prod aH aH) 2,.cells [.mp 10] 76,.map Bool.true Bool.false (Ty.prod aH aH) Ty.bool,.row (Ty.prod yi (Ty.prod yi (Ty.sl yi))) 2],0,none,[],[2,3,4,5],[6,7,8,9,10,0,1],[(.l (.prod yi yi)),(.l (.prod yi bZ)),(.l (Ty.prod aH aH)),(.l (.prod (Ty.prod aH aH) Ty.bool)),(.l (Ty.prod yi (Ty.prod yi (Ty.sl yi)))),.i,.i],[.l cj x.1.1,.l aH x.1.2.1,.l cj x.1.2.2.1,.l kB x.1.2.2.2]⟩⟩]⟩
abbrev abK (s:Lb):=(s.1,s.2.1,s.2.2.1,s.2.2.2.1,s.2.2.2.2.1,s.2.2.2.2.2.1,s.2.2.2.2.2.2.1,(s.2.2.2.2.2.2.1.getD s.2.2.2.2.2.2.2.2.2.2.2.toNat (0:Int)),s.2.2.2.2.2.2.2.1,s.2.2.2.2.2.2.2.2.1,s.2.2.2.2.2.2.2.2.2.1,s.2.2.2.2.2.2.2.2.2.2.1,s.2.2.2.2.2.2.2.2.2.2.2,(Int.toNat (aj (s.2.2.2.2.2.2.2.2.2.2.2+(1:Int)))),(((s.2.2.2.2.2.2.1.length- (Int.toNat (aj (s.2.2.2.2.2.2.2.2.2.2.2+(1:Int))))):Nat):Int),(0:Int))
def gU (x:gB) (s:Lb):Lb⊕IG:=
 (if (s.2.2.2.2.2.2.2.2.2.2.2<s.2.2.2.2.2.2.2.2.2.2.1) then
 (au (run (gV x) (abK s)) fun r=>
 (Sum.inl (r.1,r.2.1,r.2.2.1,r.2.2.2.1,r.2.2.2.2.1,r.2.2.2.2.2.1,r.2.2.2.2.2.2.1,r.2.2.2.2.2.2.2.1,r.2.2.2.2.2.2.2.2.1,r.2.2.2.2.2.2.2.2.2.1,r.2.2.2.2.2.2.2.2.2.2.1,(aj (r.2.2.2.2.2.2.2.2.2.2.2+1))))) else
 (Sum.inr ((s.1,s.2.1,s.2.2.1,s.2.2.2.1,s.2.2.2.2.2.2.2.1,s.2.2.2.2.2.2.2.2.1,s.2.2.2.2.2.2.2.2.2.1))))
def mD (x:gB) (s:Lb):Prop:=
 ((s.2.2.2.2.2.2.2.2.2.2.2<s.2.2.2.2.2.2.2.2.2.2.1)->
 (((0<=s.2.2.2.2.2.2.2.2.2.2.2)/\ (s.2.2.2.2.2.2.2.2.2.2.2<(s.2.2.2.2.2.2.1.length:Int)))/\
 ((s.2.2.2.2.2.2.2.2.2.2.2.toNat<s.2.2.2.2.2.2.1.length)/\
 ((s.2.2.2.2.2.2.2.2.2.2.2.toNat<s.2.2.2.2.2.2.1.length)/\
 (((0<=(aj (s.2.2.2.2.2.2.2.2.2.2.2+1)))/\ ((aj (s.2.2.2.2.2.2.2.2.2.2.2+1))<=(s.2.2.2.2.2.2.1.length:Int)))/\
 (Term (gV x) (mE x) (abK s)))))))
def qM (x:gB) (s:Lb):Tr (Lb⊕IG) true:=
 (.i10 (s.2.2.2.2.2.2.2.2.2.2.2<s.2.2.2.2.2.2.2.2.2.2.1)
 (.lA s.2.2.2.2.2.2.2.2.2.2.2 s.2.2.2.2.2.2.1
 (.og ((decide (z0<=(w1 s.2.2.2.2.2.2.2.2.2.2.2)))&&(decide ((w1 s.2.2.2.2.2.2.2.2.2.2.2)<=(nL s.2.2.2.2.2.2.1)))) ((z0<=(w1 s.2.2.2.2.2.2.2.2.2.2.2))/\ ((w1 s.2.2.2.2.2.2.2.2.2.2.2)<=(nL s.2.2.2.2.2.2.1))) (fun h=>(jR (decide_eq_true h.1) (decide_eq_true h.2)))
 (aW.lp (lW x) (nN x) (s.1,s.2.1,s.2.2.1,s.2.2.2.1,s.2.2.2.2.1,s.2.2.2.2.2.1,s.2.2.2.2.2.2.1,(gI s.2.2.2.2.2.2.1 s.2.2.2.2.2.2.2.2.2.2.2),s.2.2.2.2.2.2.2.1,s.2.2.2.2.2.2.2.2.1,s.2.2.2.2.2.2.2.2.2.1,s.2.2.2.2.2.2.2.2.2.2.1,s.2.2.2.2.2.2.2.2.2.2.2,(tN (w1 s.2.2.2.2.2.2.2.2.2.2.2)),(((s.2.2.2.2.2.2.1.length- (tN (w1 s.2.2.2.2.2.2.2.2.2.2.2))):Nat):Int),z0) fun r=>
 (.ret (.inl (r.1,r.2.1,r.2.2.1,r.2.2.2.1,r.2.2.2.2.1,r.2.2.2.2.2.1,r.2.2.2.2.2.2.1,r.2.2.2.2.2.2.2.1,r.2.2.2.2.2.2.2.2.1,r.2.2.2.2.2.2.2.2.2.1,r.2.2.2.2.2.2.2.2.2.2.1,(w1 r.2.2.2.2.2.2.2.2.2.2.2)))))))
 (.ret (.inr ((s.1,s.2.1,s.2.2.1,s.2.2.2.1,s.2.2.2.2.2.2.2.1,s.2.2.2.2.2.2.2.2.1,s.2.2.2.2.2.2.2.2.2.1)))))
def pX (x:gB):aW:=⟨[],⟨dy 74 0 [(6,.v (.one (.ptr 0 0))),(11,.v (.one (.ptr 7 0))),(12,.v (.one (.eN 27 0 [.loc 0 0,.loc 9 0,.loc 7 0]))),(37,.v (.one (.full 11))),(38,.v (.one (.i .i64))),(39,.v (.one (.i .i64)))],[.cells [.full 1,.full 2,.full 3,.full 4,.mp 5,.mp 6] 70,.row cj 0,.row aH 0,.row cj 0,.row kB 0,.map Bool.false Bool.false yi yi,.map Bool.false Bool.true yi bZ,.cells [.full 8] 23,.row (Ty.prod aH aH) 2,.cells [.mp 10] 76,.map Bool.true Bool.false (Ty.prod aH aH) Ty.bool,.row (Ty.prod yi (Ty.prod yi (Ty.sl yi))) 2],0,none,[],[2,3,4,5],[6,7,8,9,10,0,1],[(.l (.prod yi yi)),(.l (.prod yi bZ)),(.l (Ty.prod aH aH)),(.l (.prod (Ty.prod aH aH) Ty.bool)),(.l (Ty.prod yi (Ty.prod yi (Ty.sl yi)))),.i,.i],[.l cj x.1.1,.l aH x.1.2.1,.l cj x.1.2.2.1,.l kB x.1.2.2.2]⟩,[⟨(.exit 0),.normal,⟨dy 74 0 [(11,.v (.one (.ptr 0 0)))],[.cells [.full 1] 23,.row (Ty.prod aH aH) 2],0,none,[],[],[0],[(.l (Ty.prod aH aH))],[]⟩⟩]⟩
abbrev WI (s:IG):=(s.2.2.2.2.1.getD s.2.2.2.2.2.2.toNat ((0:Int),(0:Int),[]))
abbrev abL (s:IG):=(s.1,s.2.1,s.2.2.1,s.2.2.2.1,(WI s).1,(WI s).2.1,(WI s).2.2,s.2.2.2.2.1,s.2.2.2.2.2.1,s.2.2.2.2.2.2,((WI s).2.2.length:Int),(0:Int))
def lC (x:gB) (s:IG):IG⊕(List (I2×I2)):=
 (if (s.2.2.2.2.2.2<s.2.2.2.2.2.1) then
 (au (run (gU x) (abL s)) fun r=>
 (Sum.inl (r.1,r.2.1,r.2.2.1,r.2.2.2.1,r.2.2.2.2.1,r.2.2.2.2.2.1,(aj (r.2.2.2.2.2.2+1))))) else
 (Sum.inr (s.2.2.1)))
def qL (x:gB) (s:IG):Prop:=
 ((s.2.2.2.2.2.2<s.2.2.2.2.2.1)->
 (((0<=s.2.2.2.2.2.2)/\ (s.2.2.2.2.2.2<(s.2.2.2.2.1.length:Int)))/\
 ((s.2.2.2.2.2.2.toNat<s.2.2.2.2.1.length)/\
 ((s.2.2.2.2.2.2.toNat<s.2.2.2.2.1.length)/\
 (Term (gU x) (mD x) (abL s))))))
def vH (x:gB) (s:IG):Tr (IG⊕(List (I2×I2))) true:=
 (.i10 (s.2.2.2.2.2.2<s.2.2.2.2.2.1)
 (.lA s.2.2.2.2.2.2 s.2.2.2.2.1
 (aW.lp (nM x) (qM x) (s.1,s.2.1,s.2.2.1,s.2.2.2.1,(gT s.2.2.2.2.1 s.2.2.2.2.2.2 (z0,z0,[])).1,(gT s.2.2.2.2.1 s.2.2.2.2.2.2 (z0,z0,[])).2.1,(gT s.2.2.2.2.1 s.2.2.2.2.2.2 (z0,z0,[])).2.2,s.2.2.2.2.1,s.2.2.2.2.2.1,s.2.2.2.2.2.2,(nL (gT s.2.2.2.2.1 s.2.2.2.2.2.2 (z0,z0,[])).2.2),z0) fun r=>
 (.ret (.inl (r.1,r.2.1,r.2.2.1,r.2.2.2.1,r.2.2.2.2.1,r.2.2.2.2.2.1,(w1 r.2.2.2.2.2.2))))))
 (.ret (.inr (s.2.2.1))))
def DO (x:gB):Lq Tryz.prog:=⟨_,(aA.walk aD fb mixed 29 (fn:=Tryz.f29) (by kernel_rfl) (aA.nil _ _) fun ys hy=>ay.nil)⟩
def KA (x:gB):Lq Tryz.prog:=⟨_,(aA.walk aD fb mixed 25 (fn:=Tryz.f25) (by kernel_rfl) (DO x).ok fun ys hy=>(ay.tr aD ⟨fb,hy,(DO x).ok⟩ mixed 0 (xT x) (sN x) (ay.tr aD ⟨fb,hy,(DO x).ok⟩ mixed 2 (xU x) (sO x) ay.nil (by kernel_rfl) fun g s Q=>(by kernel_rfl)) (by kernel_rfl) fun g s Q=>(by kernel_rfl)))⟩
def nK (x:gB):Lq Tryz.prog:=⟨_,(aA.walk aD fb mixed 27 (fn:=Tryz.f27) (by kernel_rfl) (KA x).ok fun ys hy=>(ay.tr aD ⟨fb,hy,(KA x).ok⟩ mixed 0 (uC x) (q6 x) ay.nil (by kernel_rfl) fun g s Q=>(by kernel_rfl)))⟩
def uB (x:gB):(List (I2×I2)×Int):=
 (au (allM x.2) fun y=>
 (if ((y.2.2 !=0)=true) then
 ([],1) else
 (au (K6 x.1) fun bq=>
 (if ((!bq)=true) then
 ([],1) else
 (au (run (fA x) (y.1,y.2.1,[],[],0,0)) fun r=>
 (Sum.elim (fun a=>
 ([],1)) (fun b=>
 (au (iZ x.1) fun y_2=>
 (if ((y_2.2 !=0)=true) then
 ([],y_2.2) else
 (au (run (lC x) (b.1,b.2,[],[],y_2.1,(y_2.1.length:Int),0)) fun r_1=>
 (r_1,0))))) r))))))
def mP (x:gB):Prop:=
 ((rH x.2)/\
 aM (allM x.2) fun y=>
 (¬((y.2.2 !=0)=true)->
 ((sZ x.1)/\
 aM (K6 x.1) fun bq=>
 (¬((!bq)=true)->
 (Term (fA x) (kR x) (y.1,y.2.1,[],[],0,0)/\
 aM (run (fA x) (y.1,y.2.1,[],[],0,0)) fun r=>
 (cS r (fun a=>
 True) (fun b=>
 ((ql x.1)/\
 aM (iZ x.1) fun y_2=>
 (¬((y_2.2 !=0)=true)->
 (Term (lC x) (qL x) (b.1,b.2,[],[],y_2.1,(y_2.1.length:Int),0)))))))))))
def WT (x:gB):Tr (List (I2×I2)×Int) true:=
 (.we
 (.fn Ci x.2 fun y=>
 (.n9 (y.2.2 !=z0)
 (.pn 0 8
 (.ret ([],z1)))
 (.fn Ed x.1 fun bq=>
 (.n9 (!bq)
 (.pn 0 8
 (.ret ([],z1)))
 (aW.lp (xT x) (sN x) (y.1,y.2.1,[],[],aY) fun r=>
 (.s01 r (fun a=>
 (.pn 0 8
 (.ret ([],z1)))) (fun b=>
 (.pn 0 8
 (.fn wD x.1 fun y_2=>
 (.n9 (y_2.2 !=z0)
 (.ret ([],y_2.2))
 (aW.lp (pX x) (vH x) (b.1,b.2,[],[],y_2.1,(nL y_2.1),z0) fun r_1=>
 (.ret (r_1,z0))))))))))))))
abbrev xS:fg:=⟨(.pair (.agg (Ty.prod (Ty.sl cj) (Ty.prod (Ty.sl aH) (Ty.prod (Ty.sl cj) (Ty.sl kB))))) (.agg (Ty.prod yi (Ty.prod yi (Ty.prod yi (Ty.prod (Ty.sl (Ty.prod (Ty.sl yi) (Ty.prod (Ty.sl bZ) aH))) (Ty.sl (Ty.prod yi cj)))))))),(.pair (.one (Ty.sl (Ty.prod aH aH))) (.one yi)),mP,uB⟩
theorem Uv (x:gB): ∀g s Q,cK ⟨tt,yB,cT,[],[],(nK x).l⟩ (cI (blk 4 (bh Tryz.f12))) ((lW x).Ll.fill g s) ((lW x).kb g Q)=(nN x s).wp ((lW x).post g Q) (Dw (lW x).gt g):=fun g s Q=>by kernel_rfl
theorem Uu (x:gB): ∀g s Q,cK ⟨tt,yB,cT,[(4,(lW x).sp (nN x))],[],(nK x).l⟩ (cI (blk 2 (bh Tryz.f12))) ((nM x).Ll.fill g s) ((nM x).kb g Q)=(qM x s).wp ((nM x).post g Q) (Dw (nM x).gt g):=fun g s Q=>by kernel_rfl
theorem Ut (x:gB): ∀g s Q,cK ⟨tt,yB,cT,[(2,(nM x).sp (qM x)),(4,(lW x).sp (nN x))],[],(nK x).l⟩ (cI (blk 0 (bh Tryz.f12))) ((pX x).Ll.fill g s) ((pX x).kb g Q)=(vH x s).wp ((pX x).post g Q) (Dw (pX x).gt g):=fun g s Q=>by kernel_rfl
theorem Uw:ak Tryz.prog 12 (aq xS):=ak.trX xS WT (fn:=Tryz.f12) aD fb mixed (by kernel_rfl) (fun x=>(nK x).ok) (fun x=>(ay.tr aD (af.eO fb (nK x).ok) mixed 0 (pX x) (vH x) (ay.tr aD (af.eO fb (nK x).ok) mixed 2 (nM x) (qM x) (ay.tr aD (af.eO fb (nK x).ok) mixed 4 (lW x) (nN x) ay.nil (by kernel_rfl) (Uv x)) (by kernel_rfl) (Uu x)) (by kernel_rfl) (Ut x))) (fun x=>(by kernel_rfl)) fun x Q=>(by kernel_rfl)
def KZ:List (Nat×Ev.Spec):=(12,aq xS)::yB
theorem A1:af Tryz.prog KZ:=af.add (fn:=Tryz.f12) (by kernel_rfl) Uw fb
end Go.Proofs.YtojielnkfeoccaaGreat
