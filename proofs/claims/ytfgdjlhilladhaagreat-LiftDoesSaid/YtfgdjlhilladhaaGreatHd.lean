/- Models of the references of layers 19, 20; LiftDoes. -/
import Derived.Test.YtfgdjlhilladhaaGreatHc
noncomputable section
set_option linter.unusedSectionVars false
set_option linter.unusedVariables false
set_option linter.unusedSimpArgs false
namespace Go.Proofs.YtfgdjlhilladhaaGreat
open Go Go.Ev Go.Proofs
abbrev SM:Type:=(Int×Int×I6×I9×(List I3×List I2×List I3×List I9)×(Int×Int×Int×List (List Int×List I6×I2)×List (Int×I3))×List (Int×Int×Int×I3))
abbrev eB:Type:=((List I3×List I2×List I3×List I9)×Int×Int×Int×List (List Int×List I6×I2)×List (Int×I3))
abbrev wC:Type:=(List I6×List Int×List Int×List (Int×Int×Int×I3)×Int)
abbrev Aw:Type:=(List I6×List Int×List Int×List (Int×Int×Int×I3)×I2)
abbrev wD:Type:=(List (Int×Int×Int×I3)×List (Int×Int×Int×I3))
def uh (x:(Int×Int×I6)):(Bool×Int):=
 (if (x.1<0) then
 (false,5) else
 (if (x.1>255) then
 (false,5) else
 (if (x.2.1<0) then
 (false,5) else
 (if (x.2.1>255) then
 (false,5) else
 (aq (cW x.2.2) fun y=>
 (if ((!y)=true) then
 (false,1) else
 (aq (Gi (((aj (16*x.1)),(aj (16*x.2.1))),16,x.2.2)) fun aB=>
 aB)))))))
def nW (x:(Int×Int×I6)):Prop:=
 (¬(x.1<0)->
 (¬(x.1>255)->
 (¬(x.2.1<0)->
 (¬(x.2.1>255)->
 (az (cW x.2.2) fun y=>
 (¬((!y)=true)->
 (sZ (((aj (16*x.1)),(aj (16*x.2.1))),16,x.2.2))))))))
def UC (x:(Int×Int×I6)):Tr (Bool×Int) true:=
 (.nK (x.1<z0)
 (.ret (false,5))
 (.nK (x.1>255)
 (.ret (false,5))
 (.nK (x.2.1<z0)
 (.ret (false,5))
 (.nK (x.2.1>255)
 (.ret (false,5))
 (.fn0 fZ x.2.2 trivial fun y=>
 (.dy (!y)
 (.ret (false,z1))
 (.fn rY (((aj (16*x.1)),(aj (16*x.2.1))),16,x.2.2) fun aB=>
 (.ret aB))))))))
abbrev sq:bB:=⟨(.pair (.one yi) (.pair (.one yi) (.agg aZ))),(.pair (.one Ty.bool) (.one yi)),nW,uh⟩
theorem R5:ah Tryz.prog 83 (ak sq):=ah.tr sq UC (fn:=Tryz.f83) ax Bo mixed (by kernel_rfl) (av.nil _ _) (fun x=>au.nil) (fun x=>(by kernel_rfl)) fun x Q=>(by kernel_rfl)
def E3:List (Nat×Ev.Spec):=(83,ak sq)::Mp
theorem pJ:ae Tryz.prog E3:=ae.add (fn:=Tryz.f83) (by kernel_rfl) R5 Bo
def D4 (x:(Int×Int×I6)):aF:=⟨[],⟨bq 44 0 [(0,.v (.one (.i .i64))),(1,.v (.one (.i .i64))),(5,.v (.one (.ptr 0 0))),(7,.v (.one (.i .i64)))],[.cells [.i .i64,.i .i64,.i .i64,.i .i64,.i .i64,.i .i64] 24],0,none,[],[0,1,3,4,5,6,7,8],[2],[.i],[.i x.1,.i x.2.1,.i x.2.2.1.1,.i x.2.2.1.2,.i x.2.2.2.1.1,.i x.2.2.2.1.2,.i x.2.2.2.2.1,.i x.2.2.2.2.2]⟩,[⟨.ret,.ret,⟨bq 44 0 [(6,.v (.one (.b)))],[],0,none,[],[0],[],[],[.b false]⟩⟩,⟨(.exit 0),.normal,⟨bq 44 0 [(5,.v (.one (.ptr 0 0)))],[.cells [.i .i64,.i .i64,.i .i64,.i .i64,.i .i64,.i .i64] 24],0,none,[],[0,1,2,3,4,5],[],[],[.i x.2.2.1.1,.i x.2.2.1.2,.i x.2.2.2.1.1,.i x.2.2.2.1.2,.i x.2.2.2.2.1,.i x.2.2.2.2.2]⟩⟩]⟩
def fP (x:(Int×Int×I6)) (s:Int):Int⊕(Unit⊕Unit):=
 (if (s<3) then
 (if ((List.getD [x.2.2.1.1,x.2.2.1.2,x.2.2.2.1.1,x.2.2.2.1.2,x.2.2.2.2.1,x.2.2.2.2.2] ((0+(s.toNat*2))+0) 0)<0) then
 (Sum.inr (Sum.inl ())) else
 (if ((List.getD [x.2.2.1.1,x.2.2.1.2,x.2.2.2.1.1,x.2.2.2.1.2,x.2.2.2.2.1,x.2.2.2.2.2] ((0+(s.toNat*2))+0) 0)>=(aj (16*x.1))) then
 (Sum.inr (Sum.inl ())) else
 (if ((List.getD [x.2.2.1.1,x.2.2.1.2,x.2.2.2.1.1,x.2.2.2.1.2,x.2.2.2.2.1,x.2.2.2.2.2] ((0+(s.toNat*2))+1) 0)<0) then
 (Sum.inr (Sum.inl ())) else
 (if ((List.getD [x.2.2.1.1,x.2.2.1.2,x.2.2.2.1.1,x.2.2.2.1.2,x.2.2.2.2.1,x.2.2.2.2.2] ((0+(s.toNat*2))+1) 0)>=(aj (16*x.2.1))) then
 (Sum.inr (Sum.inl ())) else
 (Sum.inl (aj (s+1))))))) else
 (Sum.inr (Sum.inr (()))))
def jU (x:(Int×Int×I6)) (s:Int):Prop:=
 ((s<3)->
 (((0<=s)/\ (s<3))/\
 (((((0+(s.toNat*2))+0)+1)<=6)/\
 (¬((List.getD [x.2.2.1.1,x.2.2.1.2,x.2.2.2.1.1,x.2.2.2.1.2,x.2.2.2.2.1,x.2.2.2.2.2] ((0+(s.toNat*2))+0) 0)<0)->
 (((0<=s)/\ (s<3))/\
 (((((0+(s.toNat*2))+0)+1)<=6)/\
 (¬((List.getD [x.2.2.1.1,x.2.2.1.2,x.2.2.2.1.1,x.2.2.2.1.2,x.2.2.2.2.1,x.2.2.2.2.2] ((0+(s.toNat*2))+0) 0)>=(aj (16*x.1)))->
 (((0<=s)/\ (s<3))/\
 (((((0+(s.toNat*2))+1)+1)<=6)/\
 (¬((List.getD [x.2.2.1.1,x.2.2.1.2,x.2.2.2.1.1,x.2.2.2.1.2,x.2.2.2.2.1,x.2.2.2.2.2] ((0+(s.toNat*2))+1) 0)<0)->
 (((0<=s)/\ (s<3))/\
 ((((0+(s.toNat*2))+1)+1)<=6))))))))))))
abbrev Zk (x:(Int×Int×I6)):= [x.2.2.1.1,x.2.2.1.2,x.2.2.2.1.1,x.2.2.2.1.2,x.2.2.2.2.1,x.2.2.2.2.2]
def yn (x:(Int×Int×I6)) (s:Int):Tr (Int⊕(Unit⊕Unit)) true:=
 (.i10 (s<3)
 (.oR s 3
 (.od ((((0+((tN s)*2))+0)+1)<=6)
 (.nK ((List.getD (Zk x) ((0+((tN s)*2))+0) z0)<z0)
 (.ret (.inr (Sum.inl ())))
 (.oR s 3
 (.od ((((0+((tN s)*2))+0)+1)<=6)
 (.nK ((List.getD (Zk x) ((0+((tN s)*2))+0) z0)>=(aj (16*x.1)))
 (.ret (.inr (Sum.inl ())))
 (.oR s 3
 (.od ((((0+((tN s)*2))+1)+1)<=6)
 (.nK ((List.getD (Zk x) ((0+((tN s)*2))+1) z0)<z0)
 (.ret (.inr (Sum.inl ())))
 (.oR s 3
 (.od ((((0+((tN s)*2))+1)+1)<=6)
 (.fm ((List.getD (Zk x) ((0+((tN s)*2))+1) z0)>=(aj (16*x.2.1)))
 (.ret (.inr (Sum.inl ())))
 (.ret (.inl (w1 s)))))))))))))))
 (.ret (.inr (Sum.inr (())))))
def uj (x:(Int×Int×I6)):Bool:=
 (aq (run (fP x) 0) fun r=>
 (Sum.elim (fun a=>
 false) (fun b=>
 (aq (cW x.2.2) fun y=>
 y)) r))
def s7 (x:(Int×Int×I6)):Prop:=
 (Term (fP x) (jU x) 0)
def UD (x:(Int×Int×I6)):Tr Bool true:=
 (aF.lp (D4 x) (yn x) z0 fun r=>
 (.ri r (fun a=>
 (.ret false)) (fun b=>
 (.fn0 fZ x.2.2 trivial fun y=>
 (.ret y)))))
abbrev sr:bB:=⟨(.pair (.one yi) (.pair (.one yi) (.agg aZ))),(.one Ty.bool),s7,uj⟩
theorem R6:ah Tryz.prog 82 (ak sr):=ah.tr sr UD (fn:=Tryz.f82) ax pJ mixed (by kernel_rfl) (av.nil _ _) (fun x=>(au.tr ax (ae.bD pJ (av.nil _ _)) mixed 0 (D4 x) (yn x) au.nil (by kernel_rfl) fun g s Q=>(by kernel_rfl))) (fun x=>(by kernel_rfl)) fun x Q=>(by kernel_rfl)
def E4:List (Nat×Ev.Spec):=(82,ak sr)::E3
theorem fH:ae Tryz.prog E4:=ae.add (fn:=Tryz.f82) (by kernel_rfl) R6 pJ
def D5 (x:(Int×Int×List I6)):aF:=⟨[],⟨bq 81 0 [(0,.v (.one (.i .i64))),(1,.v (.one (.i .i64))),(2,.v (.one (.full 0))),(8,.v (.one (.i .i64)))],[.row aZ 0],0,none,[],[0,1,3],[2],[.i],[.i x.1,.i x.2.1,.l aZ x.2.2]⟩,[⟨.ret,.ret,⟨bq 81 0 [(6,.v (.one (.raw))),(7,.v (.one (.i .i64)))],[],0,none,[],[0,1],[],[],[.v (.slice none 0 0),.i 1]⟩⟩,⟨(.exit 0),.normal,⟨bq 81 0 [(0,.v (.one (.i .i64))),(1,.v (.one (.i .i64))),(2,.v (.one (.full 0)))],[.row aZ 0],0,none,[],[0,1,2],[],[],[.i x.1,.i x.2.1,.l aZ x.2.2]⟩⟩]⟩
def dQ (x:(Int×Int×List I6)) (s:Int):Int⊕(Unit⊕Unit):=
 (if (s<(x.2.2.length:Int)) then
 (aq (uj (x.1,x.2.1,(x.2.2.getD s.toNat ((0,0),(0,0),0,0)))) fun y=>
 (if ((!y)=true) then
 (Sum.inr (Sum.inl ())) else
 (Sum.inl (aj (s+1))))) else
 (Sum.inr (Sum.inr (()))))
def jV (x:(Int×Int×List I6)) (s:Int):Prop:=
 ((s<(x.2.2.length:Int))->
 (((0<=s)/\ (s<(x.2.2.length:Int)))/\
 ((s.toNat<x.2.2.length)/\
 ((s.toNat<x.2.2.length)/\
 (s7 (x.1,x.2.1,(x.2.2.getD s.toNat ((0,0),(0,0),0,0))))))))
def yo (x:(Int×Int×List I6)) (s:Int):Tr (Int⊕(Unit⊕Unit)) true:=
 (.i10 (s<(nL x.2.2))
 (.gu s x.2.2
 (.fn sr (x.1,x.2.1,(gT x.2.2 s aK)) fun y=>
 (.cQ (!y)
 (.ret (.inr (Sum.inl ())))
 (.ret (.inl (w1 s))))))
 (.ret (.inr (Sum.inr (())))))
def D8 (x:(Int×Int×List I6)):aF:=⟨[],⟨bq 81 0 [(0,.v (.one (.i .i64))),(1,.v (.one (.i .i64))),(2,.v (.one (.full 0))),(9,.v (.one (.full 1))),(10,.v (.one (.i .i64))),(11,.v (.one (.i .i64))),(12,.v (.one (.i .i64))),(13,.v (.one (.i .i64)))],[.row aZ 0,.row yi 2],0,none,[],[0,1,6],[7,2,3,4,5],[(.l yi),.i,.i,.i,.i],[.i x.1,.i x.2.1,.l aZ x.2.2]⟩,[⟨(.exit 6),.normal,⟨bq 81 0 [(0,.v (.one (.i .i64))),(1,.v (.one (.i .i64))),(2,.v (.one (.full 0))),(9,.v (.one (.full 1))),(10,.v (.one (.i .i64))),(11,.v (.one (.i .i64))),(12,.v (.one (.i .i64)))],[.row aZ 0,.row yi 2],0,none,[],[0,1,5],[6,2,3,4],[(.l yi),.i,.i,.i],[.i x.1,.i x.2.1,.l aZ x.2.2]⟩⟩]⟩
def cK (x:(Int×Int×List I6)) (s:(List Int×Int×I3)):(List Int×Int×I3)⊕(List Int×I3):=
 (if (s.2.2.2.2<(x.2.2.length:Int)) then
 (if (s.2.2.2.1<0) then
 (aq (uh (s.2.2.1,s.2.1,(x.2.2.getD s.2.2.2.2.toNat ((0,0),(0,0),0,0)))) fun y=>
 (if (y.1=true) then
 (Sum.inl (s.1,s.2.1,s.2.2.1,s.2.2.2.2,(aj (s.2.2.2.2+1)))) else
 (Sum.inl (s.1,s.2.1,s.2.2.1,s.2.2.2.1,(aj (s.2.2.2.2+1)))))) else
 (Sum.inr ((s.1,s.2.1,s.2.2.1,s.2.2.2.1)))) else
 (Sum.inr ((s.1,s.2.1,s.2.2.1,s.2.2.2.1))))
def eU (x:(Int×Int×List I6)) (s:(List Int×Int×I3)):Prop:=
 ((s.2.2.2.2<(x.2.2.length:Int))->
 ((s.2.2.2.1<0)->
 (((0<=s.2.2.2.2)/\ (s.2.2.2.2<(x.2.2.length:Int)))/\
 ((s.2.2.2.2.toNat<x.2.2.length)/\
 ((s.2.2.2.2.toNat<x.2.2.length)/\
 (nW (s.2.2.1,s.2.1,(x.2.2.getD s.2.2.2.2.toNat ((0,0),(0,0),0,0)))))))))
def yu (x:(Int×Int×List I6)) (s:(List Int×Int×I3)):Tr ((List Int×Int×I3)⊕(List Int×I3)) true:=
 (.i10 (s.2.2.2.2<(nL x.2.2))
 (.i10 (s.2.2.2.1<z0)
 (.gu s.2.2.2.2 x.2.2
 (.fn sq (s.2.2.1,s.2.1,(gT x.2.2 s.2.2.2.2 aK)) fun y=>
 (.cQ y.1
 (.ret (.inl (s.1,s.2.1,s.2.2.1,s.2.2.2.2,(w1 s.2.2.2.2))))
 (.ret (.inl (s.1,s.2.1,s.2.2.1,s.2.2.2.1,(w1 s.2.2.2.2)))))))
 (.ret (.inr ((s.1,s.2.1,s.2.2.1,s.2.2.2.1)))))
 (.ret (.inr ((s.1,s.2.1,s.2.2.1,s.2.2.2.1)))))
def D7 (x:(Int×Int×List I6)):aF:=⟨[],⟨bq 81 0 [(0,.v (.one (.i .i64))),(1,.v (.one (.i .i64))),(2,.v (.one (.full 0))),(9,.v (.one (.full 1))),(10,.v (.one (.i .i64))),(11,.v (.one (.i .i64)))],[.row aZ 0,.row yi 2],0,none,[],[0,1,4],[5,2,3],[(.l yi),.i,.i],[.i x.1,.i x.2.1,.l aZ x.2.2]⟩,[⟨(.exit 4),.normal,⟨bq 81 0 [(0,.v (.one (.i .i64))),(1,.v (.one (.i .i64))),(2,.v (.one (.full 0))),(9,.v (.one (.full 1))),(10,.v (.one (.i .i64)))],[.row aZ 0,.row yi 2],0,none,[],[0,1,3],[4,2],[(.l yi),.i],[.i x.1,.i x.2.1,.l aZ x.2.2]⟩⟩]⟩
def fQ (x:(Int×Int×List I6)) (s:(List Int×I2)):(List Int×I2)⊕(List Int×Int):=
 (if (s.2.2<x.1) then
 (aq (run (cK x) (s.1,s.2.1,s.2.2,(-1),0)) fun r=>
 (Sum.inl ((r.1++ [r.2.2.2]),r.2.1,(aj (r.2.2.1+1))))) else
 (Sum.inr ((s.1,s.2.1))))
def jX (x:(Int×Int×List I6)) (s:(List Int×I2)):Prop:=
 ((s.2.2<x.1)->
 (Term (cK x) (eU x) (s.1,s.2.1,s.2.2,(-1),0)/\
 az (run (cK x) (s.1,s.2.1,s.2.2,(-1),0)) fun r=>
 ((r.1.length+1)<1099511627776)))
def yq (x:(Int×Int×List I6)) (s:(List Int×I2)):Tr ((List Int×I2)⊕(List Int×Int)) true:=
 (.i10 (s.2.2<x.1)
 (aF.lp (D8 x) (yu x) (s.1,s.2.1,s.2.2,(-1),z0) fun r=>
 (.od ((r.1.length+1)<1099511627776)
 (.ret (.inl ((r.1++ [r.2.2.2]),r.2.1,(w1 r.2.2.1))))))
 (.ret (.inr ((s.1,s.2.1)))))
def D6 (x:(Int×Int×List I6)):aF:=⟨[],⟨bq 81 0 [(0,.v (.one (.i .i64))),(1,.v (.one (.i .i64))),(2,.v (.one (.full 0))),(9,.v (.one (.full 1))),(10,.v (.one (.i .i64)))],[.row aZ 0,.row yi 2],0,none,[],[0,1,3],[4,2],[(.l yi),.i],[.i x.1,.i x.2.1,.l aZ x.2.2]⟩,[⟨(.exit 2),.normal,⟨bq 81 0 [(9,.v (.one (.full 0)))],[.row yi 2],0,none,[],[],[0],[(.l yi)],[]⟩⟩]⟩
def dR (x:(Int×Int×List I6)) (s:(List Int×Int)):(List Int×Int)⊕(List Int):=
 (if (s.2<x.2.1) then
 (aq (run (fQ x) (s.1,s.2,0)) fun r=>
 (Sum.inl (r.1,(aj (r.2+1))))) else
 (Sum.inr (s.1)))
def jW (x:(Int×Int×List I6)) (s:(List Int×Int)):Prop:=
 ((s.2<x.2.1)->
 (Term (fQ x) (jX x) (s.1,s.2,0)))
def yp (x:(Int×Int×List I6)) (s:(List Int×Int)):Tr ((List Int×Int)⊕(List Int)) true:=
 (.i10 (s.2<x.2.1)
 (aF.lp (D7 x) (yq x) (s.1,s.2,z0) fun r=>
 (.ret (.inl (r.1,(w1 r.2)))))
 (.ret (.inr (s.1))))
def uk (x:(Int×Int×List I6)):(List Int×Int):=
 (if (x.1<1) then
 ([],1) else
 (if (x.1>256) then
 ([],1) else
 (if (x.2.1<1) then
 ([],1) else
 (if (x.2.1>256) then
 ([],1) else
 (aq (run (dQ x) 0) fun r=>
 (Sum.elim (fun a=>
 ([],1)) (fun b=>
 (aq (run (dR x) ([],0)) fun r_1=>
 (r_1,0))) r))))))
def nX (x:(Int×Int×List I6)):Prop:=
 (¬(x.1<1)->
 (¬(x.1>256)->
 (¬(x.2.1<1)->
 (¬(x.2.1>256)->
 (Term (dQ x) (jV x) 0/\
 az (run (dQ x) 0) fun r=>
 (cS r (fun a=>
 True) (fun b=>
 (Term (dR x) (jW x) ([],0)))))))))
def UE (x:(Int×Int×List I6)):Tr (List Int×Int) true:=
 (.nK (x.1<z1)
 (.ret ([],z1))
 (.nK (x.1>256)
 (.ret ([],z1))
 (.nK (x.2.1<z1)
 (.ret ([],z1))
 (.nK (x.2.1>256)
 (.ret ([],z1))
 (aF.lp (D5 x) (yo x) z0 fun r=>
 (.s01 r (fun a=>
 (.ret ([],z1))) (fun b=>
 (aF.lp (D6 x) (yp x) ([],z0) fun r_1=>
 (.ret (r_1,z0))))))))))
abbrev su:bB:=⟨(.pair (.one yi) (.pair (.one yi) (.one (Ty.sl aZ)))),(.pair (.one (Ty.sl yi)) (.one yi)),nX,uk⟩
theorem R7:ah Tryz.prog 40 (ak su):=ah.tr su UE (fn:=Tryz.f40) ax fH mixed (by kernel_rfl) (av.nil _ _) (fun x=>(au.tr ax (ae.bD fH (av.nil _ _)) mixed 0 (D5 x) (yo x) (au.tr ax (ae.bD fH (av.nil _ _)) mixed 2 (D6 x) (yp x) (au.tr ax (ae.bD fH (av.nil _ _)) mixed 4 (D7 x) (yq x) (au.tr ax (ae.bD fH (av.nil _ _)) mixed 6 (D8 x) (yu x) au.nil (by kernel_rfl) fun g s Q=>(by kernel_rfl)) (by kernel_rfl) fun g s Q=>(by kernel_rfl)) (by kernel_rfl) fun g s Q=>(by kernel_rfl)) (by kernel_rfl) fun g s Q=>(by kernel_rfl))) (fun x=>(by kernel_rfl)) fun x Q=>(by kernel_rfl)
def E5:List (Nat×Ev.Spec):=(40,ak su)::E4
theorem wW:ae Tryz.prog E5:=ae.add (fn:=Tryz.f40) (by kernel_rfl) R7 fH
def nq (x:I2):(I2×Int):=
 (if (x.1<0) then
 ((0,0),5) else
 (if (x.1>255) then
 ((0,0),5) else
 (if (x.2<0) then
 ((0,0),5) else
 (if (x.2>255) then
 ((0,0),5) else
 (((aj ((aj (16*x.1))+8)),(aj ((aj (16*x.2))+8))),0)))))
def NJ (_:I2):Prop:=True
def UH (x:I2):Tr (I2×Int) false:=
 (.fm (x.1<z0)
 (.ret (jg,5))
 (.fm (x.1>255)
 (.ret (jg,5))
 (.fm (x.2<z0)
 (.ret (jg,5))
 (.fm (x.2>255)
 (.ret (jg,5))
 (.ret (((aj ((aj (16*x.1))+8)),(aj ((aj (16*x.2))+8))),z0))))))
abbrev oV:bB:=⟨(.pair (.one yi) (.one yi)),(.pair (.agg aQ) (.one yi)),NJ,nq⟩
theorem Sb:ah Tryz.prog 10 (ak oV):=ah.tr oV UH (fn:=Tryz.f10) ax wW mixed (by kernel_rfl) (av.nil _ _) (fun x=>au.nil) (fun x=>(by kernel_rfl)) fun x Q=>(by kernel_rfl)
def E9:List (Nat×Ev.Spec):=(10,ak oV)::E5
theorem wX:ae Tryz.prog E9:=ae.add (fn:=Tryz.f10) (by kernel_rfl) Sb wW
def oW (x:(Int×Int×I6×I9)):(I3×Int):=
 (aq (nq (x.1,x.2.1)) fun y=>
 (if ((y.2 !=0)=true) then
 ((0,0,0),y.2) else
 (aq (jA (y.1,x.2.2.1)) fun aB=>
 (if ((aB.2.2 !=0)=true) then
 ((0,0,0),aB.2.2) else
 (aq (DG (aB.1,x.2.2)) fun y_2=>
 y_2)))))
def mA (x:(Int×Int×I6×I9)):Prop:=
 (az (nq (x.1,x.2.1)) fun y=>
 (¬((y.2 !=0)=true)->
 ((gR (y.1,x.2.2.1))/\
 az (jA (y.1,x.2.2.1)) fun aB=>
 (¬((aB.2.2 !=0)=true)->
 (rZ (aB.1,x.2.2))))))
def XK (x:(Int×Int×I6×I9)):Tr (I3×Int) true:=
 (.fn0 oV (x.1,x.2.1) trivial fun y=>
 (.dy (y.2 !=z0)
 (.ret (ef,y.2))
 (.fn pX (y.1,x.2.2.1) fun aB=>
 (.dy (aB.2.2 !=z0)
 (.ret (ef,aB.2.2))
 (.fn zY (aB.1,x.2.2) fun y_2=>
 (.ret y_2))))))
abbrev qP:bB:=⟨(.pair (.one yi) (.pair (.one yi) (.pair (.agg aZ) (.agg fk)))),(.pair (.agg aU) (.one yi)),mA,oW⟩
theorem UJ:ah Tryz.prog 12 (ak qP):=ah.tr qP XK (fn:=Tryz.f12) ax wX mixed (by kernel_rfl) (av.nil _ _) (fun x=>au.nil) (fun x=>(by kernel_rfl)) fun x Q=>(by kernel_rfl)
def Im:List (Nat×Ev.Spec):=(12,ak qP)::E9
theorem q6:ae Tryz.prog Im:=ae.add (fn:=Tryz.f12) (by kernel_rfl) UJ wX
def Ls (x:eB):aF:=⟨[],⟨bq 38 0 [(2,.v (.one (.ptr 0 0))),(5,.v (.one (.full 5))),(6,.v (.one (.i .i64)))],[.cells [.full 1,.full 2,.full 3,.full 4] 32,.row aU 0,.row aQ 0,.row aU 0,.row fk 0,.row yi 2],0,none,[],[1,2,3,4],[5,0],[(.l yi),.i],[.l aU x.1.1,.l aQ x.1.2.1,.l aU x.1.2.2.1,.l fk x.1.2.2.2]⟩,[⟨.ret,.ret,⟨bq 38 0 [(4,.v (.one (.b)))],[],0,none,[],[0],[],[],[.b false]⟩⟩,⟨(.exit 0),.normal,⟨bq 38 0 [],[],0,none,[],[],[],[],[]⟩⟩]⟩
def iQ (x:eB) (s:(List Int×Int)):(List Int×Int)⊕(Unit⊕Unit):=
 (if (s.2<(s.1.length:Int)) then
 (if ((s.1.getD s.2.toNat 0)<0) then
 (Sum.inr (Sum.inl ())) else
 (if ((s.1.getD s.2.toNat 0)>=(x.1.2.2.2.length:Int)) then
 (Sum.inr (Sum.inl ())) else
 (Sum.inl (s.1,(aj (s.2+1)))))) else
 (Sum.inr (Sum.inr (()))))
def mz (x:eB) (s:(List Int×Int)):Prop:=
 ((s.2<(s.1.length:Int))->
 (((0<=s.2)/\ (s.2<(s.1.length:Int)))/\
 ((s.2.toNat<s.1.length)/\
 ((s.2.toNat<s.1.length)/\
 (¬((s.1.getD s.2.toNat 0)<0)->
 (((0<=s.2)/\ (s.2<(s.1.length:Int)))/\
 ((s.2.toNat<s.1.length)/\
 (s.2.toNat<s.1.length))))))))
def Eb (x:eB) (s:(List Int×Int)):Tr ((List Int×Int)⊕(Unit⊕Unit)) true:=
 (.i10 (s.2<(nL s.1))
 (.gu s.2 s.1
 (.nK ((gI s.1 s.2)<z0)
 (.ret (.inr (Sum.inl ())))
 (.gu s.2 s.1
 (.fm ((gI s.1 s.2)>=(nL x.1.2.2.2))
 (.ret (.inr (Sum.inl ())))
 (.ret (.inl (s.1,(w1 s.2))))))))
 (.ret (.inr (Sum.inr (())))))
def vH (x:eB):Bool:=
 (aq (DH x.1) fun y=>
 (if ((!y)=true) then
 false else
 (aq (DW x.2) fun aB=>
 (if ((!aB)=true) then
 false else
 (aq (qn x.2) fun y_2=>
 (aq (run (iQ x) (y_2,0)) fun r=>
 (Sum.elim (fun a=>
 false) (fun b=>
 true) r)))))))
def sw (x:eB):Prop:=
 ((r8 x.1)/\
 az (DH x.1) fun y=>
 (¬((!y)=true)->
 ((ug x.2)/\
 az (DW x.2) fun aB=>
 (¬((!aB)=true)->
 ((nV x.2)/\
 az (qn x.2) fun y_2=>
 (Term (iQ x) (mz x) (y_2,0)))))))
def abS (x:eB):Tr Bool true:=
 (.fn z6 x.1 fun y=>
 (.dy (!y)
 (.ret false)
 (.fn DX x.2 fun aB=>
 (.dy (!aB)
 (.ret false)
 (.fn oT x.2 fun y_2=>
 (aF.lp (Ls x) (Eb x) (y_2,z0) fun r=>
 (.ri r (fun a=>
 (.ret false)) (fun b=>
 (.ret true)))))))))
abbrev Aj:bB:=⟨(.pair (.agg (Ty.prod (Ty.sl aU) (Ty.prod (Ty.sl aQ) (Ty.prod (Ty.sl aU) (Ty.sl fk))))) (.agg (Ty.prod yi (Ty.prod yi (Ty.prod yi (Ty.prod (Ty.sl (Ty.prod (Ty.sl yi) (Ty.prod (Ty.sl aZ) aQ))) (Ty.sl (Ty.prod yi aU)))))))),(.one Ty.bool),sw,vH⟩
theorem XJ:ah Tryz.prog 37 (ak Aj):=ah.tr Aj abS (fn:=Tryz.f37) ax q6 mixed (by kernel_rfl) (av.nil _ _) (fun x=>(au.tr ax (ae.bD q6 (av.nil _ _)) mixed 0 (Ls x) (Eb x) au.nil (by kernel_rfl) fun g s Q=>(by kernel_rfl))) (fun x=>(by kernel_rfl)) fun x Q=>(by kernel_rfl)
def Ms:List (Nat×Ev.Spec):=(37,ak Aj)::Im
theorem ot:ae Tryz.prog Ms:=ae.add (fn:=Tryz.f37) (by kernel_rfl) XJ q6
def A4 (x:eB):aF:=⟨[],⟨bq 90 0 [(2,.v (.one (.ptr 0 0))),(3,.v (.one (.ptr 5 0))),(6,.v (.one (.full 8))),(9,.v (.one (.full 9))),(10,.v (.one (.full 10))),(12,.v (.one (.full 11))),(13,.v (.one (.i .i64))),(14,.v (.one (.i .i64)))],[.cells [.full 1,.full 2,.full 3,.full 4] 32,.row aU 0,.row aQ 0,.row aU 0,.row fk 0,.cells [.i .i64,.i .i64,.i .i64,.full 6,.full 7] 36,.row (Ty.prod (Ty.sl yi) (Ty.prod (Ty.sl aZ) aQ)) 0,.row (Ty.prod yi aU) 0,.row aZ 2,.row yi 2,.row yi 2,.row (Ty.prod yi (Ty.prod yi (Ty.prod yi aU))) 2],0,none,[],[2,3,4,5,6,7,8,9,10],[11,12,13,14,0,1],[(.l aZ),(.l yi),(.l yi),(.l (Ty.prod yi (Ty.prod yi (Ty.prod yi aU)))),.i,.i],[.l aU x.1.1,.l aQ x.1.2.1,.l aU x.1.2.2.1,.l fk x.1.2.2.2,.i x.2.1,.i x.2.2.1,.i x.2.2.2.1,.l (Ty.prod (Ty.sl yi) (Ty.prod (Ty.sl aZ) aQ)) x.2.2.2.2.1,.l (Ty.prod yi aU) x.2.2.2.2.2]⟩,[⟨(.exit 2),.normal,⟨bq 90 0 [(2,.v (.one (.ptr 0 0))),(3,.v (.one (.ptr 5 0))),(6,.v (.one (.full 8))),(9,.v (.one (.full 9))),(10,.v (.one (.full 10))),(12,.v (.one (.full 11))),(13,.v (.one (.i .i64)))],[.cells [.full 1,.full 2,.full 3,.full 4] 32,.row aU 0,.row aQ 0,.row aU 0,.row fk 0,.cells [.i .i64,.i .i64,.i .i64,.full 6,.full 7] 36,.row (Ty.prod (Ty.sl yi) (Ty.prod (Ty.sl aZ) aQ)) 0,.row (Ty.prod yi aU) 0,.row aZ 2,.row yi 2,.row yi 2,.row (Ty.prod yi (Ty.prod yi (Ty.prod yi aU))) 2],0,none,[],[1,2,3,4,5,6,7,8,9],[10,11,12,13,0],[(.l aZ),(.l yi),(.l yi),(.l (Ty.prod yi (Ty.prod yi (Ty.prod yi aU)))),.i],[.l aU x.1.1,.l aQ x.1.2.1,.l aU x.1.2.2.1,.l fk x.1.2.2.2,.i x.2.1,.i x.2.2.1,.i x.2.2.2.1,.l (Ty.prod (Ty.sl yi) (Ty.prod (Ty.sl aZ) aQ)) x.2.2.2.2.1,.l (Ty.prod yi aU) x.2.2.2.2.2]⟩⟩]⟩
def dB (x:eB) (s:Aw):Aw⊕wC:=
 (if (s.2.2.2.2.2<x.2.1) then
 (if ((s.2.2.1.getD (Int.toNat (aj ((aj (s.2.2.2.2.1*x.2.1))+s.2.2.2.2.2))) 0)>=0) then
 (aq (zZ (x.1,(s.2.1.getD (Int.toNat (s.2.2.1.getD (Int.toNat (aj ((aj (s.2.2.2.2.1*x.2.1))+s.2.2.2.2.2))) 0)) 0))) fun y=>
 (aq (oW (s.2.2.2.2.2,s.2.2.2.2.1,(s.1.getD (Int.toNat (s.2.2.1.getD (Int.toNat (aj ((aj (s.2.2.2.2.1*x.2.1))+s.2.2.2.2.2))) 0)) ((0,0),(0,0),0,0)),y)) fun aB=>
 (Sum.inl (s.1,s.2.1,s.2.2.1,(s.2.2.2.1++ [(s.2.2.2.2.2,s.2.2.2.2.1,(s.2.1.getD (Int.toNat (s.2.2.1.getD (Int.toNat (aj ((aj (s.2.2.2.2.1*x.2.1))+s.2.2.2.2.2))) 0)) 0),aB.1)]),s.2.2.2.2.1,(aj (s.2.2.2.2.2+1)))))) else
 (Sum.inl (s.1,s.2.1,s.2.2.1,s.2.2.2.1,s.2.2.2.2.1,(aj (s.2.2.2.2.2+1))))) else
 (Sum.inr ((s.1,s.2.1,s.2.2.1,s.2.2.2.1,s.2.2.2.2.1))))
def fR (x:eB) (s:Aw):Prop:=
 ((s.2.2.2.2.2<x.2.1)->
 (((0<=(aj ((aj (s.2.2.2.2.1*x.2.1))+s.2.2.2.2.2)))/\ ((aj ((aj (s.2.2.2.2.1*x.2.1))+s.2.2.2.2.2))<(s.2.2.1.length:Int)))/\
 (((Int.toNat (aj ((aj (s.2.2.2.2.1*x.2.1))+s.2.2.2.2.2)))<s.2.2.1.length)/\
 (((Int.toNat (aj ((aj (s.2.2.2.2.1*x.2.1))+s.2.2.2.2.2)))<s.2.2.1.length)/\
 (((s.2.2.1.getD (Int.toNat (aj ((aj (s.2.2.2.2.1*x.2.1))+s.2.2.2.2.2))) 0)>=0)->
 (((0<=(s.2.2.1.getD (Int.toNat (aj ((aj (s.2.2.2.2.1*x.2.1))+s.2.2.2.2.2))) 0))/\ ((s.2.2.1.getD (Int.toNat (aj ((aj (s.2.2.2.2.1*x.2.1))+s.2.2.2.2.2))) 0)<(s.1.length:Int)))/\
 (((Int.toNat (s.2.2.1.getD (Int.toNat (aj ((aj (s.2.2.2.2.1*x.2.1))+s.2.2.2.2.2))) 0))<s.1.length)/\
 (((Int.toNat (s.2.2.1.getD (Int.toNat (aj ((aj (s.2.2.2.2.1*x.2.1))+s.2.2.2.2.2))) 0))<s.1.length)/\
 (((0<=(s.2.2.1.getD (Int.toNat (aj ((aj (s.2.2.2.2.1*x.2.1))+s.2.2.2.2.2))) 0))/\ ((s.2.2.1.getD (Int.toNat (aj ((aj (s.2.2.2.2.1*x.2.1))+s.2.2.2.2.2))) 0)<(s.2.1.length:Int)))/\
 (((Int.toNat (s.2.2.1.getD (Int.toNat (aj ((aj (s.2.2.2.2.1*x.2.1))+s.2.2.2.2.2))) 0))<s.2.1.length)/\
 (((Int.toNat (s.2.2.1.getD (Int.toNat (aj ((aj (s.2.2.2.2.1*x.2.1))+s.2.2.2.2.2))) 0))<s.2.1.length)/\
 ((nO (x.1,(s.2.1.getD (Int.toNat (s.2.2.1.getD (Int.toNat (aj ((aj (s.2.2.2.2.1*x.2.1))+s.2.2.2.2.2))) 0)) 0)))/\
 az (zZ (x.1,(s.2.1.getD (Int.toNat (s.2.2.1.getD (Int.toNat (aj ((aj (s.2.2.2.2.1*x.2.1))+s.2.2.2.2.2))) 0)) 0))) fun y=>
 ((mA (s.2.2.2.2.2,s.2.2.2.2.1,(s.1.getD (Int.toNat (s.2.2.1.getD (Int.toNat (aj ((aj (s.2.2.2.2.1*x.2.1))+s.2.2.2.2.2))) 0)) ((0,0),(0,0),0,0)),y))/\
 az (oW (s.2.2.2.2.2,s.2.2.2.2.1,(s.1.getD (Int.toNat (s.2.2.1.getD (Int.toNat (aj ((aj (s.2.2.2.2.1*x.2.1))+s.2.2.2.2.2))) 0)) ((0,0),(0,0),0,0)),y)) fun aB=>
 (((0<=(s.2.2.1.getD (Int.toNat (aj ((aj (s.2.2.2.2.1*x.2.1))+s.2.2.2.2.2))) 0))/\ ((s.2.2.1.getD (Int.toNat (aj ((aj (s.2.2.2.2.1*x.2.1))+s.2.2.2.2.2))) 0)<(s.2.1.length:Int)))/\
 (((Int.toNat (s.2.2.1.getD (Int.toNat (aj ((aj (s.2.2.2.2.1*x.2.1))+s.2.2.2.2.2))) 0))<s.2.1.length)/\
 (((Int.toNat (s.2.2.1.getD (Int.toNat (aj ((aj (s.2.2.2.2.1*x.2.1))+s.2.2.2.2.2))) 0))<s.2.1.length)/\
 ((s.2.2.2.1.length+1)<1099511627776)))))))))))))))))
abbrev KZ (x:eB) (s:Aw):=(gI s.2.2.1 (aj ((aj (s.2.2.2.2.1*x.2.1))+s.2.2.2.2.2)))
def wN (x:eB) (s:Aw):Tr (Aw⊕wC) true:=
 (.i10 (s.2.2.2.2.2<x.2.1)
 (.gu (aj ((aj (s.2.2.2.2.1*x.2.1))+s.2.2.2.2.2)) s.2.2.1
 (.i10 ((KZ x s)>=z0)
 (.gu (KZ x s) s.1
 (.gu (KZ x s) s.2.1
 (.fn r7 (x.1,(gI s.2.1 (KZ x s))) fun y=>
 (.fn qP (s.2.2.2.2.2,s.2.2.2.2.1,(gT s.1 (KZ x s) aK),y) fun aB=>
 (.gu (KZ x s) s.2.1
 (.od ((s.2.2.2.1.length+1)<1099511627776)
 (.ret (.inl (s.1,s.2.1,s.2.2.1,(s.2.2.2.1++ [(s.2.2.2.2.2,s.2.2.2.2.1,(gI s.2.1 (KZ x s)),aB.1)]),s.2.2.2.2.1,(w1 s.2.2.2.2.2))))))))))
 (.ret (.inl (s.1,s.2.1,s.2.2.1,s.2.2.2.1,s.2.2.2.2.1,(w1 s.2.2.2.2.2))))))
 (.ret (.inr ((s.1,s.2.1,s.2.2.1,s.2.2.2.1,s.2.2.2.2.1)))))
def A3 (x:eB):aF:=⟨[],⟨bq 90 0 [(2,.v (.one (.ptr 0 0))),(3,.v (.one (.ptr 5 0))),(6,.v (.one (.full 8))),(9,.v (.one (.full 9))),(10,.v (.one (.full 10))),(12,.v (.one (.full 11))),(13,.v (.one (.i .i64)))],[.cells [.full 1,.full 2,.full 3,.full 4] 32,.row aU 0,.row aQ 0,.row aU 0,.row fk 0,.cells [.i .i64,.i .i64,.i .i64,.full 6,.full 7] 36,.row (Ty.prod (Ty.sl yi) (Ty.prod (Ty.sl aZ) aQ)) 0,.row (Ty.prod yi aU) 0,.row aZ 2,.row yi 2,.row yi 2,.row (Ty.prod yi (Ty.prod yi (Ty.prod yi aU))) 2],0,none,[],[1,2,3,4,5,6,7,8,9],[10,11,12,13,0],[(.l aZ),(.l yi),(.l yi),(.l (Ty.prod yi (Ty.prod yi (Ty.prod yi aU)))),.i],[.l aU x.1.1,.l aQ x.1.2.1,.l aU x.1.2.2.1,.l fk x.1.2.2.2,.i x.2.1,.i x.2.2.1,.i x.2.2.2.1,.l (Ty.prod (Ty.sl yi) (Ty.prod (Ty.sl aZ) aQ)) x.2.2.2.2.1,.l (Ty.prod yi aU) x.2.2.2.2.2]⟩,[⟨(.exit 0),.normal,⟨bq 90 0 [(12,.v (.one (.full 0)))],[.row (Ty.prod yi (Ty.prod yi (Ty.prod yi aU))) 2],0,none,[],[],[0],[(.l (Ty.prod yi (Ty.prod yi (Ty.prod yi aU))))],[]⟩⟩]⟩
def fc (x:eB) (s:wC):wC⊕(List (Int×Int×Int×I3)):=
 (if (s.2.2.2.2<x.2.2.1) then
 (aq (run (dB x) (s.1,s.2.1,s.2.2.1,s.2.2.2.1,s.2.2.2.2,0)) fun r=>
 (Sum.inl (r.1,r.2.1,r.2.2.1,r.2.2.2.1,(aj (r.2.2.2.2+1))))) else
 (Sum.inr (s.2.2.2.1)))
def jk (x:eB) (s:wC):Prop:=
 ((s.2.2.2.2<x.2.2.1)->
 (Term (dB x) (fR x) (s.1,s.2.1,s.2.2.1,s.2.2.2.1,s.2.2.2.2,0)))
def wM (x:eB) (s:wC):Tr (wC⊕(List (Int×Int×Int×I3))) true:=
 (.i10 (s.2.2.2.2<x.2.2.1)
 (aF.lp (A4 x) (wN x) (s.1,s.2.1,s.2.2.1,s.2.2.2.1,s.2.2.2.2,z0) fun r=>
 (.ret (.inl (r.1,r.2.1,r.2.2.1,r.2.2.2.1,(w1 r.2.2.2.2)))))
 (.ret (.inr (s.2.2.2.1))))
def qQ (x:eB):(List (Int×Int×Int×I3)×Int):=
 (aq (vH x) fun y=>
 (if ((!y)=true) then
 ([],1) else
 (aq (Cb x.2) fun aB=>
 (aq (qn x.2) fun y_2=>
 (aq (uk (x.2.1,x.2.2.1,aB.1)) fun bh=>
 (aq (run (fc x) (aB.1,y_2,bh.1,[],0)) fun r=>
 (r,0)))))))
def mC (x:eB):Prop:=
 ((sw x)/\
 az (vH x) fun y=>
 (¬((!y)=true)->
 ((vA x.2)/\
 az (Cb x.2) fun aB=>
 ((nV x.2)/\
 az (qn x.2) fun y_2=>
 ((nX (x.2.1,x.2.2.1,aB.1))/\
 az (uk (x.2.1,x.2.2.1,aB.1)) fun bh=>
 (Term (fc x) (jk x) (aB.1,y_2,bh.1,[],0)))))))
def Sc (x:eB):Tr (List (Int×Int×Int×I3)×Int) true:=
 (.fn Aj x fun y=>
 (.dy (!y)
 (.ret ([],z1))
 (.fn DT x.2 fun aB=>
 (.fn oT x.2 fun y_2=>
 (.fn su (x.2.1,x.2.2.1,aB.1) fun bh=>
 (aF.lp (A3 x) (wM x) (aB.1,y_2,bh.1,[],z0) fun r=>
 (.ret (r,z0))))))))
abbrev qb:bB:=⟨(.pair (.agg (Ty.prod (Ty.sl aU) (Ty.prod (Ty.sl aQ) (Ty.prod (Ty.sl aU) (Ty.sl fk))))) (.agg (Ty.prod yi (Ty.prod yi (Ty.prod yi (Ty.prod (Ty.sl (Ty.prod (Ty.sl yi) (Ty.prod (Ty.sl aZ) aQ))) (Ty.sl (Ty.prod yi aU)))))))),(.pair (.one (Ty.sl (Ty.prod yi (Ty.prod yi (Ty.prod yi aU))))) (.one yi)),mC,qQ⟩
theorem NK:ah Tryz.prog 14 (ak qb):=ah.tr qb Sc (fn:=Tryz.f14) ax ot mixed (by kernel_rfl) (av.nil _ _) (fun x=>(au.tr ax (ae.bD ot (av.nil _ _)) mixed 0 (A3 x) (wM x) (au.tr ax (ae.bD ot (av.nil _ _)) mixed 2 (A4 x) (wN x) au.nil (by kernel_rfl) fun g s Q=>(by kernel_rfl)) (by kernel_rfl) fun g s Q=>(by kernel_rfl))) (fun x=>(by kernel_rfl)) fun x Q=>(by kernel_rfl)
def Bs:List (Nat×Ev.Spec):=(14,ak qb)::Ms
theorem nB:ae Tryz.prog Bs:=ae.add (fn:=Tryz.f14) (by kernel_rfl) NK ot
def UG (x:(List (Int×Int×Int×I3)×I2)):aF:=⟨[],⟨bq 36 0 [(0,.v (.one (.full 0))),(1,.v (.one (.i .i64))),(2,.v (.one (.i .i64))),(6,.v (.one (.ptr 1 0))),(8,.v (.one (.i .i64)))],[.row (Ty.prod yi (Ty.prod yi (Ty.prod yi aU))) 0,.cells [.i .i64,.i .i64,.i .i64,.i .i64,.i .i64,.i .i64] 49],0,none,[],[0,1,3,4,5,6,7,8,9],[2],[.i],[.i x.2.1,.i x.2.2,.l (Ty.prod yi (Ty.prod yi (Ty.prod yi aU))) x.1,.i 0,.i 0,.i 0,.i 0,.i 0,.i 0]⟩,[⟨.ret,.ret,⟨bq 36 0 [(6,.v (.one (.ptr 0 0))),(7,.v (.one (.b)))],[.cells [.i .i64,.i .i64,.i .i64,.i .i64,.i .i64,.i .i64] 49],0,none,[],[0],[1,2,3,4,5,6],[.i,.i,.i,.i,.i,.i],[.b true]⟩⟩,⟨(.exit 0),.normal,⟨bq 36 0 [(6,.v (.one (.ptr 0 0)))],[.cells [.i .i64,.i .i64,.i .i64,.i .i64,.i .i64,.i .i64] 49],0,none,[],[0,1,2,3,4,5],[],[],[.i 0,.i 0,.i 0,.i 0,.i 0,.i 0]⟩⟩]⟩
def kz (x:(List (Int×Int×Int×I3)×I2)) (s:Int):Int⊕((Int×Int×Int×I3)⊕Unit):=
 (if (s<(x.1.length:Int)) then
 (if (((x.1.getD s.toNat (0,0,0,0,0,0)).1==x.2.1)=true) then
 (if (((x.1.getD s.toNat (0,0,0,0,0,0)).2.1==x.2.2)=true) then
 (Sum.inr (Sum.inl ((x.1.getD s.toNat (0,0,0,0,0,0)).1,(x.1.getD s.toNat (0,0,0,0,0,0)).2.1,(x.1.getD s.toNat (0,0,0,0,0,0)).2.2.1,(x.1.getD s.toNat (0,0,0,0,0,0)).2.2.2.1,(x.1.getD s.toNat (0,0,0,0,0,0)).2.2.2.2.1,(x.1.getD s.toNat (0,0,0,0,0,0)).2.2.2.2.2))) else
 (Sum.inl (aj (s+1)))) else
 (Sum.inl (aj (s+1)))) else
 (Sum.inr (Sum.inr (()))))
def qa (x:(List (Int×Int×Int×I3)×I2)) (s:Int):Prop:=
 ((s<(x.1.length:Int))->
 (((0<=s)/\ (s<(x.1.length:Int)))/\
 ((s.toNat<x.1.length)/\
 ((s.toNat<x.1.length)/\
 ((s.toNat<x.1.length)/\
 ((((x.1.getD s.toNat (0,0,0,0,0,0)).1==x.2.1)=true)->
 (((0<=s)/\ (s<(x.1.length:Int)))/\
 ((s.toNat<x.1.length)/\
 ((s.toNat<x.1.length)/\
 ((s.toNat<x.1.length)/\
 ((((x.1.getD s.toNat (0,0,0,0,0,0)).2.1==x.2.2)=true)->
 (((0<=s)/\ (s<(x.1.length:Int)))/\
 ((s.toNat<x.1.length)/\
 (s.toNat<x.1.length))))))))))))))
def Lr (x:(List (Int×Int×Int×I3)×I2)) (s:Int):Tr (Int⊕((Int×Int×Int×I3)⊕Unit)) true:=
 (.i10 (s<(nL x.1))
 (.Dx s x.1
 (.FB ((gT x.1 s (z0,z0,z0,ef)).1==x.2.1)
 (.Dx s x.1
 (.FB ((gT x.1 s (z0,z0,z0,ef)).2.1==x.2.2)
 (.gu s x.1
 (.ret (.inr (Sum.inl ((gT x.1 s (z0,z0,z0,ef)).1,(gT x.1 s (z0,z0,z0,ef)).2.1,(gT x.1 s (z0,z0,z0,ef)).2.2.1,(gT x.1 s (z0,z0,z0,ef)).2.2.2.1,(gT x.1 s (z0,z0,z0,ef)).2.2.2.2.1,(gT x.1 s (z0,z0,z0,ef)).2.2.2.2.2)))))
 (.ret (.inl (w1 s)))))
 (.ret (.inl (w1 s)))))
 (.ret (.inr (Sum.inr (())))))
def Zm (x:(List (Int×Int×Int×I3)×I2)):((Int×Int×Int×I3)×Bool):=
 (aq (run (kz x) 0) fun r=>
 (Sum.elim (fun a=>
 (a,true)) (fun b=>
 ((0,0,0,0,0,0),false)) r))
def Gp (x:(List (Int×Int×Int×I3)×I2)):Prop:=
 (Term (kz x) (qa x) 0)
def ahN (x:(List (Int×Int×Int×I3)×I2)):Tr ((Int×Int×Int×I3)×Bool) true:=
 (aF.lp (UG x) (Lr x) z0 fun r=>
 (.ri r (fun a=>
 (.ret (a,true))) (fun b=>
 (.ret ((z0,z0,z0,ef),false)))))
abbrev Jx:bB:=⟨(.pair (.one (Ty.sl (Ty.prod yi (Ty.prod yi (Ty.prod yi aU))))) (.pair (.one yi) (.one yi))),(.pair (.agg (Ty.prod yi (Ty.prod yi (Ty.prod yi aU)))) (.one Ty.bool)),Gp,Zm⟩
theorem ae9:ah Tryz.prog 16 (ak Jx):=ah.tr Jx ahN (fn:=Tryz.f16) ax nB mixed (by kernel_rfl) (av.nil _ _) (fun x=>(au.tr ax (ae.bD nB (av.nil _ _)) mixed 0 (UG x) (Lr x) au.nil (by kernel_rfl) fun g s Q=>(by kernel_rfl))) (fun x=>(by kernel_rfl)) fun x Q=>(by kernel_rfl)
def Vu:List (Nat×Ev.Spec):=(16,ak Jx)::Bs
theorem yP:ae Tryz.prog Vu:=ae.add (fn:=Tryz.f16) (by kernel_rfl) ae9 nB
def Lt (x:wD):aF:=⟨[],⟨bq 26 0 [(0,.v (.one (.full 0))),(1,.v (.one (.full 1))),(5,.v (.one (.i .i64)))],[.row (Ty.prod yi (Ty.prod yi (Ty.prod yi aU))) 0,.row (Ty.prod yi (Ty.prod yi (Ty.prod yi aU))) 0],0,none,[],[1,2],[0],[.i],[.l (Ty.prod yi (Ty.prod yi (Ty.prod yi aU))) x.1,.l (Ty.prod yi (Ty.prod yi (Ty.prod yi aU))) x.2]⟩,[⟨.ret,.ret,⟨bq 26 0 [(4,.v (.one (.b)))],[],0,none,[],[0],[],[],[.b false]⟩⟩,⟨(.exit 0),.normal,⟨bq 26 0 [],[],0,none,[],[],[],[],[]⟩⟩]⟩
def iR (x:wD) (s:Int):Int⊕(Unit⊕Unit):=
 (if (s<(x.1.length:Int)) then
 (if ((!(((x.1.getD s.toNat (0,0,0,0,0,0)).1==(x.2.getD s.toNat (0,0,0,0,0,0)).1)&&(((x.1.getD s.toNat (0,0,0,0,0,0)).2.1==(x.2.getD s.toNat (0,0,0,0,0,0)).2.1)&&(((x.1.getD s.toNat (0,0,0,0,0,0)).2.2.1==(x.2.getD s.toNat (0,0,0,0,0,0)).2.2.1)&&((((x.1.getD s.toNat (0,0,0,0,0,0)).2.2.2.1==(x.2.getD s.toNat (0,0,0,0,0,0)).2.2.2.1)&&(((x.1.getD s.toNat (0,0,0,0,0,0)).2.2.2.2.1==(x.2.getD s.toNat (0,0,0,0,0,0)).2.2.2.2.1)&&(((x.1.getD s.toNat (0,0,0,0,0,0)).2.2.2.2.2==(x.2.getD s.toNat (0,0,0,0,0,0)).2.2.2.2.2)&&true)))&&true)))))=true) then
 (Sum.inr (Sum.inl ())) else
 (Sum.inl (aj (s+1)))) else
 (Sum.inr (Sum.inr (()))))
def mB (x:wD) (s:Int):Prop:=
 ((s<(x.1.length:Int))->
 (((0<=s)/\ (s<(x.1.length:Int)))/\
 ((s.toNat<x.1.length)/\
 ((s.toNat<x.1.length)/\
 (((0<=s)/\ (s<(x.2.length:Int)))/\
 ((s.toNat<x.2.length)/\
 (s.toNat<x.2.length)))))))
def Ee (x:wD) (s:Int):Tr (Int⊕(Unit⊕Unit)) true:=
 (.i10 (s<(nL x.1))
 (.gu s x.1
 (.gu s x.2
 (.cQ (!(((gT x.1 s (z0,z0,z0,ef)).1==(gT x.2 s (z0,z0,z0,ef)).1)&&(((gT x.1 s (z0,z0,z0,ef)).2.1==(gT x.2 s (z0,z0,z0,ef)).2.1)&&(((gT x.1 s (z0,z0,z0,ef)).2.2.1==(gT x.2 s (z0,z0,z0,ef)).2.2.1)&&((((gT x.1 s (z0,z0,z0,ef)).2.2.2.1==(gT x.2 s (z0,z0,z0,ef)).2.2.2.1)&&(((gT x.1 s (z0,z0,z0,ef)).2.2.2.2.1==(gT x.2 s (z0,z0,z0,ef)).2.2.2.2.1)&&(((gT x.1 s (z0,z0,z0,ef)).2.2.2.2.2==(gT x.2 s (z0,z0,z0,ef)).2.2.2.2.2)&&true)))&&true)))))
 (.ret (.inr (Sum.inl ())))
 (.ret (.inl (w1 s))))))
 (.ret (.inr (Sum.inr (())))))
def Ed (x:wD):Bool:=
 (if (((x.1.length:Int) !=(x.2.length:Int))=true) then
 false else
 (aq (run (iR x) 0) fun r=>
 (Sum.elim (fun a=>
 false) (fun b=>
 true) r)))
def sx (x:wD):Prop:=
 (¬(((x.1.length:Int) !=(x.2.length:Int))=true)->
 (Term (iR x) (mB x) 0))
def abT (x:wD):Tr Bool true:=
 (.dy ((nL x.1) !=(nL x.2))
 (.ret false)
 (aF.lp (Lt x) (Ee x) z0 fun r=>
 (.ri r (fun a=>
 (.ret false)) (fun b=>
 (.ret true)))))
abbrev Ak:bB:=⟨(.pair (.one (Ty.sl (Ty.prod yi (Ty.prod yi (Ty.prod yi aU))))) (.one (Ty.sl (Ty.prod yi (Ty.prod yi (Ty.prod yi aU)))))),(.one Ty.bool),sx,Ed⟩
theorem XL:ah Tryz.prog 18 (ak Ak):=ah.tr Ak abT (fn:=Tryz.f18) ax yP mixed (by kernel_rfl) (av.nil _ _) (fun x=>(au.tr ax (ae.bD yP (av.nil _ _)) mixed 0 (Lt x) (Ee x) au.nil (by kernel_rfl) fun g s Q=>(by kernel_rfl))) (fun x=>(by kernel_rfl)) fun x Q=>(by kernel_rfl)
def Yg:List (Nat×Ev.Spec):=(18,ak Ak)::Vu
theorem NS:ae Tryz.prog Yg:=ae.add (fn:=Tryz.f18) (by kernel_rfl) XL yP
def Dg (x:SM):Bool:=
 (aq (Oi (x.2.2.2.2.1,x.2.2.2.2.2.1)) fun y=>
 (if ((!y)=true) then
 true else
 (if ((x.2.2.2.2.2.2.length:Int)>60) then
 true else
 (aq (UO x.2.2.2.2.1) fun aB=>
 (aq (Lk x.2.2.2.2.2.1) fun y_2=>
 (aq (jO (x.1,x.2.1)) fun bh=>
 (aq (nq (x.1,x.2.1)) fun bj=>
 (aq (iz (x.1,x.2.1,x.2.2.1,x.2.2.2.1)) fun gw=>
 (aq (oW (x.1,x.2.1,x.2.2.1,x.2.2.2.1)) fun tF=>
 (aq (fK (x.2.2.2.2.1,x.2.2.2.2.2.1)) fun Cv=>
 (aq (qQ (aB,y_2)) fun MV=>
 (aq (YZ (x.2.2.2.2.2.2,x.1,x.2.1)) fun GQ=>
 (aq (Zm (x.2.2.2.2.2.2,x.1,x.2.1)) fun rf=>
 (aq (tQ false) fun agl=>
 (if (agl=true) then
 (if (((bh.1.1==bj.1.1)&&((bh.1.2==bj.1.2)&&true))=true) then
 (if ((bh.2==bj.2)=true) then
 (if (((gw.1.1==tF.1.1)&&((gw.1.2.1==tF.1.2.1)&&((gw.1.2.2==tF.1.2.2)&&true)))=true) then
 (if ((gw.2==tF.2)=true) then
 (aq (Ed (Cv.1,MV.1)) fun agm=>
 (if (agm=true) then
 (if ((Cv.2==MV.2)=true) then
 (if (((GQ.1.1==rf.1.1)&&((GQ.1.2.1==rf.1.2.1)&&((GQ.1.2.2.1==rf.1.2.2.1)&&(((GQ.1.2.2.2.1==rf.1.2.2.2.1)&&((GQ.1.2.2.2.2.1==rf.1.2.2.2.2.1)&&((GQ.1.2.2.2.2.2==rf.1.2.2.2.2.2)&&true)))&&true))))=true) then
 (if ((GQ.2==rf.2)=true) then
 (aq (Lz (x.2.2.2.2.1,aB)) fun agn=>
 (if (agn=true) then
 (aq (Ju (x.2.2.2.2.2.1,y_2)) fun akp=>
 akp) else
 false)) else
 false) else
 false) else
 false) else
 false)) else
 false) else
 false) else
 false) else
 false) else
 false)))))))))))))))
def oJ (x:SM):Prop:=
 ((zx (x.2.2.2.2.1,x.2.2.2.2.2.1))/\
 az (Oi (x.2.2.2.2.1,x.2.2.2.2.2.1)) fun y=>
 (¬((!y)=true)->
 (¬((x.2.2.2.2.2.2.length:Int)>60)->
 ((Gs x.2.2.2.2.1)/\
 az (UO x.2.2.2.2.1) fun aB=>
 ((vB x.2.2.2.2.2.1)/\
 az (Lk x.2.2.2.2.2.1) fun y_2=>
 (az (jO (x.1,x.2.1)) fun bh=>
 (az (nq (x.1,x.2.1)) fun bj=>
 ((m8 (x.1,x.2.1,x.2.2.1,x.2.2.2.1))/\
 az (iz (x.1,x.2.1,x.2.2.1,x.2.2.2.1)) fun gw=>
 ((mA (x.1,x.2.1,x.2.2.1,x.2.2.2.1))/\
 az (oW (x.1,x.2.1,x.2.2.1,x.2.2.2.1)) fun tF=>
 ((fM (x.2.2.2.2.1,x.2.2.2.2.2.1))/\
 az (fK (x.2.2.2.2.1,x.2.2.2.2.2.1)) fun Cv=>
 ((mC (aB,y_2))/\
 az (qQ (aB,y_2)) fun MV=>
 ((Dh (x.2.2.2.2.2.2,x.1,x.2.1))/\
 az (YZ (x.2.2.2.2.2.2,x.1,x.2.1)) fun GQ=>
 ((Gp (x.2.2.2.2.2.2,x.1,x.2.1))/\
 az (Zm (x.2.2.2.2.2.2,x.1,x.2.1)) fun rf=>
 ((sX false)/\
 az (tQ false) fun agl=>
 ((agl=true)->
 ((((bh.1.1==bj.1.1)&&((bh.1.2==bj.1.2)&&true))=true)->
 (((bh.2==bj.2)=true)->
 ((((gw.1.1==tF.1.1)&&((gw.1.2.1==tF.1.2.1)&&((gw.1.2.2==tF.1.2.2)&&true)))=true)->
 (((gw.2==tF.2)=true)->
 ((sx (Cv.1,MV.1))/\
 az (Ed (Cv.1,MV.1)) fun agm=>
 ((agm=true)->
 (((Cv.2==MV.2)=true)->
 ((((GQ.1.1==rf.1.1)&&((GQ.1.2.1==rf.1.2.1)&&((GQ.1.2.2.1==rf.1.2.2.1)&&(((GQ.1.2.2.2.1==rf.1.2.2.2.1)&&((GQ.1.2.2.2.2.1==rf.1.2.2.2.2.1)&&((GQ.1.2.2.2.2.2==rf.1.2.2.2.2.2)&&true)))&&true))))=true)->
 (((GQ.2==rf.2)=true)->
 ((vM (x.2.2.2.2.1,aB))/\
 az (Lz (x.2.2.2.2.1,aB)) fun agn=>
 ((agn=true)->
 (ym (x.2.2.2.2.2.1,y_2))))))))))))))))))))))))))))
def aaU (x:SM):Tr Bool true:=
 (.fn Jb (x.2.2.2.2.1,x.2.2.2.2.2.1) fun y=>
 (.dy (!y)
 (.ret true)
 (.nK ((nL x.2.2.2.2.2.2)>60)
 (.ret true)
 (.fn Jz x.2.2.2.2.1 fun aB=>
 (.fn D1 x.2.2.2.2.2.1 fun y_2=>
 (.fn0 m7 (x.1,x.2.1) trivial fun bh=>
 (.fn0 oV (x.1,x.2.1) trivial fun bj=>
 (.fn qE (x.1,x.2.1,x.2.2.1,x.2.2.2.1) fun gw=>
 (.fn qP (x.1,x.2.1,x.2.2.1,x.2.2.2.1) fun tF=>
 (.fn qF (x.2.2.2.2.1,x.2.2.2.2.2.1) fun Cv=>
 (.fn qb (aB,y_2) fun MV=>
 (.fn TH (x.2.2.2.2.2.2,x.1,x.2.1) fun GQ=>
 (.fn Jx (x.2.2.2.2.2.2,x.1,x.2.1) fun rf=>
 (.fn rQ false fun agl=>
 (.FB agl
 (.FB ((bh.1.1==bj.1.1)&&((bh.1.2==bj.1.2)&&true))
 (.FB (bh.2==bj.2)
 (.FB ((gw.1.1==tF.1.1)&&((gw.1.2.1==tF.1.2.1)&&((gw.1.2.2==tF.1.2.2)&&true)))
 (.FB (gw.2==tF.2)
 (.fn Ak (Cv.1,MV.1) fun agm=>
 (.FB agm
 (.FB (Cv.2==MV.2)
 (.FB ((GQ.1.1==rf.1.1)&&((GQ.1.2.1==rf.1.2.1)&&((GQ.1.2.2.1==rf.1.2.2.1)&&(((GQ.1.2.2.2.1==rf.1.2.2.2.1)&&((GQ.1.2.2.2.2.1==rf.1.2.2.2.2.1)&&((GQ.1.2.2.2.2.2==rf.1.2.2.2.2.2)&&true)))&&true))))
 (.FB (GQ.2==rf.2)
 (.fn Ek (x.2.2.2.2.1,aB) fun agn=>
 (.FB agn
 (.fn Ag (x.2.2.2.2.2.1,y_2) fun akp=>
 (.ret akp))
 (.ret false)))
 (.ret false))
 (.ret false))
 (.ret false))
 (.ret false)))
 (.ret false))
 (.ret false))
 (.ret false))
 (.ret false))
 (.ret false))))))))))))))))
abbrev F8:bB:=⟨(.pair (.one yi) (.pair (.one yi) (.pair (.agg aZ) (.pair (.agg fk) (.pair (.agg (Ty.prod (Ty.sl aU) (Ty.prod (Ty.sl aQ) (Ty.prod (Ty.sl aU) (Ty.sl fk))))) (.pair (.agg (Ty.prod yi (Ty.prod yi (Ty.prod yi (Ty.prod (Ty.sl (Ty.prod (Ty.sl yi) (Ty.prod (Ty.sl aZ) aQ))) (Ty.sl (Ty.prod yi aU))))))) (.one (Ty.sl (Ty.prod yi (Ty.prod yi (Ty.prod yi aU))))))))))),(.one Ty.bool),oJ,Dg⟩
theorem WM:ah Tryz.prog 3 (ak F8):=ah.tr F8 aaU (fn:=Tryz.f3) ax NS mixed (by kernel_rfl) (av.nil _ _) (fun x=>au.nil) (fun x=>(by kernel_rfl)) fun x Q=>(by kernel_rfl)
end Go.Proofs.YtfgdjlhilladhaaGreat
