/- Models of the references of layers 16, 17, 18. -/
import Derived.Test.YtfgdjlhilladhaaGreatHb
noncomputable section
set_option linter.unusedSectionVars false
set_option linter.unusedVariables false
set_option linter.unusedSimpArgs false
namespace Go.Proofs.YtfgdjlhilladhaaGreat
open Go Go.Ev Go.Proofs
abbrev wB:Type:=((Int×Int×Int×List (List Int×List I6×I2)×List (Int×I3))×Int×Int×Int×List (List Int×List I6×I2)×List (Int×I3))
abbrev bJ:Type:=(Int×Int×Int×List (List Int×List I6×I2)×List (Int×I3))
abbrev Fx:Type:=(List (List Int×List I6×I2)×List (Int×I3)×Int)
abbrev SL:Type:=((List Int×List I6×I2)×List Int×List I6×I2)
abbrev Fy:Type:=(List I6×List Int×Int×List I6×Int)
def Ab (x:Int):I2:=
 (if (x<0) then
 (0,5) else
 (if (x>4096) then
 (0,5) else
 ((aj ((aj (Int.tdiv x 16))+1)),0)))
def Uq (_:Int):Prop:=True
def abx (x:Int):Tr I2 false:=
 (.fm (x<z0)
 (.ret (z0,5))
 (.fm (x>4096)
 (.ret (z0,5))
 (.ret ((w1 (aj (Int.tdiv x 16))),z0))))
abbrev ud:bB:=⟨(.one yi),(.pair (.one yi) (.one yi)),Uq,Ab⟩
theorem Xo:ah Tryz.prog 163 (ak ud):=ah.tr ud abx (fn:=Tryz.f163) ax wT mixed (by kernel_rfl) (av.nil _ _) (fun x=>au.nil) (fun x=>(by kernel_rfl)) fun x Q=>(by kernel_rfl)
def Mk:List (Nat×Ev.Spec):=(163,ak ud)::EX
theorem oq:ae Tryz.prog Mk:=ae.add (fn:=Tryz.f163) (by kernel_rfl) Xo wT
def O2 (x:(List I6)):aF:=⟨[],⟨bq 68 0 [(0,.v (.one (.full 0))),(2,.v (.one (.ptr 1 0))),(3,.v (.one (.ptr 2 0))),(5,.v (.one (.ptr 3 0))),(6,.v (.one (.ptr 4 0))),(7,.v (.one (.i .i64)))],[.row aZ 0,.cells [.i .i64,.i .i64] 23,.cells [.i .i64,.i .i64] 23,.cells [.i .i64,.i .i64] 23,.cells [.i .i64,.i .i64] 23],0,none,[],[1,2,3,4,5],[6,7,8,9,0],[.i,.i,.i,.i,.i],[.l aZ x,.i 0,.i 0,.i 0,.i 0]⟩,[⟨.ret,.ret,⟨bq 68 0 [(2,.v (.one (.ptr 0 0))),(3,.v (.one (.ptr 1 0))),(4,.v (.one (.i .i64)))],[.cells [.i .i64,.i .i64] 23,.cells [.i .i64,.i .i64] 23],0,none,[],[0,1,2,3,4],[],[],[.i 5,.i 0,.i 0,.i 0,.i 0]⟩⟩,⟨(.exit 0),.normal,⟨bq 68 0 [(2,.v (.one (.ptr 0 0))),(3,.v (.one (.ptr 1 0))),(5,.v (.one (.ptr 2 0))),(6,.v (.one (.ptr 3 0)))],[.cells [.i .i64,.i .i64] 23,.cells [.i .i64,.i .i64] 23,.cells [.i .i64,.i .i64] 23,.cells [.i .i64,.i .i64] 23],0,none,[],[0,1,2,3],[4,5,6,7],[.i,.i,.i,.i],[.i 0,.i 0,.i 0,.i 0]⟩⟩]⟩
def gS (x:(List I6)) (s:(Int×Int×I3)):(Int×Int×I3)⊕(Unit⊕(Int×I3)):=
 (if (s.2.2.2.2<(x.length:Int)) then
 (aq (bV (x.getD s.2.2.2.2.toNat ((0,0),(0,0),0,0)).1) fun y=>
 (if ((!y)=true) then
 (Sum.inr (Sum.inl ())) else
 (aq (bV (x.getD s.2.2.2.2.toNat ((0,0),(0,0),0,0)).2.1) fun aB=>
 (if ((!aB)=true) then
 (Sum.inr (Sum.inl ())) else
 (aq (bV (x.getD s.2.2.2.2.toNat ((0,0),(0,0),0,0)).2.2) fun y_2=>
 (if ((!y_2)=true) then
 (Sum.inr (Sum.inl ())) else
 (Sum.inl ((aG (aG (aG s.1 (x.getD s.2.2.2.2.toNat ((0,0),(0,0),0,0)).1.1) (x.getD s.2.2.2.2.toNat ((0,0),(0,0),0,0)).2.1.1) (x.getD s.2.2.2.2.toNat ((0,0),(0,0),0,0)).2.2.1),(aG (aG (aG s.2.1 (x.getD s.2.2.2.2.toNat ((0,0),(0,0),0,0)).1.2) (x.getD s.2.2.2.2.toNat ((0,0),(0,0),0,0)).2.1.2) (x.getD s.2.2.2.2.toNat ((0,0),(0,0),0,0)).2.2.2),(aI (aI (aI s.2.2.1 (x.getD s.2.2.2.2.toNat ((0,0),(0,0),0,0)).1.1) (x.getD s.2.2.2.2.toNat ((0,0),(0,0),0,0)).2.1.1) (x.getD s.2.2.2.2.toNat ((0,0),(0,0),0,0)).2.2.1),(aI (aI (aI s.2.2.2.1 (x.getD s.2.2.2.2.toNat ((0,0),(0,0),0,0)).1.2) (x.getD s.2.2.2.2.toNat ((0,0),(0,0),0,0)).2.1.2) (x.getD s.2.2.2.2.toNat ((0,0),(0,0),0,0)).2.2.2),(aj (s.2.2.2.2+1)))))))))) else
 (Sum.inr (Sum.inr ((s.1,s.2.1,s.2.2.1,s.2.2.2.1)))))
def nP (x:(List I6)) (s:(Int×Int×I3)):Prop:=
 ((s.2.2.2.2<(x.length:Int))->
 (((0<=s.2.2.2.2)/\ (s.2.2.2.2<(x.length:Int)))/\
 ((s.2.2.2.2.toNat<x.length)/\
 ((s.2.2.2.2.toNat<x.length)/\
 ((s.2.2.2.2.toNat<x.length)/\
 (az (bV (x.getD s.2.2.2.2.toNat ((0,0),(0,0),0,0)).1) fun y=>
 (¬((!y)=true)->
 (((0<=s.2.2.2.2)/\ (s.2.2.2.2<(x.length:Int)))/\
 ((s.2.2.2.2.toNat<x.length)/\
 ((s.2.2.2.2.toNat<x.length)/\
 ((s.2.2.2.2.toNat<x.length)/\
 (az (bV (x.getD s.2.2.2.2.toNat ((0,0),(0,0),0,0)).2.1) fun aB=>
 (¬((!aB)=true)->
 (((0<=s.2.2.2.2)/\ (s.2.2.2.2<(x.length:Int)))/\
 ((s.2.2.2.2.toNat<x.length)/\
 ((s.2.2.2.2.toNat<x.length)/\
 (s.2.2.2.2.toNat<x.length)))))))))))))))))
def Hx (x:(List I6)) (s:(Int×Int×I3)):Tr ((Int×Int×I3)⊕(Unit⊕(Int×I3))) true:=
 (.i10 (s.2.2.2.2<(nL x))
 (.Dx s.2.2.2.2 x
 (.fn0 cE (gT x s.2.2.2.2 aK).1 trivial fun y=>
 (.dy (!y)
 (.ret (.inr (Sum.inl ())))
 (.Dx s.2.2.2.2 x
 (.fn0 cE (gT x s.2.2.2.2 aK).2.1 trivial fun aB=>
 (.dy (!aB)
 (.ret (.inr (Sum.inl ())))
 (.Dx s.2.2.2.2 x
 (.fn0 cE (gT x s.2.2.2.2 aK).2.2 trivial fun y_2=>
 (.cQ (!y_2)
 (.ret (.inr (Sum.inl ())))
 (.ret (.inl ((aG (aG (aG s.1 (gT x s.2.2.2.2 aK).1.1) (gT x s.2.2.2.2 aK).2.1.1) (gT x s.2.2.2.2 aK).2.2.1),(aG (aG (aG s.2.1 (gT x s.2.2.2.2 aK).1.2) (gT x s.2.2.2.2 aK).2.1.2) (gT x s.2.2.2.2 aK).2.2.2),(aI (aI (aI s.2.2.1 (gT x s.2.2.2.2 aK).1.1) (gT x s.2.2.2.2 aK).2.1.1) (gT x s.2.2.2.2 aK).2.2.1),(aI (aI (aI s.2.2.2.1 (gT x s.2.2.2.2 aK).1.2) (gT x s.2.2.2.2 aK).2.1.2) (gT x s.2.2.2.2 aK).2.2.2),(w1 s.2.2.2.2)))))))))))))
 (.ret (.inr (Sum.inr ((s.1,s.2.1,s.2.2.1,s.2.2.2.1))))))
def K3 (x:(List I6)):(I2×I2×Int):=
 (if (((x.length:Int)==0)=true) then
 ((0,0),(0,0),1) else
 (aq (run (gS x) ((x.getD 0 ((0,0),(0,0),0,0)).1.1,(x.getD 0 ((0,0),(0,0),0,0)).1.2,(x.getD 0 ((0,0),(0,0),0,0)).1.1,(x.getD 0 ((0,0),(0,0),0,0)).1.2,0)) fun r=>
 (Sum.elim (fun a=>
 ((0,0),(0,0),5)) (fun b=>
 ((b.1,b.2.1),b.2.2,0)) r)))
def vw (x:(List I6)):Prop:=
 (¬(((x.length:Int)==0)=true)->
 ((0<(x.length:Int))/\
 ((0<x.length)/\
 ((0<x.length)/\
 ((0<x.length)/\
 ((0<(x.length:Int))/\
 ((0<x.length)/\
 ((0<x.length)/\
 ((0<x.length)/\
 (Term (gS x) (nP x) ((x.getD 0 ((0,0),(0,0),0,0)).1.1,(x.getD 0 ((0,0),(0,0),0,0)).1.2,(x.getD 0 ((0,0),(0,0),0,0)).1.1,(x.getD 0 ((0,0),(0,0),0,0)).1.2,0)))))))))))
def aeS (x:(List I6)):Tr (I2×I2×Int) true:=
 (.dy ((nL x)==z0)
 (.ret (jg,jg,z1))
 (.og (true&&(decide (z0<(nL x)))) (z0<(nL x)) (fun h=>(dK rfl (decide_eq_true h)))
 (.od (0<x.length)
 (.od (0<x.length)
 (.od (0<x.length)
 (.og (true&&(decide (z0<(nL x)))) (z0<(nL x)) (fun h=>(dK rfl (decide_eq_true h)))
 (.od (0<x.length)
 (.od (0<x.length)
 (.od (0<x.length)
 (aF.lp (O2 x) (Hx x) ((x.getD 0 aK).1.1,(x.getD 0 aK).1.2,(x.getD 0 aK).1.1,(x.getD 0 aK).1.2,z0) fun r=>
 (.ri r (fun a=>
 (.ret (jg,jg,5))) (fun b=>
 (.ret ((b.1,b.2.1),b.2.2,z0))))))))))))))
abbrev DL:bB:=⟨(.one (Ty.sl aZ)),(.pair (.agg aQ) (.pair (.agg aQ) (.one yi))),vw,K3⟩
theorem abt:ah Tryz.prog 162 (ak DL):=ah.tr DL aeS (fn:=Tryz.f162) ax oq mixed (by kernel_rfl) (av.nil _ _) (fun x=>(au.tr ax (ae.bD oq (av.nil _ _)) mixed 0 (O2 x) (Hx x) (au.j7 ax (ae.bD oq (av.nil _ _)) mixed 2 4 au.nil (by kernel_rfl)) (by kernel_rfl) fun g s Q=>(by kernel_rfl))) (fun x=>(by kernel_rfl)) fun x Q=>(by kernel_rfl)
def P6:List (Nat×Ev.Spec):=(162,ak DL)::Mk
theorem qe:ae Tryz.prog P6:=ae.add (fn:=Tryz.f162) (by kernel_rfl) abt oq
def Hw (x:(List I6)):aF:=⟨[],⟨bq 35 0 [(0,.v (.one (.full 0))),(3,.v (.one (.i .i64))),(4,.v (.one (.i .i64)))],[.row aZ 0],0,none,[],[2],[0,1],[.i,.i],[.l aZ x]⟩,[⟨.ret,.ret,⟨bq 35 0 [(2,.v (.one (.b)))],[],0,none,[],[0],[],[],[.b false]⟩⟩,⟨(.exit 2),.normal,⟨bq 35 0 [(0,.v (.one (.full 0))),(3,.v (.one (.i .i64)))],[.row aZ 0],0,none,[],[1],[0],[.i],[.l aZ x]⟩⟩]⟩
def eT (x:(List I6)) (s:I2):I2⊕(Unit⊕Int):=
 (if (s.2<s.1) then
 (aq (vq ((x.getD s.1.toNat ((0,0),(0,0),0,0)),(x.getD s.2.toNat ((0,0),(0,0),0,0)))) fun y=>
 (if ((y.2 !=0)=true) then
 (Sum.inr (Sum.inl ())) else
 (if (y.1=true) then
 (Sum.inr (Sum.inl ())) else
 (Sum.inl (s.1,(aj (s.2+1))))))) else
 (Sum.inr (Sum.inr (s.1))))
def kN (x:(List I6)) (s:I2):Prop:=
 ((s.2<s.1)->
 (((0<=s.1)/\ (s.1<(x.length:Int)))/\
 ((s.1.toNat<x.length)/\
 ((s.1.toNat<x.length)/\
 (((0<=s.2)/\ (s.2<(x.length:Int)))/\
 ((s.2.toNat<x.length)/\
 ((s.2.toNat<x.length)/\
 (mb ((x.getD s.1.toNat ((0,0),(0,0),0,0)),(x.getD s.2.toNat ((0,0),(0,0),0,0)))))))))))
def AZ (x:(List I6)) (s:I2):Tr (I2⊕(Unit⊕Int)) true:=
 (.i10 (s.2<s.1)
 (.gu s.1 x
 (.gu s.2 x
 (.fn pW ((gT x s.1 aK),(gT x s.2 aK)) fun y=>
 (.cQ (y.2 !=z0)
 (.ret (.inr (Sum.inl ())))
 (.cQ y.1
 (.ret (.inr (Sum.inl ())))
 (.ret (.inl (s.1,(w1 s.2)))))))))
 (.ret (.inr (Sum.inr (s.1)))))
def Hv (x:(List I6)):aF:=⟨[],⟨bq 35 0 [(0,.v (.one (.full 0))),(3,.v (.one (.i .i64)))],[.row aZ 0],0,none,[],[1],[0],[.i],[.l aZ x]⟩,[⟨.ret,.ret,⟨bq 35 0 [(2,.v (.one (.b)))],[],0,none,[],[0],[],[],[.b false]⟩⟩,⟨(.exit 0),.normal,⟨bq 35 0 [],[],0,none,[],[],[],[],[]⟩⟩]⟩
def jR (x:(List I6)) (s:Int):Int⊕(Unit⊕Unit):=
 (if (s<(x.length:Int)) then
 (aq (run (eT x) (s,0)) fun r=>
 (Sum.elim (fun a=>
 (Sum.inr (Sum.inl ()))) (fun b=>
 (Sum.inl (aj (b+1)))) r)) else
 (Sum.inr (Sum.inr (()))))
def pC (x:(List I6)) (s:Int):Prop:=
 ((s<(x.length:Int))->
 (Term (eT x) (kN x) (s,0)))
def AY (x:(List I6)) (s:Int):Tr (Int⊕(Unit⊕Unit)) true:=
 (.i10 (s<(nL x))
 (aF.lp (Hw x) (AZ x) (s,z0) fun r=>
 (.ri r (fun a=>
 (.ret (.inr (Sum.inl ())))) (fun b=>
 (.ret (.inl (w1 b))))))
 (.ret (.inr (Sum.inr (())))))
def K2 (x:(List I6)):Bool:=
 (aq (run (jR x) 0) fun r=>
 (Sum.elim (fun a=>
 false) (fun b=>
 true) r))
def vv (x:(List I6)):Prop:=
 (Term (jR x) (pC x) 0)
def Xi (x:(List I6)):Tr Bool true:=
 (aF.lp (Hv x) (AY x) z0 fun r=>
 (.ri r (fun a=>
 (.ret false)) (fun b=>
 (.ret true))))
abbrev vu:bB:=⟨(.one (Ty.sl aZ)),(.one Ty.bool),vv,K2⟩
theorem Um:ah Tryz.prog 164 (ak vu):=ah.tr vu Xi (fn:=Tryz.f164) ax qe mixed (by kernel_rfl) (av.nil _ _) (fun x=>(au.tr ax (ae.bD qe (av.nil _ _)) mixed 0 (Hv x) (AY x) (au.tr ax (ae.bD qe (av.nil _ _)) mixed 2 (Hw x) (AZ x) au.nil (by kernel_rfl) fun g s Q=>(by kernel_rfl)) (by kernel_rfl) fun g s Q=>(by kernel_rfl))) (fun x=>(by kernel_rfl)) fun x Q=>(by kernel_rfl)
def Ii:List (Nat×Ev.Spec):=(164,ak vu)::P6
theorem q5:ae Tryz.prog Ii:=ae.add (fn:=Tryz.f164) (by kernel_rfl) Um qe
def Uo (x:(List Int×List I6×I2)):aF:=⟨[],⟨bq 97 0 [(1,.v (.one (.ptr 0 0))),(3,.v (.one (.i .i64)))],[.cells [.full 1,.full 2,.i .i64,.i .i64] 65,.row yi 0,.row aZ 0],0,none,[],[1,2,3,4],[0],[.i],[.i x.2.2.1,.i x.2.2.2,.l yi x.1,.l aZ x.2.1]⟩,[⟨.ret,.ret,⟨bq 97 0 [(2,.v (.one (.b)))],[],0,none,[],[0],[],[],[.b false]⟩⟩,⟨(.exit 0),.normal,⟨bq 97 0 [(1,.v (.one (.ptr 0 0)))],[.cells [.full 1,.full 2,.i .i64,.i .i64] 65,.row yi 0,.row aZ 0],0,none,[],[0,1,2,3],[],[],[.i x.2.2.1,.i x.2.2.2,.l yi x.1,.l aZ x.2.1]⟩⟩]⟩
def eK (x:(List Int×List I6×I2)) (s:Int):Int⊕(Unit⊕Unit):=
 (if (s<(x.2.1.length:Int)) then
 (aq (cW (x.2.1.getD s.toNat ((0,0),(0,0),0,0))) fun y=>
 (if ((!y)=true) then
 (Sum.inr (Sum.inl ())) else
 (Sum.inl (aj (s+1))))) else
 (Sum.inr (Sum.inr (()))))
def vx (x:(List Int×List I6×I2)) (s:Int):Prop:=
 ((s<(x.2.1.length:Int))->
 (((0<=s)/\ (s<(x.2.1.length:Int)))/\
 ((s.toNat<x.2.1.length)/\
 (s.toNat<x.2.1.length))))
def K4 (x:(List Int×List I6×I2)) (s:Int):Tr (Int⊕(Unit⊕Unit)) true:=
 (.i10 (s<(nL x.2.1))
 (.gu s x.2.1
 (.fn0 fZ (gT x.2.1 s aK) trivial fun y=>
 (.cQ (!y)
 (.ret (.inr (Sum.inl ())))
 (.ret (.inl (w1 s))))))
 (.ret (.inr (Sum.inr (())))))
def DM (x:(List Int×List I6×I2)):Bool:=
 (if (((x.1.length:Int)==0)=true) then
 false else
 (if ((x.1.length:Int)>500) then
 false else
 (if (((x.2.1.length:Int) !=(x.1.length:Int))=true) then
 false else
 (aq (run (eK x) 0) fun r=>
 (Sum.elim (fun a=>
 false) (fun b=>
 (aq (K3 x.2.1) fun y=>
 (if ((y.2.2 !=0)=true) then
 false else
 (if ((!((y.1.1==0)&&((y.1.2==0)&&true)))=true) then
 false else
 (if (y.2.1.1>4096) then
 false else
 (if (y.2.1.2>4096) then
 false else
 (aq (Ab y.2.1.1) fun aB=>
 (aq (Ab y.2.1.2) fun y_2=>
 (if ((x.2.2.1==aB.1)=true) then
 (if ((x.2.2.2==y_2.1)=true) then
 (aq (K2 x.2.1) fun bh=>
 bh) else
 false) else
 false))))))))) r)))))
def ua (x:(List Int×List I6×I2)):Prop:=
 (¬(((x.1.length:Int)==0)=true)->
 (¬((x.1.length:Int)>500)->
 (¬(((x.2.1.length:Int) !=(x.1.length:Int))=true)->
 (Term (eK x) (vx x) 0/\
 az (run (eK x) 0) fun r=>
 (cS r (fun a=>
 True) (fun b=>
 ((vw x.2.1)/\
 az (K3 x.2.1) fun y=>
 (¬((y.2.2 !=0)=true)->
 (¬((!((y.1.1==0)&&((y.1.2==0)&&true)))=true)->
 (¬(y.2.1.1>4096)->
 (¬(y.2.1.2>4096)->
 (az (Ab y.2.1.1) fun aB=>
 (az (Ab y.2.1.2) fun y_2=>
 (((x.2.2.1==aB.1)=true)->
 (((x.2.2.2==y_2.1)=true)->
 (vv x.2.1))))))))))))))))
def ahJ (x:(List Int×List I6×I2)):Tr Bool true:=
 (.dy ((nL x.1)==z0)
 (.ret false)
 (.nK ((nL x.1)>500)
 (.ret false)
 (.dy ((nL x.2.1) !=(nL x.1))
 (.ret false)
 (aF.lp (Uo x) (K4 x) z0 fun r=>
 (.s01 r (fun a=>
 (.ret false)) (fun b=>
 (.fn DL x.2.1 fun y=>
 (.dy (y.2.2 !=z0)
 (.ret false)
 (.dy (!((y.1.1==z0)&&((y.1.2==z0)&&true)))
 (.ret false)
 (.nK (y.2.1.1>4096)
 (.ret false)
 (.nK (y.2.1.2>4096)
 (.ret false)
 (.fn0 ud y.2.1.1 trivial fun aB=>
 (.fn0 ud y.2.1.2 trivial fun y_2=>
 (.FB (x.2.2.1==aB.1)
 (.FB (x.2.2.2==y_2.1)
 (.fn vu x.2.1 fun bh=>
 (.ret bh))
 (.ret false))
 (.ret false)))))))))))))))
abbrev DN:bB:=⟨(.agg (Ty.prod (Ty.sl yi) (Ty.prod (Ty.sl aZ) aQ))),(.one Ty.bool),ua,DM⟩
theorem aeT:ah Tryz.prog 127 (ak DN):=ah.tr DN ahJ (fn:=Tryz.f127) ax q5 mixed (by kernel_rfl) (av.nil _ _) (fun x=>(au.tr ax (ae.bD q5 (av.nil _ _)) mixed 0 (Uo x) (K4 x) au.nil (by kernel_rfl) fun g s Q=>(by kernel_rfl))) (fun x=>(by kernel_rfl)) fun x Q=>(by kernel_rfl)
def Vq:List (Nat×Ev.Spec):=(127,ak DN)::Ii
theorem Ij:ae Tryz.prog Vq:=ae.add (fn:=Tryz.f127) (by kernel_rfl) aeT q5
def Zl (x:(List Int)):(List Int):=
 ([]++x)
def Ah (x:(List Int)):Prop:=
 ((0+x.length)<1099511627776)
def ahM (x:(List Int)):Tr (List Int) true:=
 (.od ((0+x.length)<1099511627776)
 (.ret ([]++x)))
abbrev Jv:bB:=⟨(.one (Ty.sl yi)),(.one (Ty.sl yi)),Ah,Zl⟩
theorem ae2:ah Tryz.prog 58 (ak Jv):=ah.tr Jv ahM (fn:=Tryz.f58) ax Ij mixed (by kernel_rfl) (av.nil _ _) (fun x=>au.nil) (fun x=>(by kernel_rfl)) fun x Q=>(by kernel_rfl)
def Vt:List (Nat×Ev.Spec):=(58,ak Jv)::Vq
theorem yN:ae Tryz.prog Vt:=ae.add (fn:=Tryz.f58) (by kernel_rfl) ae2 Ij
def Pa (x:(List Int×List Int)):aF:=⟨[],⟨bq 26 0 [(0,.v (.one (.full 0))),(1,.v (.one (.full 1))),(5,.v (.one (.i .i64)))],[.row yi 0,.row yi 0],0,none,[],[1,2],[0],[.i],[.l yi x.1,.l yi x.2]⟩,[⟨.ret,.ret,⟨bq 26 0 [(4,.v (.one (.b)))],[],0,none,[],[0],[],[],[.b false]⟩⟩,⟨(.exit 0),.normal,⟨bq 26 0 [],[],0,none,[],[],[],[],[]⟩⟩]⟩
def mu (x:(List Int×List Int)) (s:Int):Int⊕(Unit⊕Unit):=
 (if (s<(x.1.length:Int)) then
 (if (((x.1.getD s.toNat 0) !=(x.2.getD s.toNat 0))=true) then
 (Sum.inr (Sum.inl ())) else
 (Sum.inl (aj (s+1)))) else
 (Sum.inr (Sum.inr (()))))
def td (x:(List Int×List Int)) (s:Int):Prop:=
 ((s<(x.1.length:Int))->
 (((0<=s)/\ (s<(x.1.length:Int)))/\
 ((s.toNat<x.1.length)/\
 ((s.toNat<x.1.length)/\
 (((0<=s)/\ (s<(x.2.length:Int)))/\
 ((s.toNat<x.2.length)/\
 (s.toNat<x.2.length)))))))
def HE (x:(List Int×List Int)) (s:Int):Tr (Int⊕(Unit⊕Unit)) true:=
 (.i10 (s<(nL x.1))
 (.gu s x.1
 (.gu s x.2
 (.cQ ((gI x.1 s) !=(gI x.2 s))
 (.ret (.inr (Sum.inl ())))
 (.ret (.inl (w1 s))))))
 (.ret (.inr (Sum.inr (())))))
def Lp (x:(List Int×List Int)):Bool:=
 (if (((x.1.length:Int) !=(x.2.length:Int))=true) then
 false else
 (aq (run (mu x) 0) fun r=>
 (Sum.elim (fun a=>
 false) (fun b=>
 true) r)))
def vE (x:(List Int×List Int)):Prop:=
 (¬(((x.1.length:Int) !=(x.2.length:Int))=true)->
 (Term (mu x) (td x) 0))
def ae4 (x:(List Int×List Int)):Tr Bool true:=
 (.dy ((nL x.1) !=(nL x.2))
 (.ret false)
 (aF.lp (Pa x) (HE x) z0 fun r=>
 (.ri r (fun a=>
 (.ret false)) (fun b=>
 (.ret true)))))
abbrev Ea:bB:=⟨(.pair (.one (Ty.sl yi)) (.one (Ty.sl yi))),(.one Ty.bool),vE,Lp⟩
theorem abM:ah Tryz.prog 84 (ak Ea):=ah.tr Ea ae4 (fn:=Tryz.f84) ax yN mixed (by kernel_rfl) (av.nil _ _) (fun x=>(au.tr ax (ae.bD yN (av.nil _ _)) mixed 0 (Pa x) (HE x) au.nil (by kernel_rfl) fun g s Q=>(by kernel_rfl))) (fun x=>(by kernel_rfl)) fun x Q=>(by kernel_rfl)
def Qe:List (Nat×Ev.Spec):=(84,ak Ea)::Vt
theorem E7:ae Tryz.prog Qe:=ae.add (fn:=Tryz.f84) (by kernel_rfl) abM yN
def K6 (x:(List Int×List I6×I2)):(List Int×List I6×I2):=
 (aq (Zl x.1) fun y=>
 (y,([]++x.2.1),x.2.2))
def Ca (x:(List Int×List I6×I2)):Prop:=
 ((Ah x.1)/\
 az (Zl x.1) fun y=>
 ((0+x.2.1.length)<1099511627776))
def aeU (x:(List Int×List I6×I2)):Tr (List Int×List I6×I2) true:=
 (.fn Jv x.1 fun y=>
 (.od ((0+x.2.1.length)<1099511627776)
 (.ret (y,([]++x.2.1),x.2.2))))
abbrev DP:bB:=⟨(.agg (Ty.prod (Ty.sl yi) (Ty.prod (Ty.sl aZ) aQ))),(.agg (Ty.prod (Ty.sl yi) (Ty.prod (Ty.sl aZ) aQ))),Ca,K6⟩
theorem abv:ah Tryz.prog 29 (ak DP):=ah.tr DP aeU (fn:=Tryz.f29) ax E7 mixed (by kernel_rfl) (av.nil _ _) (fun x=>au.nil) (fun x=>(by kernel_rfl)) fun x Q=>(by kernel_rfl)
def P7:List (Nat×Ev.Spec):=(29,ak DP)::Qe
theorem qf:ae Tryz.prog P7:=ae.add (fn:=Tryz.f29) (by kernel_rfl) abv E7
def K5 (x:((List Int×List I6×I2)×I2)):aF:=⟨[],⟨bq 72 0 [(2,.v (.one (.ptr 0 0))),(3,.v (.one (.ptr 3 0))),(6,.v (.one (.full 4))),(7,.v (.one (.i .i64)))],[.cells [.full 1,.full 2,.i .i64,.i .i64] 65,.row yi 0,.row aZ 0,.cells [.i .i64,.i .i64] 23,.row aZ 2],0,none,[],[1,2,3,4,5,6],[7,0],[(.l aZ),.i],[.i x.1.2.2.1,.i x.1.2.2.2,.l yi x.1.1,.l aZ x.1.2.1,.i x.2.1,.i x.2.2]⟩,[⟨(.exit 0),.normal,⟨bq 72 0 [(6,.v (.one (.full 0)))],[.row aZ 2],0,none,[],[],[0],[(.l aZ)],[]⟩⟩]⟩
def fG (x:((List Int×List I6×I2)×I2)) (s:(List I6×Int)):(List I6×Int)⊕(List I6):=
 (if (s.2<(x.1.2.1.length:Int)) then
 (Sum.inl ((s.1++ [(((aj ((x.1.2.1.getD s.2.toNat ((0,0),(0,0),0,0)).1.1+x.2.1)),(aj ((x.1.2.1.getD s.2.toNat ((0,0),(0,0),0,0)).1.2+x.2.2))),((aj ((x.1.2.1.getD s.2.toNat ((0,0),(0,0),0,0)).2.1.1+x.2.1)),(aj ((x.1.2.1.getD s.2.toNat ((0,0),(0,0),0,0)).2.1.2+x.2.2))),(aj ((x.1.2.1.getD s.2.toNat ((0,0),(0,0),0,0)).2.2.1+x.2.1)),(aj ((x.1.2.1.getD s.2.toNat ((0,0),(0,0),0,0)).2.2.2+x.2.2)))]),(aj (s.2+1)))) else
 (Sum.inr (s.1)))
def mc (x:((List Int×List I6×I2)×I2)) (s:(List I6×Int)):Prop:=
 ((s.2<(x.1.2.1.length:Int))->
 (((0<=s.2)/\ (s.2<(x.1.2.1.length:Int)))/\
 ((s.2.toNat<x.1.2.1.length)/\
 ((s.2.toNat<x.1.2.1.length)/\
 ((s.2.toNat<x.1.2.1.length)/\
 ((s.2.toNat<x.1.2.1.length)/\
 (((0<=s.2)/\ (s.2<(x.1.2.1.length:Int)))/\
 ((s.2.toNat<x.1.2.1.length)/\
 ((s.2.toNat<x.1.2.1.length)/\
 ((s.2.toNat<x.1.2.1.length)/\
 ((s.2.toNat<x.1.2.1.length)/\
 (((0<=s.2)/\ (s.2<(x.1.2.1.length:Int)))/\
 ((s.2.toNat<x.1.2.1.length)/\
 ((s.2.toNat<x.1.2.1.length)/\
 ((s.2.toNat<x.1.2.1.length)/\
 ((s.2.toNat<x.1.2.1.length)/\
 (((0<=s.2)/\ (s.2<(x.1.2.1.length:Int)))/\
 ((s.2.toNat<x.1.2.1.length)/\
 ((s.2.toNat<x.1.2.1.length)/\
 ((s.2.toNat<x.1.2.1.length)/\
 ((s.2.toNat<x.1.2.1.length)/\
 (((0<=s.2)/\ (s.2<(x.1.2.1.length:Int)))/\
 ((s.2.toNat<x.1.2.1.length)/\
 ((s.2.toNat<x.1.2.1.length)/\
 ((s.2.toNat<x.1.2.1.length)/\
 ((s.2.toNat<x.1.2.1.length)/\
 (((0<=s.2)/\ (s.2<(x.1.2.1.length:Int)))/\
 ((s.2.toNat<x.1.2.1.length)/\
 ((s.2.toNat<x.1.2.1.length)/\
 ((s.2.toNat<x.1.2.1.length)/\
 ((s.2.toNat<x.1.2.1.length)/\
 ((s.1.length+1)<1099511627776))))))))))))))))))))))))))))))))
def DO (x:((List Int×List I6×I2)×I2)) (s:(List I6×Int)):Tr ((List I6×Int)⊕(List I6)) true:=
 (.i10 (s.2<(nL x.1.2.1))
 (.Dx s.2 x.1.2.1
 (.od ((tN s.2)<x.1.2.1.length)
 (.Dx s.2 x.1.2.1
 (.od ((tN s.2)<x.1.2.1.length)
 (.Dx s.2 x.1.2.1
 (.od ((tN s.2)<x.1.2.1.length)
 (.Dx s.2 x.1.2.1
 (.od ((tN s.2)<x.1.2.1.length)
 (.Dx s.2 x.1.2.1
 (.od ((tN s.2)<x.1.2.1.length)
 (.Dx s.2 x.1.2.1
 (.od ((tN s.2)<x.1.2.1.length)
 (.od ((s.1.length+1)<1099511627776)
 (.ret (.inl ((s.1++ [(((aj ((gT x.1.2.1 s.2 aK).1.1+x.2.1)),(aj ((gT x.1.2.1 s.2 aK).1.2+x.2.2))),((aj ((gT x.1.2.1 s.2 aK).2.1.1+x.2.1)),(aj ((gT x.1.2.1 s.2 aK).2.1.2+x.2.2))),(aj ((gT x.1.2.1 s.2 aK).2.2.1+x.2.1)),(aj ((gT x.1.2.1 s.2 aK).2.2.2+x.2.2)))]),(w1 s.2)))))))))))))))))
 (.ret (.inr (s.1))))
def z7 (x:((List Int×List I6×I2)×I2)):(List I6×Int):=
 (aq (DM x.1) fun y=>
 (if ((!y)=true) then
 ([],1) else
 (if (x.2.1<0) then
 ([],5) else
 (if (x.2.1>65536) then
 ([],5) else
 (if (x.2.2<0) then
 ([],5) else
 (if (x.2.2>65536) then
 ([],5) else
 (aq (run (fG x) ([],0)) fun r=>
 (r,0))))))))
def r9 (x:((List Int×List I6×I2)×I2)):Prop:=
 ((ua x.1)/\
 az (DM x.1) fun y=>
 (¬((!y)=true)->
 (¬(x.2.1<0)->
 (¬(x.2.1>65536)->
 (¬(x.2.2<0)->
 (¬(x.2.2>65536)->
 (Term (fG x) (mc x) ([],0))))))))
def abu (x:((List Int×List I6×I2)×I2)):Tr (List I6×Int) true:=
 (.fn DN x.1 fun y=>
 (.dy (!y)
 (.ret ([],z1))
 (.nK (x.2.1<z0)
 (.ret ([],5))
 (.nK (x.2.1>65536)
 (.ret ([],5))
 (.nK (x.2.2<z0)
 (.ret ([],5))
 (.nK (x.2.2>65536)
 (.ret ([],5))
 (aF.lp (K5 x) (DO x) ([],z0) fun r=>
 (.ret (r,z0)))))))))
abbrev z8:bB:=⟨(.pair (.agg (Ty.prod (Ty.sl yi) (Ty.prod (Ty.sl aZ) aQ))) (.agg aQ)),(.pair (.one (Ty.sl aZ)) (.one yi)),r9,z7⟩
theorem Xl:ah Tryz.prog 81 (ak z8):=ah.tr z8 abu (fn:=Tryz.f81) ax qf mixed (by kernel_rfl) (av.nil _ _) (fun x=>(au.tr ax (ae.bD qf (av.nil _ _)) mixed 0 (K5 x) (DO x) (au.j7 ax (ae.bD qf (av.nil _ _)) mixed 2 4 au.nil (by kernel_rfl)) (by kernel_rfl) fun g s Q=>(by kernel_rfl))) (fun x=>(by kernel_rfl)) fun x Q=>(by kernel_rfl)
def Mi:List (Nat×Ev.Spec):=(81,ak z8)::P7
theorem tx:ae Tryz.prog Mi:=ae.add (fn:=Tryz.f81) (by kernel_rfl) Xl qf
def yj (x:(List I6×List I6)):aF:=⟨[],⟨bq 26 0 [(0,.v (.one (.full 0))),(1,.v (.one (.full 1))),(5,.v (.one (.i .i64)))],[.row aZ 0,.row aZ 0],0,none,[],[1,2],[0],[.i],[.l aZ x.1,.l aZ x.2]⟩,[⟨.ret,.ret,⟨bq 26 0 [(4,.v (.one (.b)))],[],0,none,[],[0],[],[],[.b false]⟩⟩,⟨(.exit 0),.normal,⟨bq 26 0 [],[],0,none,[],[],[],[],[]⟩⟩]⟩
def ej (x:(List I6×List I6)) (s:Int):Int⊕(Unit⊕Unit):=
 (if (s<(x.1.length:Int)) then
 (if ((!((((x.1.getD s.toNat ((0,0),(0,0),0,0)).1.1==(x.2.getD s.toNat ((0,0),(0,0),0,0)).1.1)&&(((x.1.getD s.toNat ((0,0),(0,0),0,0)).1.2==(x.2.getD s.toNat ((0,0),(0,0),0,0)).1.2)&&true))&&((((x.1.getD s.toNat ((0,0),(0,0),0,0)).2.1.1==(x.2.getD s.toNat ((0,0),(0,0),0,0)).2.1.1)&&(((x.1.getD s.toNat ((0,0),(0,0),0,0)).2.1.2==(x.2.getD s.toNat ((0,0),(0,0),0,0)).2.1.2)&&true))&&((((x.1.getD s.toNat ((0,0),(0,0),0,0)).2.2.1==(x.2.getD s.toNat ((0,0),(0,0),0,0)).2.2.1)&&(((x.1.getD s.toNat ((0,0),(0,0),0,0)).2.2.2==(x.2.getD s.toNat ((0,0),(0,0),0,0)).2.2.2)&&true))&&true))))=true) then
 (Sum.inr (Sum.inl ())) else
 (Sum.inl (aj (s+1)))) else
 (Sum.inr (Sum.inr (()))))
def k5 (x:(List I6×List I6)) (s:Int):Prop:=
 ((s<(x.1.length:Int))->
 (((0<=s)/\ (s<(x.1.length:Int)))/\
 ((s.toNat<x.1.length)/\
 ((s.toNat<x.1.length)/\
 (((0<=s)/\ (s<(x.2.length:Int)))/\
 ((s.toNat<x.2.length)/\
 (s.toNat<x.2.length)))))))
def uc (x:(List I6×List I6)) (s:Int):Tr (Int⊕(Unit⊕Unit)) true:=
 (.i10 (s<(nL x.1))
 (.gu s x.1
 (.gu s x.2
 (.cQ (!((((gT x.1 s aK).1.1==(gT x.2 s aK).1.1)&&(((gT x.1 s aK).1.2==(gT x.2 s aK).1.2)&&true))&&((((gT x.1 s aK).2.1.1==(gT x.2 s aK).2.1.1)&&(((gT x.1 s aK).2.1.2==(gT x.2 s aK).2.1.2)&&true))&&((((gT x.1 s aK).2.2.1==(gT x.2 s aK).2.2.1)&&(((gT x.1 s aK).2.2.2==(gT x.2 s aK).2.2.2)&&true))&&true))))
 (.ret (.inr (Sum.inl ())))
 (.ret (.inl (w1 s))))))
 (.ret (.inr (Sum.inr (())))))
def si (x:(List I6×List I6)):Bool:=
 (if (((x.1.length:Int) !=(x.2.length:Int))=true) then
 false else
 (aq (run (ej x) 0) fun r=>
 (Sum.elim (fun a=>
 false) (fun b=>
 true) r)))
def kO (x:(List I6×List I6)):Prop:=
 (¬(((x.1.length:Int) !=(x.2.length:Int))=true)->
 (Term (ej x) (k5 x) 0))
def Nw (x:(List I6×List I6)):Tr Bool true:=
 (.dy ((nL x.1) !=(nL x.2))
 (.ret false)
 (aF.lp (yj x) (uc x) z0 fun r=>
 (.ri r (fun a=>
 (.ret false)) (fun b=>
 (.ret true)))))
abbrev nQ:bB:=⟨(.pair (.one (Ty.sl aZ)) (.one (Ty.sl aZ))),(.one Ty.bool),kO,si⟩
theorem K7:ah Tryz.prog 85 (ak nQ):=ah.tr nQ Nw (fn:=Tryz.f85) ax tx mixed (by kernel_rfl) (av.nil _ _) (fun x=>(au.tr ax (ae.bD tx (av.nil _ _)) mixed 0 (yj x) (uc x) au.nil (by kernel_rfl) fun g s Q=>(by kernel_rfl))) (fun x=>(by kernel_rfl)) fun x Q=>(by kernel_rfl)
def yM:List (Nat×Ev.Spec):=(85,ak nQ)::Mi
theorem sG:ae Tryz.prog yM:=ae.add (fn:=Tryz.f85) (by kernel_rfl) K7 tx
def z9 (x:SL):Bool:=
 (if ((x.1.2.2.1==x.2.2.2.1)=true) then
 (if ((x.1.2.2.2==x.2.2.2.2)=true) then
 (aq (Lp (x.1.1,x.2.1)) fun y=>
 (if (y=true) then
 (aq (si (x.1.2.1,x.2.2.1)) fun aB=>
 aB) else
 false)) else
 false) else
 false)
def oP (x:SL):Prop:=
 (((x.1.2.2.1==x.2.2.2.1)=true)->
 (((x.1.2.2.2==x.2.2.2.2)=true)->
 ((vE (x.1.1,x.2.1))/\
 az (Lp (x.1.1,x.2.1)) fun y=>
 ((y=true)->
 (kO (x.1.2.1,x.2.2.1))))))
def abw (x:SL):Tr Bool true:=
 (.FB (x.1.2.2.1==x.2.2.2.1)
 (.FB (x.1.2.2.2==x.2.2.2.2)
 (.fn Ea (x.1.1,x.2.1) fun y=>
 (.FB y
 (.fn nQ (x.1.2.1,x.2.2.1) fun aB=>
 (.ret aB))
 (.ret false)))
 (.ret false))
 (.ret false))
abbrev Aa:bB:=⟨(.pair (.agg (Ty.prod (Ty.sl yi) (Ty.prod (Ty.sl aZ) aQ))) (.agg (Ty.prod (Ty.sl yi) (Ty.prod (Ty.sl aZ) aQ)))),(.one Ty.bool),oP,z9⟩
theorem Xn:ah Tryz.prog 46 (ak Aa):=ah.tr Aa abw (fn:=Tryz.f46) ax sG mixed (by kernel_rfl) (av.nil _ _) (fun x=>au.nil) (fun x=>(by kernel_rfl)) fun x Q=>(by kernel_rfl)
def Mj:List (Nat×Ev.Spec):=(46,ak Aa)::yM
theorem Bk:ae Tryz.prog Mj:=ae.add (fn:=Tryz.f46) (by kernel_rfl) Xn sG
def nj (x:(Int×Int×Int×I3)):Bool:=
 (if (x.2.2.2.2.1>=1) then
 (if (x.2.2.2.2.2>=1) then
 (if (x.2.2.1>=0) then
 (if (x.2.2.2.1>=0) then
 (if (x.2.2.2.2.1<=x.1) then
 (if (x.2.2.2.2.2<=x.2.1) then
 (if (x.2.2.1<=(aj (x.1- x.2.2.2.2.1))) then
 (decide (x.2.2.2.1<=(aj (x.2.1- x.2.2.2.2.2)))) else
 false) else
 false) else
 false) else
 false) else
 false) else
 false) else
 false)
def Ny (_:(Int×Int×Int×I3)):Prop:=True
def Ut (x:(Int×Int×Int×I3)):Tr Bool false:=
 (.fm (x.2.2.2.2.1>=z1)
 (.fm (x.2.2.2.2.2>=z1)
 (.fm (x.2.2.1>=z0)
 (.fm (x.2.2.2.1>=z0)
 (.fm (x.2.2.2.2.1<=x.1)
 (.fm (x.2.2.2.2.2<=x.2.1)
 (.fm (x.2.2.1<=(aj (x.1- x.2.2.2.2.1)))
 (.ret (decide (x.2.2.2.1<=(aj (x.2.1- x.2.2.2.2.2)))))
 (.ret false))
 (.ret false))
 (.ret false))
 (.ret false))
 (.ret false))
 (.ret false))
 (.ret false))
abbrev sj:bB:=⟨(.pair (.one yi) (.pair (.one yi) (.agg (Ty.prod yi aU)))),(.one Ty.bool),Ny,nj⟩
theorem RZ:ah Tryz.prog 160 (ak sj):=ah.tr sj Ut (fn:=Tryz.f160) ax Bk mixed (by kernel_rfl) (av.nil _ _) (fun x=>au.nil) (fun x=>(by kernel_rfl)) fun x Q=>(by kernel_rfl)
def E0:List (Nat×Ev.Spec):=(160,ak sj)::Mj
theorem wV:ae Tryz.prog E0:=ae.add (fn:=Tryz.f160) (by kernel_rfl) RZ Bk
def Ac (x:I3):Bool:=
 (aq (cL x.1) fun y=>
 (aq (cL x.2.1) fun aB=>
 (aq (qO (y,aB)) fun y_2=>
 (aq (cL x.2.2) fun bh=>
 (aq (Cd (bh,y_2)) fun bj=>
 (!bj))))))
def oS (x:I3):Prop:=
 ((cM x.1)/\
 az (cL x.1) fun y=>
 ((cM x.2.1)/\
 az (cL x.2.1) fun aB=>
 ((lJ (y,aB))/\
 az (qO (y,aB)) fun y_2=>
 ((cM x.2.2)/\
 az (cL x.2.2) fun bh=>
 (qM (bh,y_2))))))
def abz (x:I3):Tr Bool true:=
 (.fn jY x.1 fun y=>
 (.fn jY x.2.1 fun aB=>
 (.fn Jw (y,aB) fun y_2=>
 (.fn jY x.2.2 fun bh=>
 (.fn um (bh,y_2) fun bj=>
 (.ret (!bj)))))))
abbrev uf:bB:=⟨(.pair (.one yi) (.pair (.one yi) (.one yi))),(.one Ty.bool),oS,Ac⟩
theorem Xq:ah Tryz.prog 192 (ak uf):=ah.tr uf abz (fn:=Tryz.f192) ax wV mixed (by kernel_rfl) (av.nil _ _) (fun x=>au.nil) (fun x=>(by kernel_rfl)) fun x Q=>(by kernel_rfl)
def Ml:List (Nat×Ev.Spec):=(192,ak uf)::E0
theorem Bl:ae Tryz.prog Ml:=ae.add (fn:=Tryz.f192) (by kernel_rfl) Xq wV
def qm (x:(Int×I3)):Bool:=
 (if (x.2.1<=0) then
 true else
 (if (x.2.2.2<=0) then
 true else
 (aq (Ac (x.1,x.2.1,x.2.2.1)) fun y=>
 (if (y=true) then
 true else
 (aq (Ac (x.2.2.1,x.2.2.2,x.1)) fun aB=>
 aB)))))
def nR (x:(Int×I3)):Prop:=
 (¬(x.2.1<=0)->
 (¬(x.2.2.2<=0)->
 ((oS (x.1,x.2.1,x.2.2.1))/\
 az (Ac (x.1,x.2.1,x.2.2.1)) fun y=>
 (¬(y=true)->
 (oS (x.2.2.1,x.2.2.2,x.1))))))
def Us (x:(Int×I3)):Tr Bool true:=
 (.nK (x.2.1<=z0)
 (.ret true)
 (.nK (x.2.2.2<=z0)
 (.ret true)
 (.fn uf (x.1,x.2.1,x.2.2.1) fun y=>
 (.dy y
 (.ret true)
 (.fn uf (x.2.2.1,x.2.2.2,x.1) fun aB=>
 (.ret aB))))))
abbrev oQ:bB:=⟨(.pair (.one yi) (.pair (.one yi) (.pair (.one yi) (.one yi)))),(.one Ty.bool),nR,qm⟩
theorem RY:ah Tryz.prog 183 (ak oQ):=ah.tr oQ Us (fn:=Tryz.f183) ax Bl mixed (by kernel_rfl) (av.nil _ _) (fun x=>au.nil) (fun x=>(by kernel_rfl)) fun x Q=>(by kernel_rfl)
def EZ:List (Nat×Ev.Spec):=(183,ak oQ)::Ml
theorem wU:ae Tryz.prog EZ:=ae.add (fn:=Tryz.f183) (by kernel_rfl) RY Bl
def ue (x:((Int×I3)×Int×I3)):Bool:=
 (aq (qm (x.1.1,x.1.2.2.1,x.2.1,x.2.2.2.1)) fun y=>
 (if (y=true) then
 true else
 (aq (qm (x.1.2.1,x.1.2.2.2,x.2.2.1,x.2.2.2.2)) fun aB=>
 aB)))
def vz (x:((Int×I3)×Int×I3)):Prop:=
 ((nR (x.1.1,x.1.2.2.1,x.2.1,x.2.2.2.1))/\
 az (qm (x.1.1,x.1.2.2.1,x.2.1,x.2.2.2.1)) fun y=>
 (¬(y=true)->
 (nR (x.1.2.1,x.1.2.2.2,x.2.2.1,x.2.2.2.2))))
def Xp (x:((Int×I3)×Int×I3)):Tr Bool true:=
 (.fn oQ (x.1.1,x.1.2.2.1,x.2.1,x.2.2.2.1) fun y=>
 (.dy y
 (.ret true)
 (.fn oQ (x.1.2.1,x.1.2.2.2,x.2.2.1,x.2.2.2.2) fun aB=>
 (.ret aB))))
abbrev vy:bB:=⟨(.pair (.agg (Ty.prod yi aU)) (.agg (Ty.prod yi aU))),(.one Ty.bool),vz,ue⟩
theorem Ur:ah Tryz.prog 161 (ak vy):=ah.tr vy Xp (fn:=Tryz.f161) ax wU mixed (by kernel_rfl) (av.nil _ _) (fun x=>au.nil) (fun x=>(by kernel_rfl)) fun x Q=>(by kernel_rfl)
def Ik:List (Nat×Ev.Spec):=(161,ak vy)::EZ
theorem mP:ae Tryz.prog Ik:=ae.add (fn:=Tryz.f161) (by kernel_rfl) Ur wU
def Uw (x:(Int×Int×List (Int×I3))):aF:=⟨[],⟨bq 38 0 [(0,.v (.one (.i .i64))),(1,.v (.one (.i .i64))),(2,.v (.one (.full 0))),(7,.v (.one (.i .i64))),(8,.v (.one (.i .i64)))],[.row (Ty.prod yi aU) 0],0,none,[],[0,1,4],[2,3],[.i,.i],[.i x.1,.i x.2.1,.l (Ty.prod yi aU) x.2.2]⟩,[⟨.ret,.ret,⟨bq 38 0 [(6,.v (.one (.b)))],[],0,none,[],[0],[],[],[.b false]⟩⟩,⟨(.exit 2),.normal,⟨bq 38 0 [(0,.v (.one (.i .i64))),(1,.v (.one (.i .i64))),(2,.v (.one (.full 0))),(7,.v (.one (.i .i64)))],[.row (Ty.prod yi aU) 0],0,none,[],[0,1,3],[2],[.i],[.i x.1,.i x.2.1,.l (Ty.prod yi aU) x.2.2]⟩⟩]⟩
def kq (x:(Int×Int×List (Int×I3))) (s:I2):I2⊕(Unit⊕Int):=
 (if (s.2<s.1) then
 (aq (ue ((x.2.2.getD s.1.toNat (0,0,0,0)),(x.2.2.getD s.2.toNat (0,0,0,0)))) fun y=>
 (if ((!y)=true) then
 (Sum.inr (Sum.inl ())) else
 (Sum.inl (s.1,(aj (s.2+1)))))) else
 (Sum.inr (Sum.inr (s.1))))
def pZ (x:(Int×Int×List (Int×I3))) (s:I2):Prop:=
 ((s.2<s.1)->
 (((0<=s.1)/\ (s.1<(x.2.2.length:Int)))/\
 ((s.1.toNat<x.2.2.length)/\
 ((s.1.toNat<x.2.2.length)/\
 (((0<=s.2)/\ (s.2<(x.2.2.length:Int)))/\
 ((s.2.toNat<x.2.2.length)/\
 ((s.2.toNat<x.2.2.length)/\
 (vz ((x.2.2.getD s.1.toNat (0,0,0,0)),(x.2.2.getD s.2.toNat (0,0,0,0)))))))))))
def K9 (x:(Int×Int×List (Int×I3))) (s:I2):Tr (I2⊕(Unit⊕Int)) true:=
 (.i10 (s.2<s.1)
 (.gu s.1 x.2.2
 (.gu s.2 x.2.2
 (.fn vy ((gT x.2.2 s.1 (z0,ef)),(gT x.2.2 s.2 (z0,ef))) fun y=>
 (.cQ (!y)
 (.ret (.inr (Sum.inl ())))
 (.ret (.inl (s.1,(w1 s.2))))))))
 (.ret (.inr (Sum.inr (s.1)))))
def Uv (x:(Int×Int×List (Int×I3))):aF:=⟨[],⟨bq 38 0 [(0,.v (.one (.i .i64))),(1,.v (.one (.i .i64))),(2,.v (.one (.full 0))),(7,.v (.one (.i .i64)))],[.row (Ty.prod yi aU) 0],0,none,[],[0,1,3],[2],[.i],[.i x.1,.i x.2.1,.l (Ty.prod yi aU) x.2.2]⟩,[⟨.ret,.ret,⟨bq 38 0 [(6,.v (.one (.b)))],[],0,none,[],[0],[],[],[.b false]⟩⟩,⟨(.exit 0),.normal,⟨bq 38 0 [],[],0,none,[],[],[],[],[]⟩⟩]⟩
def ga (x:(Int×Int×List (Int×I3))) (s:Int):Int⊕(Unit⊕Unit):=
 (if (s<(x.2.2.length:Int)) then
 (aq (nj (x.1,x.2.1,(x.2.2.getD s.toNat (0,0,0,0)))) fun y=>
 (if ((!y)=true) then
 (Sum.inr (Sum.inl ())) else
 (aq (run (kq x) (s,0)) fun r=>
 (Sum.elim (fun a=>
 (Sum.inr (Sum.inl ()))) (fun b=>
 (Sum.inl (aj (b+1)))) r)))) else
 (Sum.inr (Sum.inr (()))))
def jS (x:(Int×Int×List (Int×I3))) (s:Int):Prop:=
 ((s<(x.2.2.length:Int))->
 (((0<=s)/\ (s<(x.2.2.length:Int)))/\
 ((s.toNat<x.2.2.length)/\
 ((s.toNat<x.2.2.length)/\
 (az (nj (x.1,x.2.1,(x.2.2.getD s.toNat (0,0,0,0)))) fun y=>
 (¬((!y)=true)->
 (Term (kq x) (pZ x) (s,0))))))))
def K8 (x:(Int×Int×List (Int×I3))) (s:Int):Tr (Int⊕(Unit⊕Unit)) true:=
 (.i10 (s<(nL x.2.2))
 (.gu s x.2.2
 (.fn0 sj (x.1,x.2.1,(gT x.2.2 s (z0,ef))) trivial fun y=>
 (.dy (!y)
 (.ret (.inr (Sum.inl ())))
 (aF.lp (Uw x) (K9 x) (s,z0) fun r=>
 (.ri r (fun a=>
 (.ret (.inr (Sum.inl ())))) (fun b=>
 (.ret (.inl (w1 b)))))))))
 (.ret (.inr (Sum.inr (())))))
def Uu (x:(Int×Int×List (Int×I3))):Bool:=
 (aq (run (ga x) 0) fun r=>
 (Sum.elim (fun a=>
 false) (fun b=>
 true) r))
def Gk (x:(Int×Int×List (Int×I3))):Prop:=
 (Term (ga x) (jS x) 0)
def ahK (x:(Int×Int×List (Int×I3))):Tr Bool true:=
 (aF.lp (Uv x) (K8 x) z0 fun r=>
 (.ri r (fun a=>
 (.ret false)) (fun b=>
 (.ret true))))
abbrev Jt:bB:=⟨(.pair (.one yi) (.pair (.one yi) (.one (Ty.sl (Ty.prod yi aU))))),(.one Ty.bool),Gk,Uu⟩
theorem aeV:ah Tryz.prog 126 (ak Jt):=ah.tr Jt ahK (fn:=Tryz.f126) ax mP mixed (by kernel_rfl) (av.nil _ _) (fun x=>(au.tr ax (ae.bD mP (av.nil _ _)) mixed 0 (Uv x) (K8 x) (au.tr ax (ae.bD mP (av.nil _ _)) mixed 2 (Uw x) (K9 x) au.nil (by kernel_rfl) fun g s Q=>(by kernel_rfl)) (by kernel_rfl) fun g s Q=>(by kernel_rfl))) (fun x=>(by kernel_rfl)) fun x Q=>(by kernel_rfl)
def Vr:List (Nat×Ev.Spec):=(126,ak Jt)::Ik
theorem Il:ae Tryz.prog Vr:=ae.add (fn:=Tryz.f126) (by kernel_rfl) aeV mP
def R1 (x:(List (Int×I3))):(List (Int×I3)):=
 ([]++x)
def La (x:(List (Int×I3))):Prop:=
 ((0+x.length)<1099511627776)
def aeW (x:(List (Int×I3))):Tr (List (Int×I3)) true:=
 (.od ((0+x.length)<1099511627776)
 (.ret ([]++x)))
abbrev DQ:bB:=⟨(.one (Ty.sl (Ty.prod yi aU))),(.one (Ty.sl (Ty.prod yi aU))),La,R1⟩
theorem abA:ah Tryz.prog 28 (ak DQ):=ah.tr DQ aeW (fn:=Tryz.f28) ax Il mixed (by kernel_rfl) (av.nil _ _) (fun x=>au.nil) (fun x=>(by kernel_rfl)) fun x Q=>(by kernel_rfl)
def P8:List (Nat×Ev.Spec):=(28,ak DQ)::Vr
theorem vX:ae Tryz.prog P8:=ae.add (fn:=Tryz.f28) (by kernel_rfl) abA Il
def Lb (x:(List (Int×I3)×List (Int×I3))):aF:=⟨[],⟨bq 26 0 [(0,.v (.one (.full 0))),(1,.v (.one (.full 1))),(5,.v (.one (.i .i64)))],[.row (Ty.prod yi aU) 0,.row (Ty.prod yi aU) 0],0,none,[],[1,2],[0],[.i],[.l (Ty.prod yi aU) x.1,.l (Ty.prod yi aU) x.2]⟩,[⟨.ret,.ret,⟨bq 26 0 [(4,.v (.one (.b)))],[],0,none,[],[0],[],[],[.b false]⟩⟩,⟨(.exit 0),.normal,⟨bq 26 0 [],[],0,none,[],[],[],[],[]⟩⟩]⟩
def iM (x:(List (Int×I3)×List (Int×I3))) (s:Int):Int⊕(Unit⊕Unit):=
 (if (s<(x.1.length:Int)) then
 (if ((!(((x.1.getD s.toNat (0,0,0,0)).1==(x.2.getD s.toNat (0,0,0,0)).1)&&(((x.1.getD s.toNat (0,0,0,0)).2.1==(x.2.getD s.toNat (0,0,0,0)).2.1)&&(((x.1.getD s.toNat (0,0,0,0)).2.2.1==(x.2.getD s.toNat (0,0,0,0)).2.2.1)&&(((x.1.getD s.toNat (0,0,0,0)).2.2.2==(x.2.getD s.toNat (0,0,0,0)).2.2.2)&&true)))))=true) then
 (Sum.inr (Sum.inl ())) else
 (Sum.inl (aj (s+1)))) else
 (Sum.inr (Sum.inr (()))))
def me (x:(List (Int×I3)×List (Int×I3))) (s:Int):Prop:=
 ((s<(x.1.length:Int))->
 (((0<=s)/\ (s<(x.1.length:Int)))/\
 ((s.toNat<x.1.length)/\
 ((s.toNat<x.1.length)/\
 (((0<=s)/\ (s<(x.2.length:Int)))/\
 ((s.toNat<x.2.length)/\
 (s.toNat<x.2.length)))))))
def DS (x:(List (Int×I3)×List (Int×I3))) (s:Int):Tr (Int⊕(Unit⊕Unit)) true:=
 (.i10 (s<(nL x.1))
 (.gu s x.1
 (.gu s x.2
 (.cQ (!(((gT x.1 s (z0,ef)).1==(gT x.2 s (z0,ef)).1)&&(((gT x.1 s (z0,ef)).2.1==(gT x.2 s (z0,ef)).2.1)&&(((gT x.1 s (z0,ef)).2.2.1==(gT x.2 s (z0,ef)).2.2.1)&&(((gT x.1 s (z0,ef)).2.2.2==(gT x.2 s (z0,ef)).2.2.2)&&true)))))
 (.ret (.inr (Sum.inl ())))
 (.ret (.inl (w1 s))))))
 (.ret (.inr (Sum.inr (())))))
def DR (x:(List (Int×I3)×List (Int×I3))):Bool:=
 (if (((x.1.length:Int) !=(x.2.length:Int))=true) then
 false else
 (aq (run (iM x) 0) fun r=>
 (Sum.elim (fun a=>
 false) (fun b=>
 true) r)))
def sk (x:(List (Int×I3)×List (Int×I3))):Prop:=
 (¬(((x.1.length:Int) !=(x.2.length:Int))=true)->
 (Term (iM x) (me x) 0))
def abB (x:(List (Int×I3)×List (Int×I3))):Tr Bool true:=
 (.dy ((nL x.1) !=(nL x.2))
 (.ret false)
 (aF.lp (Lb x) (DS x) z0 fun r=>
 (.ri r (fun a=>
 (.ret false)) (fun b=>
 (.ret true)))))
abbrev Ad:bB:=⟨(.pair (.one (Ty.sl (Ty.prod yi aU))) (.one (Ty.sl (Ty.prod yi aU)))),(.one Ty.bool),sk,DR⟩
theorem Xr:ah Tryz.prog 45 (ak Ad):=ah.tr Ad abB (fn:=Tryz.f45) ax vX mixed (by kernel_rfl) (av.nil _ _) (fun x=>(au.tr ax (ae.bD vX (av.nil _ _)) mixed 0 (Lb x) (DS x) au.nil (by kernel_rfl) fun g s Q=>(by kernel_rfl))) (fun x=>(by kernel_rfl)) fun x Q=>(by kernel_rfl)
def Mm:List (Nat×Ev.Spec):=(45,ak Ad)::P8
theorem kD:ae Tryz.prog Mm:=ae.add (fn:=Tryz.f45) (by kernel_rfl) Xr vX
def Lh (x:(List (List Int×List I6×I2))):aF:=⟨[],⟨bq 46 0 [(0,.v (.one (.full 0))),(3,.v (.one (.full 1))),(4,.v (.one (.i .i64)))],[.row (Ty.prod (Ty.sl yi) (Ty.prod (Ty.sl aZ) aQ)) 0,.row yi 2],0,none,[],[1],[2,0],[(.l yi),.i],[.l (Ty.prod (Ty.sl yi) (Ty.prod (Ty.sl aZ) aQ)) x]⟩,[⟨.ret,.ret,⟨bq 46 0 [(2,.v (.one (.b)))],[],0,none,[],[0],[],[],[.b false]⟩⟩,⟨(.exit 0),.normal,⟨bq 46 0 [(3,.v (.one (.full 0)))],[.row yi 2],0,none,[],[],[0],[(.l yi)],[]⟩⟩]⟩
def dW (x:(List (List Int×List I6×I2))) (s:(List Int×Int)):(List Int×Int)⊕(Unit⊕(List Int)):=
 (if (s.2<(x.length:Int)) then
 (aq (DM (x.getD s.2.toNat ([],[],0,0))) fun y=>
 (if ((!y)=true) then
 (Sum.inr (Sum.inl ())) else
 (Sum.inl ((s.1++(x.getD s.2.toNat ([],[],0,0)).1),(aj (s.2+1)))))) else
 (Sum.inr (Sum.inr (s.1))))
def jF (x:(List (List Int×List I6×I2))) (s:(List Int×Int)):Prop:=
 ((s.2<(x.length:Int))->
 (((0<=s.2)/\ (s.2<(x.length:Int)))/\
 ((s.2.toNat<x.length)/\
 ((s.2.toNat<x.length)/\
 ((ua (x.getD s.2.toNat ([],[],0,0)))/\
 az (DM (x.getD s.2.toNat ([],[],0,0))) fun y=>
 (¬((!y)=true)->
 (((0<=s.2)/\ (s.2<(x.length:Int)))/\
 ((s.2.toNat<x.length)/\
 ((s.2.toNat<x.length)/\
 ((s.2.toNat<x.length)/\
 ((s.1.length+(List.length (x.getD s.2.toNat ([],[],0,0)).1))<1099511627776)))))))))))
def DY (x:(List (List Int×List I6×I2))) (s:(List Int×Int)):Tr ((List Int×Int)⊕(Unit⊕(List Int))) true:=
 (.i10 (s.2<(nL x))
 (.gu s.2 x
 (.fn DN (gT x s.2 ([],[],jg)) fun y=>
 (.dy (!y)
 (.ret (.inr (Sum.inl ())))
 (.Dx s.2 x
 (.od ((s.1.length+(List.length (gT x s.2 ([],[],jg)).1))<1099511627776)
 (.ret (.inl ((s.1++(gT x s.2 ([],[],jg)).1),(w1 s.2)))))))))
 (.ret (.inr (Sum.inr (s.1)))))
def Lj (x:(List (List Int×List I6×I2))):aF:=⟨[],⟨bq 46 0 [(3,.v (.one (.full 0))),(5,.v (.one (.i .i64))),(6,.v (.one (.i .i64)))],[.row yi 2],0,none,[],[],[2,0,1],[(.l yi),.i,.i],[]⟩,[⟨.ret,.ret,⟨bq 46 0 [(2,.v (.one (.b)))],[],0,none,[],[0],[],[],[.b false]⟩⟩,⟨(.exit 4),.normal,⟨bq 46 0 [(3,.v (.one (.full 0))),(5,.v (.one (.i .i64)))],[.row yi 2],0,none,[],[],[1,0],[(.l yi),.i],[]⟩⟩]⟩
def iO (x:(List (List Int×List I6×I2))) (s:(List Int×I2)):(List Int×I2)⊕(Unit⊕(List Int×Int)):=
 (if (s.2.2<s.2.1) then
 (if (((s.1.getD s.2.1.toNat 0)==(s.1.getD s.2.2.toNat 0))=true) then
 (Sum.inr (Sum.inl ())) else
 (Sum.inl (s.1,s.2.1,(aj (s.2.2+1))))) else
 (Sum.inr (Sum.inr ((s.1,s.2.1)))))
def mg (x:(List (List Int×List I6×I2))) (s:(List Int×I2)):Prop:=
 ((s.2.2<s.2.1)->
 (((0<=s.2.1)/\ (s.2.1<(s.1.length:Int)))/\
 ((s.2.1.toNat<s.1.length)/\
 ((s.2.1.toNat<s.1.length)/\
 (((0<=s.2.2)/\ (s.2.2<(s.1.length:Int)))/\
 ((s.2.2.toNat<s.1.length)/\
 (s.2.2.toNat<s.1.length)))))))
def D0 (x:(List (List Int×List I6×I2))) (s:(List Int×I2)):Tr ((List Int×I2)⊕(Unit⊕(List Int×Int))) true:=
 (.i10 (s.2.2<s.2.1)
 (.gu s.2.1 s.1
 (.gu s.2.2 s.1
 (.cQ ((gI s.1 s.2.1)==(gI s.1 s.2.2))
 (.ret (.inr (Sum.inl ())))
 (.ret (.inl (s.1,s.2.1,(w1 s.2.2)))))))
 (.ret (.inr (Sum.inr ((s.1,s.2.1))))))
def Li (x:(List (List Int×List I6×I2))):aF:=⟨[],⟨bq 46 0 [(3,.v (.one (.full 0))),(5,.v (.one (.i .i64)))],[.row yi 2],0,none,[],[],[1,0],[(.l yi),.i],[]⟩,[⟨.ret,.ret,⟨bq 46 0 [(2,.v (.one (.b)))],[],0,none,[],[0],[],[],[.b false]⟩⟩,⟨(.exit 2),.normal,⟨bq 46 0 [],[],0,none,[],[],[],[],[]⟩⟩]⟩
def iN (x:(List (List Int×List I6×I2))) (s:(List Int×Int)):(List Int×Int)⊕(Unit⊕Unit):=
 (if (s.2<(s.1.length:Int)) then
 (aq (run (iO x) (s.1,s.2,0)) fun r=>
 (Sum.elim (fun a=>
 (Sum.inr (Sum.inl ()))) (fun b=>
 (Sum.inl (b.1,(aj (b.2+1))))) r)) else
 (Sum.inr (Sum.inr (()))))
def qL (x:(List (List Int×List I6×I2))) (s:(List Int×Int)):Prop:=
 ((s.2<(s.1.length:Int))->
 (Term (iO x) (mg x) (s.1,s.2,0)))
def DZ (x:(List (List Int×List I6×I2))) (s:(List Int×Int)):Tr ((List Int×Int)⊕(Unit⊕Unit)) true:=
 (.i10 (s.2<(nL s.1))
 (aF.lp (Lj x) (D0 x) (s.1,s.2,z0) fun r=>
 (.ri r (fun a=>
 (.ret (.inr (Sum.inl ())))) (fun b=>
 (.ret (.inl (b.1,(w1 b.2)))))))
 (.ret (.inr (Sum.inr (())))))
def Ae (x:(List (List Int×List I6×I2))):Bool:=
 (aq (run (dW x) ([],0)) fun r=>
 (Sum.elim (fun a=>
 false) (fun b=>
 (aq (run (iN x) (b,0)) fun r_1=>
 (Sum.elim (fun a=>
 false) (fun b_1=>
 true) r_1))) r))
def so (x:(List (List Int×List I6×I2))):Prop:=
 (Term (dW x) (jF x) ([],0)/\
 az (run (dW x) ([],0)) fun r=>
 (cS r (fun a=>
 True) (fun b=>
 (Term (iN x) (qL x) (b,0)))))
def abE (x:(List (List Int×List I6×I2))):Tr Bool true:=
 (aF.lp (Lh x) (DY x) ([],z0) fun r=>
 (.s01 r (fun a=>
 (.ret false)) (fun b=>
 (aF.lp (Li x) (DZ x) (b,z0) fun r_1=>
 (.ri r_1 (fun a=>
 (.ret false)) (fun b_1=>
 (.ret true)))))))
abbrev Af:bB:=⟨(.one (Ty.sl (Ty.prod (Ty.sl yi) (Ty.prod (Ty.sl aZ) aQ)))),(.one Ty.bool),so,Ae⟩
theorem Xt:ah Tryz.prog 125 (ak Af):=ah.tr Af abE (fn:=Tryz.f125) ax kD mixed (by kernel_rfl) (av.nil _ _) (fun x=>(au.tr ax (ae.bD kD (av.nil _ _)) mixed 0 (Lh x) (DY x) (au.tr ax (ae.bD kD (av.nil _ _)) mixed 2 (Li x) (DZ x) (au.tr ax (ae.bD kD (av.nil _ _)) mixed 4 (Lj x) (D0 x) au.nil (by kernel_rfl) fun g s Q=>(by kernel_rfl)) (by kernel_rfl) fun g s Q=>(by kernel_rfl)) (by kernel_rfl) fun g s Q=>(by kernel_rfl))) (fun x=>(by kernel_rfl)) fun x Q=>(by kernel_rfl)
def Mn:List (Nat×Ev.Spec):=(125,ak Af)::Mm
theorem Bn:ae Tryz.prog Mn:=ae.add (fn:=Tryz.f125) (by kernel_rfl) Xt kD
def nk (x:I3):Bool:=
 (if (x.1>=1) then
 (if (x.1<=256) then
 (if (x.2.1>=1) then
 (if (x.2.1<=256) then
 (if (x.2.2>=1) then
 (decide (x.2.2<=8)) else
 false) else
 false) else
 false) else
 false) else
 false)
def Lg (_:I3):Prop:=True
def R2 (x:I3):Tr Bool false:=
 (.fm (x.1>=z1)
 (.fm (x.1<=256)
 (.fm (x.2.1>=z1)
 (.fm (x.2.1<=256)
 (.fm (x.2.2>=z1)
 (.ret (decide (x.2.2<=8)))
 (.ret false))
 (.ret false))
 (.ret false))
 (.ret false))
 (.ret false))
abbrev p8:bB:=⟨(.pair (.one yi) (.pair (.one yi) (.one yi))),(.one Ty.bool),Lg,nk⟩
theorem Nz:ah Tryz.prog 124 (ak p8):=ah.tr p8 R2 (fn:=Tryz.f124) ax Bn mixed (by kernel_rfl) (av.nil _ _) (fun x=>au.nil) (fun x=>(by kernel_rfl)) fun x Q=>(by kernel_rfl)
def Bm:List (Nat×Ev.Spec):=(124,ak p8)::Mn
theorem nA:ae Tryz.prog Bm:=ae.add (fn:=Tryz.f124) (by kernel_rfl) Nz Bn
def Uz (x:bJ):aF:=⟨[],⟨bq 77 0 [(1,.v (.one (.ptr 0 0))),(3,.v (.one (.i .i64)))],[.cells [.i .i64,.i .i64,.i .i64,.full 1,.full 2] 36,.row (Ty.prod (Ty.sl yi) (Ty.prod (Ty.sl aZ) aQ)) 0,.row (Ty.prod yi aU) 0],0,none,[],[1,2,3,4,5],[0],[.i],[.i x.1,.i x.2.1,.i x.2.2.1,.l (Ty.prod (Ty.sl yi) (Ty.prod (Ty.sl aZ) aQ)) x.2.2.2.1,.l (Ty.prod yi aU) x.2.2.2.2]⟩,[⟨.ret,.ret,⟨bq 77 0 [(2,.v (.one (.b)))],[],0,none,[],[0],[],[],[.b false]⟩⟩,⟨(.exit 0),.normal,⟨bq 77 0 [(1,.v (.one (.ptr 0 0)))],[.cells [.i .i64,.i .i64,.i .i64,.full 1,.full 2] 36,.row (Ty.prod (Ty.sl yi) (Ty.prod (Ty.sl aZ) aQ)) 0,.row (Ty.prod yi aU) 0],0,none,[],[0,1,2,3,4],[],[],[.i x.1,.i x.2.1,.i x.2.2.1,.l (Ty.prod (Ty.sl yi) (Ty.prod (Ty.sl aZ) aQ)) x.2.2.2.1,.l (Ty.prod yi aU) x.2.2.2.2]⟩⟩]⟩
def iZ (x:bJ) (s:Int):Int⊕(Unit⊕Unit):=
 (if (s<(x.2.2.2.2.length:Int)) then
 (if (((x.2.2.2.2.getD s.toNat (0,0,0,0)).2.2.1 !=(aj ((x.2.2.2.1.getD s.toNat ([],[],0,0)).2.2.1+(aj (2*x.2.2.1)))))=true) then
 (Sum.inr (Sum.inl ())) else
 (if (((x.2.2.2.2.getD s.toNat (0,0,0,0)).2.2.2 !=(aj ((x.2.2.2.1.getD s.toNat ([],[],0,0)).2.2.2+(aj (2*x.2.2.1)))))=true) then
 (Sum.inr (Sum.inl ())) else
 (Sum.inl (aj (s+1))))) else
 (Sum.inr (Sum.inr (()))))
def p7 (x:bJ) (s:Int):Prop:=
 ((s<(x.2.2.2.2.length:Int))->
 (((0<=s)/\ (s<(x.2.2.2.2.length:Int)))/\
 ((s.toNat<x.2.2.2.2.length)/\
 ((s.toNat<x.2.2.2.2.length)/\
 ((s.toNat<x.2.2.2.2.length)/\
 (((0<=s)/\ (s<(x.2.2.2.1.length:Int)))/\
 ((s.toNat<x.2.2.2.1.length)/\
 ((s.toNat<x.2.2.2.1.length)/\
 ((s.toNat<x.2.2.2.1.length)/\
 (¬(((x.2.2.2.2.getD s.toNat (0,0,0,0)).2.2.1 !=(aj ((x.2.2.2.1.getD s.toNat ([],[],0,0)).2.2.1+(aj (2*x.2.2.1)))))=true)->
 (((0<=s)/\ (s<(x.2.2.2.2.length:Int)))/\
 ((s.toNat<x.2.2.2.2.length)/\
 ((s.toNat<x.2.2.2.2.length)/\
 ((s.toNat<x.2.2.2.2.length)/\
 (((0<=s)/\ (s<(x.2.2.2.1.length:Int)))/\
 ((s.toNat<x.2.2.2.1.length)/\
 ((s.toNat<x.2.2.2.1.length)/\
 (s.toNat<x.2.2.2.1.length))))))))))))))))))
def Ld (x:bJ) (s:Int):Tr (Int⊕(Unit⊕Unit)) true:=
 (.i10 (s<(nL x.2.2.2.2))
 (.Dx s x.2.2.2.2
 (.Dx s x.2.2.2.1
 (.dy ((gT x.2.2.2.2 s (z0,ef)).2.2.1 !=(aj ((gT x.2.2.2.1 s ([],[],jg)).2.2.1+(aj (2*x.2.2.1)))))
 (.ret (.inr (Sum.inl ())))
 (.Dx s x.2.2.2.2
 (.Dx s x.2.2.2.1
 (.cQ ((gT x.2.2.2.2 s (z0,ef)).2.2.2 !=(aj ((gT x.2.2.2.1 s ([],[],jg)).2.2.2+(aj (2*x.2.2.1)))))
 (.ret (.inr (Sum.inl ())))
 (.ret (.inl (w1 s)))))))))
 (.ret (.inr (Sum.inr (())))))
def DW (x:bJ):Bool:=
 (aq (nk (x.1,x.2.1,x.2.2.1)) fun y=>
 (if ((!y)=true) then
 false else
 (aq (Ae x.2.2.2.1) fun aB=>
 (if ((!aB)=true) then
 false else
 (if (((x.2.2.2.2.length:Int) !=(x.2.2.2.1.length:Int))=true) then
 false else
 (aq (run (iZ x) 0) fun r=>
 (Sum.elim (fun a=>
 false) (fun b=>
 (aq (Uu (x.1,x.2.1,x.2.2.2.2)) fun y_2=>
 y_2)) r)))))))
def ug (x:bJ):Prop:=
 (az (nk (x.1,x.2.1,x.2.2.1)) fun y=>
 (¬((!y)=true)->
 ((so x.2.2.2.1)/\
 az (Ae x.2.2.2.1) fun aB=>
 (¬((!aB)=true)->
 (¬(((x.2.2.2.2.length:Int) !=(x.2.2.2.1.length:Int))=true)->
 (Term (iZ x) (p7 x) 0/\
 az (run (iZ x) 0) fun r=>
 (cS r (fun a=>
 True) (fun b=>
 (Gk (x.1,x.2.1,x.2.2.2.2))))))))))
def ahL (x:bJ):Tr Bool true:=
 (.fn0 p8 (x.1,x.2.1,x.2.2.1) trivial fun y=>
 (.dy (!y)
 (.ret false)
 (.fn Af x.2.2.2.1 fun aB=>
 (.dy (!aB)
 (.ret false)
 (.dy ((nL x.2.2.2.2) !=(nL x.2.2.2.1))
 (.ret false)
 (aF.lp (Uz x) (Ld x) z0 fun r=>
 (.s01 r (fun a=>
 (.ret false)) (fun b=>
 (.fn Jt (x.1,x.2.1,x.2.2.2.2) fun y_2=>
 (.ret y_2))))))))))
abbrev DX:bB:=⟨(.agg (Ty.prod yi (Ty.prod yi (Ty.prod yi (Ty.prod (Ty.sl (Ty.prod (Ty.sl yi) (Ty.prod (Ty.sl aZ) aQ))) (Ty.sl (Ty.prod yi aU))))))),(.one Ty.bool),ug,DW⟩
theorem aeZ:ah Tryz.prog 80 (ak DX):=ah.tr DX ahL (fn:=Tryz.f80) ax nA mixed (by kernel_rfl) (av.nil _ _) (fun x=>(au.tr ax (ae.bD nA (av.nil _ _)) mixed 0 (Uz x) (Ld x) au.nil (by kernel_rfl) fun g s Q=>(by kernel_rfl))) (fun x=>(by kernel_rfl)) fun x Q=>(by kernel_rfl)
def Vs:List (Nat×Ev.Spec):=(80,ak DX)::Bm
theorem sH:ae Tryz.prog Vs:=ae.add (fn:=Tryz.f80) (by kernel_rfl) aeZ nA
def O5 (x:bJ):aF:=⟨[],⟨bq 66 0 [(1,.v (.one (.ptr 0 0))),(5,.v (.one (.full 3))),(6,.v (.one (.full 4))),(7,.v (.one (.i .i64))),(8,.v (.one (.full 5))),(10,.v (.one (.i .i64)))],[.cells [.i .i64,.i .i64,.i .i64,.full 1,.full 2] 36,.row (Ty.prod (Ty.sl yi) (Ty.prod (Ty.sl aZ) aQ)) 0,.row (Ty.prod yi aU) 0,.row aZ 2,.row yi 2,.row aZ 2],0,none,[],[2,3,4,5,6],[7,8,0,9,1],[(.l aZ),(.l yi),.i,(.l aZ),.i],[.i x.1,.i x.2.1,.i x.2.2.1,.l (Ty.prod (Ty.sl yi) (Ty.prod (Ty.sl aZ) aQ)) x.2.2.2.1,.l (Ty.prod yi aU) x.2.2.2.2]⟩,[⟨(.exit 2),.normal,⟨bq 66 0 [(1,.v (.one (.ptr 0 0))),(5,.v (.one (.full 3))),(6,.v (.one (.full 4))),(7,.v (.one (.i .i64)))],[.cells [.i .i64,.i .i64,.i .i64,.full 1,.full 2] 36,.row (Ty.prod (Ty.sl yi) (Ty.prod (Ty.sl aZ) aQ)) 0,.row (Ty.prod yi aU) 0,.row aZ 2,.row yi 2],0,none,[],[1,2,3,4,5],[6,7,0],[(.l aZ),(.l yi),.i],[.i x.1,.i x.2.1,.i x.2.2.1,.l (Ty.prod (Ty.sl yi) (Ty.prod (Ty.sl aZ) aQ)) x.2.2.2.1,.l (Ty.prod yi aU) x.2.2.2.2]⟩⟩]⟩
def jE (x:bJ) (s:Fy):Fy⊕(List I6×List Int×Int):=
 (if (s.2.2.2.2<(s.2.2.2.1.length:Int)) then
 (Sum.inl (s.1,(s.2.1++ [s.2.2.1]),s.2.2.1,s.2.2.2.1,(aj (s.2.2.2.2+1)))) else
 (Sum.inr ((s.1,s.2.1,s.2.2.1))))
def nT (x:bJ) (s:Fy):Prop:=
 ((s.2.2.2.2<(s.2.2.2.1.length:Int))->
 ((s.2.1.length+1)<1099511627776))
def HA (x:bJ) (s:Fy):Tr (Fy⊕(List I6×List Int×Int)) true:=
 (.i10 (s.2.2.2.2<(nL s.2.2.2.1))
 (.od ((s.2.1.length+1)<1099511627776)
 (.ret (.inl (s.1,(s.2.1++ [s.2.2.1]),s.2.2.1,s.2.2.2.1,(w1 s.2.2.2.2)))))
 (.ret (.inr ((s.1,s.2.1,s.2.2.1)))))
def O4 (x:bJ):aF:=⟨[],⟨bq 66 0 [(1,.v (.one (.ptr 0 0))),(5,.v (.one (.full 3))),(6,.v (.one (.full 4))),(7,.v (.one (.i .i64)))],[.cells [.i .i64,.i .i64,.i .i64,.full 1,.full 2] 36,.row (Ty.prod (Ty.sl yi) (Ty.prod (Ty.sl aZ) aQ)) 0,.row (Ty.prod yi aU) 0,.row aZ 2,.row yi 2],0,none,[],[1,2,3,4,5],[6,7,0],[(.l aZ),(.l yi),.i],[.i x.1,.i x.2.1,.i x.2.2.1,.l (Ty.prod (Ty.sl yi) (Ty.prod (Ty.sl aZ) aQ)) x.2.2.2.1,.l (Ty.prod yi aU) x.2.2.2.2]⟩,[⟨(.exit 0),.normal,⟨bq 66 0 [(5,.v (.one (.full 0))),(6,.v (.one (.full 1)))],[.row aZ 2,.row yi 2],0,none,[],[],[0,1],[(.l aZ),(.l yi)],[]⟩⟩]⟩
def jD (x:bJ) (s:(List I6×List Int×Int)):(List I6×List Int×Int)⊕(List I6×List Int):=
 (if (s.2.2<(x.2.2.2.1.length:Int)) then
 (aq (z7 ((x.2.2.2.1.getD s.2.2.toNat ([],[],0,0)),(aj (16*(aj ((x.2.2.2.2.getD s.2.2.toNat (0,0,0,0)).1+x.2.2.1)))),(aj (16*(aj ((x.2.2.2.2.getD s.2.2.toNat (0,0,0,0)).2.1+x.2.2.1)))))) fun y=>
 (aq (run (jE x) ((s.1++y.1),s.2.1,s.2.2,y.1,0)) fun r=>
 (Sum.inl (r.1,r.2.1,(aj (r.2.2+1)))))) else
 (Sum.inr ((s.1,s.2.1))))
def nS (x:bJ) (s:(List I6×List Int×Int)):Prop:=
 ((s.2.2<(x.2.2.2.1.length:Int))->
 (((0<=s.2.2)/\ (s.2.2<(x.2.2.2.1.length:Int)))/\
 ((s.2.2.toNat<x.2.2.2.1.length)/\
 ((s.2.2.toNat<x.2.2.2.1.length)/\
 (((0<=s.2.2)/\ (s.2.2<(x.2.2.2.2.length:Int)))/\
 ((s.2.2.toNat<x.2.2.2.2.length)/\
 ((s.2.2.toNat<x.2.2.2.2.length)/\
 ((s.2.2.toNat<x.2.2.2.2.length)/\
 (((0<=s.2.2)/\ (s.2.2<(x.2.2.2.2.length:Int)))/\
 ((s.2.2.toNat<x.2.2.2.2.length)/\
 ((s.2.2.toNat<x.2.2.2.2.length)/\
 ((s.2.2.toNat<x.2.2.2.2.length)/\
 ((r9 ((x.2.2.2.1.getD s.2.2.toNat ([],[],0,0)),(aj (16*(aj ((x.2.2.2.2.getD s.2.2.toNat (0,0,0,0)).1+x.2.2.1)))),(aj (16*(aj ((x.2.2.2.2.getD s.2.2.toNat (0,0,0,0)).2.1+x.2.2.1))))))/\
 az (z7 ((x.2.2.2.1.getD s.2.2.toNat ([],[],0,0)),(aj (16*(aj ((x.2.2.2.2.getD s.2.2.toNat (0,0,0,0)).1+x.2.2.1)))),(aj (16*(aj ((x.2.2.2.2.getD s.2.2.toNat (0,0,0,0)).2.1+x.2.2.1)))))) fun y=>
 (((s.1.length+y.1.length)<1099511627776)/\
 (Term (jE x) (nT x) ((s.1++y.1),s.2.1,s.2.2,y.1,0))))))))))))))))
def Hz (x:bJ) (s:(List I6×List Int×Int)):Tr ((List I6×List Int×Int)⊕(List I6×List Int)) true:=
 (.i10 (s.2.2<(nL x.2.2.2.1))
 (.gu s.2.2 x.2.2.2.1
 (.Dx s.2.2 x.2.2.2.2
 (.Dx s.2.2 x.2.2.2.2
 (.fn z8 ((gT x.2.2.2.1 s.2.2 ([],[],jg)),(aj (16*(aj ((gT x.2.2.2.2 s.2.2 (z0,ef)).1+x.2.2.1)))),(aj (16*(aj ((gT x.2.2.2.2 s.2.2 (z0,ef)).2.1+x.2.2.1))))) fun y=>
 (.od ((s.1.length+y.1.length)<1099511627776)
 (aF.lp (O5 x) (HA x) ((s.1++y.1),s.2.1,s.2.2,y.1,z0) fun r=>
 (.ret (.inl (r.1,r.2.1,(w1 r.2.2))))))))))
 (.ret (.inr ((s.1,s.2.1)))))
def Cb (x:bJ):(List I6×List Int×Int):=
 (aq (DW x) fun y=>
 (if ((!y)=true) then
 ([],[],1) else
 (aq (run (jD x) ([],[],0)) fun r=>
 (r.1,r.2,0))))
def vA (x:bJ):Prop:=
 ((ug x)/\
 az (DW x) fun y=>
 (¬((!y)=true)->
 (Term (jD x) (nS x) ([],[],0))))
def aeX (x:bJ):Tr (List I6×List Int×Int) true:=
 (.fn DX x fun y=>
 (.dy (!y)
 (.ret ([],[],z1))
 (aF.lp (O4 x) (Hz x) ([],[],z0) fun r=>
 (.ret (r.1,r.2,z0)))))
abbrev DT:bB:=⟨(.agg (Ty.prod yi (Ty.prod yi (Ty.prod yi (Ty.prod (Ty.sl (Ty.prod (Ty.sl yi) (Ty.prod (Ty.sl aZ) aQ))) (Ty.sl (Ty.prod yi aU))))))),(.pair (.one (Ty.sl aZ)) (.pair (.one (Ty.sl yi)) (.one yi))),vA,Cb⟩
theorem abC:ah Tryz.prog 38 (ak DT):=ah.tr DT aeX (fn:=Tryz.f38) ax sH mixed (by kernel_rfl) (av.nil _ _) (fun x=>(au.tr ax (ae.bD sH (av.nil _ _)) mixed 0 (O4 x) (Hz x) (au.tr ax (ae.bD sH (av.nil _ _)) mixed 2 (O5 x) (HA x) au.nil (by kernel_rfl) fun g s Q=>(by kernel_rfl)) (by kernel_rfl) fun g s Q=>(by kernel_rfl))) (fun x=>(by kernel_rfl)) fun x Q=>(by kernel_rfl)
def P9:List (Nat×Ev.Spec):=(38,ak DT)::Vs
theorem vY:ae Tryz.prog P9:=ae.add (fn:=Tryz.f38) (by kernel_rfl) abC sH
def D2 (x:bJ):aF:=⟨[],⟨bq 21 0 [(1,.v (.one (.ptr 0 0))),(3,.v (.one (.full 3))),(4,.v (.one (.i .i64)))],[.cells [.i .i64,.i .i64,.i .i64,.full 1,.full 2] 36,.row (Ty.prod (Ty.sl yi) (Ty.prod (Ty.sl aZ) aQ)) 0,.row (Ty.prod yi aU) 0,.row yi 2],0,none,[],[1,2,3,4,5],[6,0],[(.l yi),.i],[.i x.1,.i x.2.1,.i x.2.2.1,.l (Ty.prod (Ty.sl yi) (Ty.prod (Ty.sl aZ) aQ)) x.2.2.2.1,.l (Ty.prod yi aU) x.2.2.2.2]⟩,[⟨(.exit 0),.normal,⟨bq 21 0 [(3,.v (.one (.full 0)))],[.row yi 2],0,none,[],[],[0],[(.l yi)],[]⟩⟩]⟩
def fO (x:bJ) (s:(List Int×Int)):(List Int×Int)⊕(List Int):=
 (if (s.2<(x.2.2.2.1.length:Int)) then
 (Sum.inl ((s.1++(x.2.2.2.1.getD s.2.toNat ([],[],0,0)).1),(aj (s.2+1)))) else
 (Sum.inr (s.1)))
def jT (x:bJ) (s:(List Int×Int)):Prop:=
 ((s.2<(x.2.2.2.1.length:Int))->
 (((0<=s.2)/\ (s.2<(x.2.2.2.1.length:Int)))/\
 ((s.2.toNat<x.2.2.2.1.length)/\
 ((s.2.toNat<x.2.2.2.1.length)/\
 ((s.2.toNat<x.2.2.2.1.length)/\
 ((s.1.length+(List.length (x.2.2.2.1.getD s.2.toNat ([],[],0,0)).1))<1099511627776))))))
def yl (x:bJ) (s:(List Int×Int)):Tr ((List Int×Int)⊕(List Int)) true:=
 (.i10 (s.2<(nL x.2.2.2.1))
 (.Dx s.2 x.2.2.2.1
 (.od ((s.1.length+(List.length (gT x.2.2.2.1 s.2 ([],[],jg)).1))<1099511627776)
 (.ret (.inl ((s.1++(gT x.2.2.2.1 s.2 ([],[],jg)).1),(w1 s.2))))))
 (.ret (.inr (s.1))))
def qn (x:bJ):(List Int):=
 (aq (run (fO x) ([],0)) fun r=>
 r)
def nV (x:bJ):Prop:=
 (Term (fO x) (jT x) ([],0))
def UB (x:bJ):Tr (List Int) true:=
 (aF.lp (D2 x) (yl x) ([],z0) fun r=>
 (.ret r))
abbrev oT:bB:=⟨(.agg (Ty.prod yi (Ty.prod yi (Ty.prod yi (Ty.prod (Ty.sl (Ty.prod (Ty.sl yi) (Ty.prod (Ty.sl aZ) aQ))) (Ty.sl (Ty.prod yi aU))))))),(.one (Ty.sl yi)),nV,qn⟩
theorem R3:ah Tryz.prog 39 (ak oT):=ah.tr oT UB (fn:=Tryz.f39) ax vY mixed (by kernel_rfl) (av.nil _ _) (fun x=>(au.tr ax (ae.bD vY (av.nil _ _)) mixed 0 (D2 x) (yl x) au.nil (by kernel_rfl) fun g s Q=>(by kernel_rfl))) (fun x=>(by kernel_rfl)) fun x Q=>(by kernel_rfl)
def E2:List (Nat×Ev.Spec):=(39,ak oT)::P9
theorem pH:ae Tryz.prog E2:=ae.add (fn:=Tryz.f39) (by kernel_rfl) R3 vY
def O8 (x:bJ):aF:=⟨[],⟨bq 34 0 [(1,.v (.one (.ptr 0 0))),(2,.v (.one (.ptr 3 0))),(3,.v (.one (.ptr 4 0))),(4,.v (.one (.i .i64)))],[.cells [.i .i64,.i .i64,.i .i64,.full 1,.full 2] 36,.row (Ty.prod (Ty.sl yi) (Ty.prod (Ty.sl aZ) aQ)) 0,.row (Ty.prod yi aU) 0,.cells [.i .i64,.i .i64,.i .i64,.raw,.raw] 36,.cells [.i .i64,.i .i64,.i .i64,.full 5,.full 6] 36,.row (Ty.prod (Ty.sl yi) (Ty.prod (Ty.sl aZ) aQ)) 2,.row (Ty.prod yi aU) 2],0,none,[],[1,2,3,4,5,6,7,8,9,10,11,12,13],[14,15,0],[(.l (Ty.prod (Ty.sl yi) (Ty.prod (Ty.sl aZ) aQ))),(.l (Ty.prod yi aU)),.i],[.i x.1,.i x.2.1,.i x.2.2.1,.l (Ty.prod (Ty.sl yi) (Ty.prod (Ty.sl aZ) aQ)) x.2.2.2.1,.l (Ty.prod yi aU) x.2.2.2.2,.i 0,.i 0,.i 0,.v (.slice none 0 0),.v (.slice none 0 0),.i x.1,.i x.2.1,.i x.2.2.1]⟩,[⟨(.exit 0),.normal,⟨bq 34 0 [(2,.v (.one (.ptr 0 0))),(3,.v (.one (.ptr 1 0)))],[.cells [.i .i64,.i .i64,.i .i64,.raw,.raw] 36,.cells [.i .i64,.i .i64,.i .i64,.full 2,.full 3] 36,.row (Ty.prod (Ty.sl yi) (Ty.prod (Ty.sl aZ) aQ)) 2,.row (Ty.prod yi aU) 2],0,none,[],[0,1,2,3,4,5,6,7],[8,9],[(.l (Ty.prod (Ty.sl yi) (Ty.prod (Ty.sl aZ) aQ))),(.l (Ty.prod yi aU))],[.i 0,.i 0,.i 0,.v (.slice none 0 0),.v (.slice none 0 0),.i x.1,.i x.2.1,.i x.2.2.1]⟩⟩]⟩
def jG (x:bJ) (s:Fx):Fx⊕(List (List Int×List I6×I2)×List (Int×I3)):=
 (if (s.2.2<(x.2.2.2.1.length:Int)) then
 (aq (K6 (x.2.2.2.1.getD s.2.2.toNat ([],[],0,0))) fun y=>
 (Sum.inl ((s.1++ [y]),s.2.1,(aj (s.2.2+1))))) else
 (Sum.inr ((s.1,s.2.1))))
def nU (x:bJ) (s:Fx):Prop:=
 ((s.2.2<(x.2.2.2.1.length:Int))->
 (((0<=s.2.2)/\ (s.2.2<(x.2.2.2.1.length:Int)))/\
 ((s.2.2.toNat<x.2.2.2.1.length)/\
 ((s.2.2.toNat<x.2.2.2.1.length)/\
 ((Ca (x.2.2.2.1.getD s.2.2.toNat ([],[],0,0)))/\
 az (K6 (x.2.2.2.1.getD s.2.2.toNat ([],[],0,0))) fun y=>
 ((s.1.length+1)<1099511627776))))))
def HC (x:bJ) (s:Fx):Tr (Fx⊕(List (List Int×List I6×I2)×List (Int×I3))) true:=
 (.i10 (s.2.2<(nL x.2.2.2.1))
 (.gu s.2.2 x.2.2.2.1
 (.fn DP (gT x.2.2.2.1 s.2.2 ([],[],jg)) fun y=>
 (.od ((s.1.length+1)<1099511627776)
 (.ret (.inl ((s.1++ [y]),s.2.1,(w1 s.2.2)))))))
 (.ret (.inr ((s.1,s.2.1)))))
def Lk (x:bJ):bJ:=
 (aq (R1 x.2.2.2.2) fun y=>
 (aq (run (jG x) ([],y,0)) fun r=>
 (x.1,x.2.1,x.2.2.1,r)))
def vB (x:bJ):Prop:=
 ((La x.2.2.2.2)/\
 az (R1 x.2.2.2.2) fun y=>
 (Term (jG x) (nU x) ([],y,0)))
def ae0 (x:bJ):Tr bJ true:=
 (.fn DQ x.2.2.2.2 fun y=>
 (aF.lp (O8 x) (HC x) ([],y,z0) fun r=>
 (.ret (x.1,x.2.1,x.2.2.1,r))))
abbrev D1:bB:=⟨(.agg (Ty.prod yi (Ty.prod yi (Ty.prod yi (Ty.prod (Ty.sl (Ty.prod (Ty.sl yi) (Ty.prod (Ty.sl aZ) aQ))) (Ty.sl (Ty.prod yi aU))))))),(.agg (Ty.prod yi (Ty.prod yi (Ty.prod yi (Ty.prod (Ty.sl (Ty.prod (Ty.sl yi) (Ty.prod (Ty.sl aZ) aQ))) (Ty.sl (Ty.prod yi aU))))))),vB,Lk⟩
theorem abF:ah Tryz.prog 8 (ak D1):=ah.tr D1 ae0 (fn:=Tryz.f8) ax pH mixed (by kernel_rfl) (av.nil _ _) (fun x=>(au.tr ax (ae.bD pH (av.nil _ _)) mixed 0 (O8 x) (HC x) au.nil (by kernel_rfl) fun g s Q=>(by kernel_rfl))) (fun x=>(by kernel_rfl)) fun x Q=>(by kernel_rfl)
def Qb:List (Nat×Ev.Spec):=(8,ak D1)::E2
theorem vZ:ae Tryz.prog Qb:=ae.add (fn:=Tryz.f8) (by kernel_rfl) abF pH
def Ll (x:wB):aF:=⟨[],⟨bq 61 0 [(2,.v (.one (.ptr 0 0))),(3,.v (.one (.ptr 3 0))),(5,.v (.one (.i .i64)))],[.cells [.i .i64,.i .i64,.i .i64,.full 1,.full 2] 36,.row (Ty.prod (Ty.sl yi) (Ty.prod (Ty.sl aZ) aQ)) 0,.row (Ty.prod yi aU) 0,.cells [.i .i64,.i .i64,.i .i64,.full 4,.full 5] 36,.row (Ty.prod (Ty.sl yi) (Ty.prod (Ty.sl aZ) aQ)) 0,.row (Ty.prod yi aU) 0],0,none,[],[1,2,3,4,5,6,7,8,9,10],[0],[.i],[.i x.1.1,.i x.1.2.1,.i x.1.2.2.1,.l (Ty.prod (Ty.sl yi) (Ty.prod (Ty.sl aZ) aQ)) x.1.2.2.2.1,.l (Ty.prod yi aU) x.1.2.2.2.2,.i x.2.1,.i x.2.2.1,.i x.2.2.2.1,.l (Ty.prod (Ty.sl yi) (Ty.prod (Ty.sl aZ) aQ)) x.2.2.2.2.1,.l (Ty.prod yi aU) x.2.2.2.2.2]⟩,[⟨.ret,.ret,⟨bq 61 0 [(4,.v (.one (.b)))],[],0,none,[],[0],[],[],[.b false]⟩⟩,⟨(.exit 0),.normal,⟨bq 61 0 [],[],0,none,[],[],[],[],[]⟩⟩]⟩
def iP (x:wB) (s:Int):Int⊕(Unit⊕Unit):=
 (if (s<(x.1.2.2.2.1.length:Int)) then
 (aq (z9 ((x.1.2.2.2.1.getD s.toNat ([],[],0,0)),(x.2.2.2.2.1.getD s.toNat ([],[],0,0)))) fun y=>
 (if ((!y)=true) then
 (Sum.inr (Sum.inl ())) else
 (Sum.inl (aj (s+1))))) else
 (Sum.inr (Sum.inr (()))))
def mh (x:wB) (s:Int):Prop:=
 ((s<(x.1.2.2.2.1.length:Int))->
 (((0<=s)/\ (s<(x.1.2.2.2.1.length:Int)))/\
 ((s.toNat<x.1.2.2.2.1.length)/\
 ((s.toNat<x.1.2.2.2.1.length)/\
 (((0<=s)/\ (s<(x.2.2.2.2.1.length:Int)))/\
 ((s.toNat<x.2.2.2.2.1.length)/\
 ((s.toNat<x.2.2.2.2.1.length)/\
 (oP ((x.1.2.2.2.1.getD s.toNat ([],[],0,0)),(x.2.2.2.2.1.getD s.toNat ([],[],0,0)))))))))))
def D3 (x:wB) (s:Int):Tr (Int⊕(Unit⊕Unit)) true:=
 (.i10 (s<(nL x.1.2.2.2.1))
 (.gu s x.1.2.2.2.1
 (.gu s x.2.2.2.2.1
 (.fn Aa ((gT x.1.2.2.2.1 s ([],[],jg)),(gT x.2.2.2.2.1 s ([],[],jg))) fun y=>
 (.cQ (!y)
 (.ret (.inr (Sum.inl ())))
 (.ret (.inl (w1 s)))))))
 (.ret (.inr (Sum.inr (())))))
def Ju (x:wB):Bool:=
 (if ((x.1.1 !=x.2.1)=true) then
 false else
 (if ((x.1.2.1 !=x.2.2.1)=true) then
 false else
 (if ((x.1.2.2.1 !=x.2.2.2.1)=true) then
 false else
 (if (((x.1.2.2.2.1.length:Int) !=(x.2.2.2.2.1.length:Int))=true) then
 false else
 (aq (DR (x.1.2.2.2.2,x.2.2.2.2.2)) fun y=>
 (if ((!y)=true) then
 false else
 (aq (run (iP x) 0) fun r=>
 (Sum.elim (fun a=>
 false) (fun b=>
 true) r))))))))
def ym (x:wB):Prop:=
 (¬((x.1.1 !=x.2.1)=true)->
 (¬((x.1.2.1 !=x.2.2.1)=true)->
 (¬((x.1.2.2.1 !=x.2.2.2.1)=true)->
 (¬(((x.1.2.2.2.1.length:Int) !=(x.2.2.2.2.1.length:Int))=true)->
 ((sk (x.1.2.2.2.2,x.2.2.2.2.2))/\
 az (DR (x.1.2.2.2.2,x.2.2.2.2.2)) fun y=>
 (¬((!y)=true)->
 (Term (iP x) (mh x) 0)))))))
def abG (x:wB):Tr Bool true:=
 (.dy (x.1.1 !=x.2.1)
 (.ret false)
 (.dy (x.1.2.1 !=x.2.2.1)
 (.ret false)
 (.dy (x.1.2.2.1 !=x.2.2.2.1)
 (.ret false)
 (.dy ((nL x.1.2.2.2.1) !=(nL x.2.2.2.2.1))
 (.ret false)
 (.fn Ad (x.1.2.2.2.2,x.2.2.2.2.2) fun y=>
 (.dy (!y)
 (.ret false)
 (aF.lp (Ll x) (D3 x) z0 fun r=>
 (.ri r (fun a=>
 (.ret false)) (fun b=>
 (.ret true))))))))))
abbrev Ag:bB:=⟨(.pair (.agg (Ty.prod yi (Ty.prod yi (Ty.prod yi (Ty.prod (Ty.sl (Ty.prod (Ty.sl yi) (Ty.prod (Ty.sl aZ) aQ))) (Ty.sl (Ty.prod yi aU))))))) (.agg (Ty.prod yi (Ty.prod yi (Ty.prod yi (Ty.prod (Ty.sl (Ty.prod (Ty.sl yi) (Ty.prod (Ty.sl aZ) aQ))) (Ty.sl (Ty.prod yi aU)))))))),(.one Ty.bool),ym,Ju⟩
theorem Xv:ah Tryz.prog 20 (ak Ag):=ah.tr Ag abG (fn:=Tryz.f20) ax vZ mixed (by kernel_rfl) (av.nil _ _) (fun x=>(au.tr ax (ae.bD vZ (av.nil _ _)) mixed 0 (Ll x) (D3 x) au.nil (by kernel_rfl) fun g s Q=>(by kernel_rfl))) (fun x=>(by kernel_rfl)) fun x Q=>(by kernel_rfl)
def Mp:List (Nat×Ev.Spec):=(20,ak Ag)::Qb
theorem Bo:ae Tryz.prog Mp:=ae.add (fn:=Tryz.f20) (by kernel_rfl) Xv vZ
end Go.Proofs.YtfgdjlhilladhaaGreat
