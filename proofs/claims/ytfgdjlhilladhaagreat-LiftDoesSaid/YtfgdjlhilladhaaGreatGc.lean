/- Models: what is few. -/
import Derived.Test.YtfgdjlhilladhaaGreatGb
noncomputable section
set_option linter.unusedSectionVars false
set_option linter.unusedVariables false
set_option linter.unusedSimpArgs false
namespace Go.Proofs.YtfgdjlhilladhaaGreat
open Go Go.Ev Go.Proofs
abbrev SI:Type:=((List I3×List I2×List I3×List I9)×Int×Int×Int×List (List Int×List I6×I2)×List (Int×I3))
abbrev wA:Type:=((List I3×List I2×List I3×List I9)×List (Int×Int×List Int))
abbrev SJ:Type:=(List I3×List I2×List I3×List I9)
def Te (x:SJ):Bool:=
 (if ((x.1.length:Int)<=20) then
 (if ((x.2.1.length:Int)<=60) then
 (if ((x.2.2.1.length:Int)<=60) then
 (decide ((x.2.2.2.length:Int)<=20)) else
 false) else
 false) else
 false)
def aaw (_:SJ):Prop:=True
def agZ (x:SJ):Tr Bool false:=
 (.fm ((nL x.1)<=20)
 (.fm ((nL x.2.1)<=60)
 (.fm ((nL x.2.2.1)<=60)
 (.ret (decide ((nL x.2.2.2)<=20)))
 (.ret false))
 (.ret false))
 (.ret false))
abbrev I8:bB:=⟨(.agg (Ty.prod (Ty.sl aU) (Ty.prod (Ty.sl aQ) (Ty.prod (Ty.sl aU) (Ty.sl fk))))),(.one Ty.bool),aaw,Te⟩
theorem adp:ah Tryz.prog 56 (ak I8):=ah.tr I8 agZ (fn:=Tryz.f56) ax wP mixed (by kernel_rfl) (av.nil _ _) (fun x=>au.nil) (fun x=>(by kernel_rfl)) fun x Q=>(by kernel_rfl)
def U9:List (Nat×Ev.Spec):=(56,ak I8)::EM
theorem yF:ae Tryz.prog U9:=ae.add (fn:=Tryz.f56) (by kernel_rfl) adp wP
def Tf (x:wA):aF:=⟨[],⟨bq 37 0 [(1,.v (.one (.full 0))),(2,.v (.one (.ptr 1 0))),(5,.v (.one (.i .i64)))],[.row (Ty.prod yi (Ty.prod yi (Ty.sl yi))) 0,.cells [.full 2,.full 3,.full 4,.full 5] 32,.row aU 0,.row aQ 0,.row aU 0,.row fk 0],0,none,[],[1,2,3,4,5],[0],[.i],[.l (Ty.prod yi (Ty.prod yi (Ty.sl yi))) x.2,.l aU x.1.1,.l aQ x.1.2.1,.l aU x.1.2.2.1,.l fk x.1.2.2.2]⟩,[⟨.ret,.ret,⟨bq 37 0 [(4,.v (.one (.b)))],[],0,none,[],[0],[],[],[.b false]⟩⟩,⟨(.exit 0),.normal,⟨bq 37 0 [(1,.v (.one (.full 0))),(2,.v (.one (.ptr 1 0)))],[.row (Ty.prod yi (Ty.prod yi (Ty.sl yi))) 0,.cells [.full 2,.full 3,.full 4,.full 5] 32,.row aU 0,.row aQ 0,.row aU 0,.row fk 0],0,none,[],[0,1,2,3,4],[],[],[.l (Ty.prod yi (Ty.prod yi (Ty.sl yi))) x.2,.l aU x.1.1,.l aQ x.1.2.1,.l aU x.1.2.2.1,.l fk x.1.2.2.2]⟩⟩]⟩
def sS (x:wA) (s:Int):Int⊕(Unit⊕Unit):=
 (if (s<(x.2.length:Int)) then
 (if ((x.2.length:Int)<=20) then
 (if (((x.2.getD s.toNat (0,0,[])).2.2.length:Int)>20) then
 (Sum.inr (Sum.inl ())) else
 (Sum.inl (aj (s+1)))) else
 (Sum.inr (Sum.inr (())))) else
 (Sum.inr (Sum.inr (()))))
def Q7 (x:wA) (s:Int):Prop:=
 ((s<(x.2.length:Int))->
 (((x.2.length:Int)<=20)->
 (((0<=s)/\ (s<(x.2.length:Int)))/\
 ((s.toNat<x.2.length)/\
 ((s.toNat<x.2.length)/\
 (s.toNat<x.2.length))))))
def J8 (x:wA) (s:Int):Tr (Int⊕(Unit⊕Unit)) true:=
 (.i10 (s<(nL x.2))
 (.i10 ((nL x.2)<=20)
 (.Dx s x.2
 (.fm ((nL (gT x.2 s (z0,z0,[])).2.2)>20)
 (.ret (.inr (Sum.inl ())))
 (.ret (.inl (w1 s)))))
 (.ret (.inr (Sum.inr (())))))
 (.ret (.inr (Sum.inr (())))))
def Oh (x:wA):Bool:=
 (aq (run (sS x) 0) fun r=>
 (Sum.elim (fun a=>
 false) (fun b=>
 (if ((x.2.length:Int)<=20) then
 (aq (Te x.1) fun y=>
 (if (y=true) then
 (decide ((x.1.2.2.2.length:Int)<=12)) else
 false)) else
 false)) r))
def FY (x:wA):Prop:=
 (Term (sS x) (Q7 x) 0)
def ag0 (x:wA):Tr Bool true:=
 (aF.lp (Tf x) (J8 x) z0 fun r=>
 (.ri r (fun a=>
 (.ret false)) (fun b=>
 (.fm ((nL x.2)<=20)
 (.fn0 I8 x.1 trivial fun y=>
 (.cQ y
 (.ret (decide ((nL x.1.2.2.2)<=12)))
 (.ret false)))
 (.ret false)))))
abbrev Ja:bB:=⟨(.pair (.agg (Ty.prod (Ty.sl aU) (Ty.prod (Ty.sl aQ) (Ty.prod (Ty.sl aU) (Ty.sl fk))))) (.one (Ty.sl (Ty.prod yi (Ty.prod yi (Ty.sl yi)))))),(.one Ty.bool),FY,Oh⟩
theorem adq:ah Tryz.prog 26 (ak Ja):=ah.tr Ja ag0 (fn:=Tryz.f26) ax yF mixed (by kernel_rfl) (av.nil _ _) (fun x=>(au.tr ax (ae.bD yF (av.nil _ _)) mixed 0 (Tf x) (J8 x) au.nil (by kernel_rfl) fun g s Q=>(by kernel_rfl))) (fun x=>(by kernel_rfl)) fun x Q=>(by kernel_rfl)
def Va:List (Nat×Ev.Spec):=(26,ak Ja)::U9
theorem HX:ae Tryz.prog Va:=ae.add (fn:=Tryz.f26) (by kernel_rfl) adq yF
def Gj (x:(List Int×List I6×I2)):Bool:=
 (if ((x.1.length:Int)>15) then
 true else
 (decide ((x.2.1.length:Int)>15)))
def Xj (_:(List Int×List I6×I2)):Prop:=True
def aeR (x:(List Int×List I6×I2)):Tr Bool false:=
 (.fm ((nL x.1)>15)
 (.ret true)
 (.ret (decide ((nL x.2.1)>15))))
abbrev DK:bB:=⟨(.agg (Ty.prod (Ty.sl yi) (Ty.prod (Ty.sl aZ) aQ))),(.one Ty.bool),Xj,Gj⟩
theorem abr:ah Tryz.prog 57 (ak DK):=ah.tr DK aeR (fn:=Tryz.f57) ax HX mixed (by kernel_rfl) (av.nil _ _) (fun x=>au.nil) (fun x=>(by kernel_rfl)) fun x Q=>(by kernel_rfl)
def P5:List (Nat×Ev.Spec):=(57,ak DK)::Va
theorem vW:ae Tryz.prog P5:=ae.add (fn:=Tryz.f57) (by kernel_rfl) abr HX
def O6 (x:(List (List Int×List I6×I2))):aF:=⟨[],⟨bq 36 0 [(0,.v (.one (.full 0))),(3,.v (.one (.i .i64))),(4,.v (.one (.i .i64)))],[.row (Ty.prod (Ty.sl yi) (Ty.prod (Ty.sl aZ) aQ)) 0],0,none,[],[2],[0,1],[.i,.i],[.l (Ty.prod (Ty.sl yi) (Ty.prod (Ty.sl aZ) aQ)) x]⟩,[⟨.ret,.ret,⟨bq 36 0 [(2,.v (.one (.b)))],[],0,none,[],[0],[],[],[.b true]⟩⟩,⟨(.exit 0),.normal,⟨bq 36 0 [(0,.v (.one (.full 0))),(3,.v (.one (.i .i64)))],[.row (Ty.prod (Ty.sl yi) (Ty.prod (Ty.sl aZ) aQ)) 0],0,none,[],[1],[0],[.i],[.l (Ty.prod (Ty.sl yi) (Ty.prod (Ty.sl aZ) aQ)) x]⟩⟩]⟩
def gU (x:(List (List Int×List I6×I2))) (s:I2):I2⊕(Unit⊕Int):=
 (if (s.2<(x.length:Int)) then
 (if ((x.length:Int)<=12) then
 (aq (Gj (x.getD s.2.toNat ([],[],0,0))) fun y=>
 (if (y=true) then
 (Sum.inr (Sum.inl ())) else
 (Sum.inl ((aj (s.1+((x.getD s.2.toNat ([],[],0,0)).2.1.length:Int))),(aj (s.2+1)))))) else
 (Sum.inr (Sum.inr (s.1)))) else
 (Sum.inr (Sum.inr (s.1))))
def kr (x:(List (List Int×List I6×I2))) (s:I2):Prop:=
 ((s.2<(x.length:Int))->
 (((x.length:Int)<=12)->
 (((0<=s.2)/\ (s.2<(x.length:Int)))/\
 ((s.2.toNat<x.length)/\
 ((s.2.toNat<x.length)/\
 (az (Gj (x.getD s.2.toNat ([],[],0,0))) fun y=>
 (¬(y=true)->
 (((0<=s.2)/\ (s.2<(x.length:Int)))/\
 ((s.2.toNat<x.length)/\
 ((s.2.toNat<x.length)/\
 (s.2.toNat<x.length)))))))))))
def HB (x:(List (List Int×List I6×I2))) (s:I2):Tr (I2⊕(Unit⊕Int)) true:=
 (.i10 (s.2<(nL x))
 (.i10 ((nL x)<=12)
 (.gu s.2 x
 (.fn0 DK (gT x s.2 ([],[],jg)) trivial fun y=>
 (.dy y
 (.ret (.inr (Sum.inl ())))
 (.Dx s.2 x
 (.ret (.inl ((aj (s.1+(nL (gT x s.2 ([],[],jg)).2.1))),(w1 s.2))))))))
 (.ret (.inr (Sum.inr (s.1)))))
 (.ret (.inr (Sum.inr (s.1)))))
def Lc (x:(List (List Int×List I6×I2))):Bool:=
 (aq (run (gU x) (0,0)) fun r=>
 (Sum.elim (fun a=>
 true) (fun b=>
 (if ((x.length:Int)>12) then
 true else
 (decide (b>30)))) r))
def Cc (x:(List (List Int×List I6×I2))):Prop:=
 (Term (gU x) (kr x) (0,0))
def aeY (x:(List (List Int×List I6×I2))):Tr Bool true:=
 (aF.lp (O6 x) (HB x) jg fun r=>
 (.ri r (fun a=>
 (.ret true)) (fun b=>
 (.fm ((nL x)>12)
 (.ret true)
 (.ret (decide (b>30)))))))
abbrev DU:bB:=⟨(.one (Ty.sl (Ty.prod (Ty.sl yi) (Ty.prod (Ty.sl aZ) aQ)))),(.one Ty.bool),Cc,Lc⟩
theorem abD:ah Tryz.prog 27 (ak DU):=ah.tr DU aeY (fn:=Tryz.f27) ax vW mixed (by kernel_rfl) (av.nil _ _) (fun x=>(au.tr ax (ae.bD vW (av.nil _ _)) mixed 0 (O6 x) (HB x) au.nil (by kernel_rfl) fun g s Q=>(by kernel_rfl))) (fun x=>(by kernel_rfl)) fun x Q=>(by kernel_rfl)
def Qa:List (Nat×Ev.Spec):=(27,ak DU)::P5
theorem E1:ae Tryz.prog Qa:=ae.add (fn:=Tryz.f27) (by kernel_rfl) abD vW
def Oi (x:SI):Bool:=
 (aq (Oh (x.1,[])) fun y=>
 (if (y=true) then
 (aq (Lc x.2.2.2.2.1) fun aB=>
 (if ((!aB)=true) then
 (if ((x.2.2.2.2.2.length:Int)<=30) then
 (if (x.2.1<=24) then
 (decide (x.2.2.1<=24)) else
 false) else
 false) else
 false)) else
 false))
def zx (x:SI):Prop:=
 ((FY (x.1,[]))/\
 az (Oh (x.1,[])) fun y=>
 ((y=true)->
 (Cc x.2.2.2.2.1)))
def ag1 (x:SI):Tr Bool true:=
 (.fn Ja (x.1,[]) fun y=>
 (.FB y
 (.fn DU x.2.2.2.2.1 fun aB=>
 (.cQ (!aB)
 (.fm ((nL x.2.2.2.2.2)<=30)
 (.fm (x.2.1<=24)
 (.ret (decide (x.2.2.1<=24)))
 (.ret false))
 (.ret false))
 (.ret false)))
 (.ret false)))
abbrev Jb:bB:=⟨(.pair (.agg (Ty.prod (Ty.sl aU) (Ty.prod (Ty.sl aQ) (Ty.prod (Ty.sl aU) (Ty.sl fk))))) (.agg (Ty.prod yi (Ty.prod yi (Ty.prod yi (Ty.prod (Ty.sl (Ty.prod (Ty.sl yi) (Ty.prod (Ty.sl aZ) aQ))) (Ty.sl (Ty.prod yi aU)))))))),(.one Ty.bool),zx,Oi⟩
theorem ads:ah Tryz.prog 6 (ak Jb):=ah.tr Jb ag1 (fn:=Tryz.f6) ax E1 mixed (by kernel_rfl) (av.nil _ _) (fun x=>au.nil) (fun x=>(by kernel_rfl)) fun x Q=>(by kernel_rfl)
def Vb:List (Nat×Ev.Spec):=(6,ak Jb)::Qa
theorem HY:ae Tryz.prog Vb:=ae.add (fn:=Tryz.f6) (by kernel_rfl) ads E1
end Go.Proofs.YtfgdjlhilladhaaGreat
