/- The library's SortFunc on edges: the kit's contract, laid by its tools. -/
import Derived.Test.YtojielnkfeoccaaGreatEvZ
import Derived.Test.YtojielnkfeoccaaGreatQa
import Derived.Test.YtojielnkfeoccaaGreatMa
noncomputable section
set_option linter.unusedSectionVars false
set_option linter.unusedVariables false
set_option linter.unusedSimpArgs false
namespace Go.Proofs
open Go.Shelf
def Tryz.Wk:Go.Shelf.Ren:=⟨fun|6=>49|15=>76|14=>75|28=>101|29=>102|20=>93|21=>94|22=>95|23=>96|24=>97|25=>98|26=>99|27=>100|46=>113|47=>114|48=>115|49=>116|50=>117|57=>123|n=>n,fun|22=>73|24=>78|25=>121|3=>3|39=>133|0=>0|53=>162|55=>165|4=>4|46=>175|45=>174|50=>124|5=>5|9=>9|66=>196|70=>200|76=>204|77=>158|n=>n,fun|n=>n⟩
theorem Tryz.lsf:Go.Proofs.SlLaysF0.n6 Tryz.prog Tryz.Wk:= {
 mixed:=by kernel_rfl
 f6:=⟨Tryz.f49.name,by decide,Tryz.func49.trans (congrArg some (by kernel_rfl))⟩
 f14:=⟨Tryz.f75.name,by decide,Tryz.func75.trans (congrArg some (by kernel_rfl))⟩
 f15:=Tryz.func76.trans (congrArg some (by kernel_rfl))
 f20:=⟨Tryz.f93.name,by decide,Tryz.func93.trans (congrArg some (by kernel_rfl))⟩
 f21:=⟨Tryz.f94.name,by decide,Tryz.func94.trans (congrArg some (by kernel_rfl))⟩
 f22:=⟨Tryz.f95.name,by decide,Tryz.func95.trans (congrArg some (by kernel_rfl))⟩
 f23:=⟨Tryz.f96.name,by decide,Tryz.func96.trans (congrArg some (by kernel_rfl))⟩
 f24:=⟨Tryz.f97.name,by decide,Tryz.func97.trans (congrArg some (by kernel_rfl))⟩
 f25:=⟨Tryz.f98.name,by decide,Tryz.func98.trans (congrArg some (by kernel_rfl))⟩
 f26:=⟨Tryz.f99.name,by decide,Tryz.func99.trans (congrArg some (by kernel_rfl))⟩
 f27:=⟨Tryz.f100.name,by decide,Tryz.func100.trans (congrArg some (by kernel_rfl))⟩
 f28:=Tryz.func101.trans (congrArg some (by kernel_rfl))
 f29:=Tryz.func102.trans (congrArg some (by kernel_rfl))
 f46:=⟨Tryz.f113.name,by decide,Tryz.func113.trans (congrArg some (by kernel_rfl))⟩
 f47:=Tryz.func114.trans (congrArg some (by kernel_rfl))
 f48:=Tryz.func115.trans (congrArg some (by kernel_rfl))
 f49:=⟨Tryz.f116.name,by decide,Tryz.func116.trans (congrArg some (by kernel_rfl))⟩
 f50:=⟨Tryz.f117.name,by decide,Tryz.func117.trans (congrArg some (by kernel_rfl))⟩
 f57:=⟨Tryz.f123.name,by decide,Tryz.func123.trans (congrArg some (by kernel_rfl))⟩
 t0:=Tryz.underlying0
 a0:=Tryz.isAgg0
 z0:=Tryz.sizeOf0
 v0:=Tryz.zeroValue0
 t3:=Tryz.underlying3
 a3:=Tryz.isAgg3
 z3:=Tryz.sizeOf3
 v3:=Tryz.zeroValue3
 t4:=Tryz.underlying4
 a4:=Tryz.isAgg4
 z4:=Tryz.sizeOf4
 v4:=Tryz.zeroValue4
 t5:=Tryz.underlying5
 a5:=Tryz.isAgg5
 z5:=Tryz.sizeOf5
 v5:=Tryz.zeroValue5
 t9:=Tryz.underlying9
 a9:=Tryz.isAgg9
 z9:=Tryz.sizeOf9
 v9:=Tryz.zeroValue9
 t22:=Tryz.underlying73
 a22:=Tryz.isAgg73
 z22:=Tryz.sizeOf73
 v22:=Tryz.zeroValue73
 t25:=Tryz.underlying121
 a25:=Tryz.isAgg121
 z25:=Tryz.sizeOf121
 v25:=Tryz.zeroValue121
 t39:=Tryz.underlying133
 a39:=Tryz.isAgg133
 z39:=Tryz.sizeOf133
 v39:=Tryz.zeroValue133
 t45:=Tryz.underlying174
 a45:=Tryz.isAgg174
 z45:=Tryz.sizeOf174
 v45:=Tryz.zeroValue174
 t46:=Tryz.underlying175
 a46:=Tryz.isAgg175
 z46:=Tryz.sizeOf175
 v46:=Tryz.zeroValue175
 t50:=Tryz.underlying124
 a50:=Tryz.isAgg124
 z50:=Tryz.sizeOf124
 v50:=Tryz.zeroValue124
 t53:=Tryz.underlying162
 a53:=Tryz.isAgg162
 z53:=Tryz.sizeOf162
 v53:=Tryz.zeroValue162
 t55:=Tryz.underlying165
 a55:=Tryz.isAgg165
 z55:=Tryz.sizeOf165
 v55:=Tryz.zeroValue165
 t66:=Tryz.underlying196
 a66:=Tryz.isAgg196
 z66:=Tryz.sizeOf196
 v66:=Tryz.zeroValue196
 t70:=Tryz.underlying200
 a70:=Tryz.isAgg200
 z70:=Tryz.sizeOf200
 v70:=Tryz.zeroValue200
 t76:=Tryz.underlying204
 a76:=Tryz.isAgg204
 z76:=Tryz.sizeOf204
 v76:=Tryz.zeroValue204
 t77:=Tryz.underlying158
 a77:=Tryz.isAgg158
 z77:=Tryz.sizeOf158
 v77:=Tryz.zeroValue158}
end Go.Proofs
namespace Go.Proofs.YtojielnkfeoccaaGreat
open Go Go.Ev Go.Proofs
theorem E8 (a b:Int):compare (a,b)=if a<b then-1 else if a>b then 1 else 0:=by
 have h: ∀z:Int,FB z=false:=fun z=>by unfold FB;simp
 unfold compare
 dsimp only [au]
 rw [h,h]
 simp
theorem RX (a b:Int):Hr [a,b]/\ cor [a,b]=if a≠0 then a else b:=by
 have key:TR (rQ [a,b]) (qh [a,b]) 0 (fun r=>Sum.elim (fun a=>a) (fun _=>(0:Int)) r=if a≠0 then a else b):=by
  have p: ∀i:Int,(i=0\/ i=1\/ i=2)->qh [a,b] i:=fun i h=>by
   unfold qh
   intro hi
   rcases h with rfl|rfl|rfl
   ·exact ⟨⟨by decide,hi⟩,Nat.zero_lt_succ _,Nat.zero_lt_succ _⟩
   ·exact ⟨⟨by decide,hi⟩,Nat.lt_succ_self _,Nat.lt_succ_self _⟩
   ·exact absurd hi (by decide: ¬((2:Int)<2))
  by_cases ha:a=0
  ·subst ha
   refine TR.go (s':=1) (p 0 (.inl rfl)) rfl ?_
   by_cases hb:b=0
   ·subst hb
    refine TR.go (s':=2) (p 1 (.inr (.inl rfl))) rfl ?_
    exact TR.stop (p 2 (.inr (.inr rfl))) (r:= .inr ()) rfl rfl
   ·refine TR.stop (p 1 (.inr (.inl rfl))) (r:= .inl b) ?_ rfl
    show (if ((b !=0)=true) then _ else _)=_
    rw [if_pos (by simp [hb])];rfl
  ·refine TR.stop (p 0 (.inl rfl)) (r:= .inl a) ?_ ?_
   ·show (if ((a !=0)=true) then _ else _)=_
    rw [if_pos (by simp [ha])];rfl
   ·rw [if_pos ha];rfl
 exact ⟨key.1,key.2⟩
theorem Js (x y:cA):CI (x,y)/\ decide (VK (x,y)<0)=FG x y:=by
 obtain ⟨h1,h2⟩:=RX (compare (x.1,y.1)) (compare (x.2.1,y.2.1))
 refine ⟨h1,?_⟩
 show decide (cor [compare (x.1,y.1),compare (x.2.1,y.2.1)]<0)=_
 rw [h2,E8,E8,Bool.eq_iff_iff,BZ,decide_eq_true_iff]
 repeat (first|omega|split)
theorem VL (a b:cA) (Q:Rec->Prop):aq Hw cT [.v (.agg [.raw (.int .i64 a.1),.raw (.int .i64 a.2.1),.full 0]),.v (.agg [.raw (.int .i64 b.1),.raw (.int .i64 b.2.1),.full 1])] (hp2 a.2.2 b.2.2) 2 Q=
  (CI (a,b)/\ ∀y,y=VK (a,b)->Q {val:=eu .i64 y,fresh:= [],aB:= [0,1]}):=by kernel_rfl
theorem X7:XS Tryz.prog 50 (fun a b=>VK (a,b)):=fun a b=>⟨_,NT,by
 rw [VL]
 exact ⟨(Js a b).1,fun y hy=>by rw [hy]⟩⟩
theorem Si:ak Tryz.prog 49 (Iz 50):=
 Q9 Tryz.lsf (fun w=>Tryz.isAgg78 w) (fun w=>Tryz.sizeOf78 w) (Enters.of (fn:=Tryz.f50) (by kernel_rfl) (by kernel_rfl) (by kernel_rfl)) X7 fun x y=>(Js x y).2
end Go.Proofs.YtojielnkfeoccaaGreat
