/- The library's sort, compact and delete: contracts of the kit's, laid by its tools. -/
import Derived.Shelf.Sort.Plain
import Derived.Shelf.Slices.CompactI
import Derived.Shelf.Slices.Delete
import Derived.Shelf.Slices.Empties
import Derived.Shelf.Slices.In.SortNone
import Derived.Test.YtpbbnoggkbfkoaaEvY
import Derived.Test.YtpbbnoggkbfkoaaTt
import Derived.Test.YtpbbnoggkbfkoaaEa
noncomputable section
set_option linter.unusedSectionVars false
set_option linter.unusedVariables false
set_option linter.unusedSimpArgs false
namespace Go.Proofs
open Go.Shelf
def Try.lays189_ren : Go.Shelf.Ren := ⟨fun | 189 => 83 | 125 => 89 | 257 => 88 | 128 => 100 | 129 => 101 | 294 => 91 | 295 => 92 | 296 => 93 | 297 => 94 | 298 => 95 | 299 => 96 | 216 => 97 | 300 => 98 | 301 => 99 | 328 => 102 | 329 => 103 | 330 => 104 | 331 => 105 | 332 => 106 | 215 => 81 | 343 => 107 | n => n,fun | 28 => 27 | 3 => 3 | 46 => 149 | 0 => 0 | 51 => 161 | 53 => 163 | 4 => 4 | 183 => 153 | 182 => 152 | 131 => 158 | 5 => 5 | 9 => 9 | 218 => 164 | 222 => 168 | 228 => 170 | 229 => 65 | n => n,fun | n => n⟩
theorem Try.lays189 : Go.Proofs.Lays.n189 Try.prog Try.lays189_ren := {
 mixed := by kernel_rfl
 f125 := Try.func89.trans (congrArg some (by kernel_rfl))
 f128 := Try.func100.trans (congrArg some (by kernel_rfl))
 f129 := Try.func101.trans (congrArg some (by kernel_rfl))
 f189 := Try.func83.trans (congrArg some (by kernel_rfl))
 f215 := Try.func81.trans (congrArg some (by kernel_rfl))
 f216 := Try.func97.trans (congrArg some (by kernel_rfl))
 f257 := Try.func88.trans (congrArg some (by kernel_rfl))
 f294 := Try.func91.trans (congrArg some (by kernel_rfl))
 f295 := Try.func92.trans (congrArg some (by kernel_rfl))
 f296 := Try.func93.trans (congrArg some (by kernel_rfl))
 f297 := Try.func94.trans (congrArg some (by kernel_rfl))
 f298 := Try.func95.trans (congrArg some (by kernel_rfl))
 f299 := Try.func96.trans (congrArg some (by kernel_rfl))
 f300 := Try.func98.trans (congrArg some (by kernel_rfl))
 f301 := Try.func99.trans (congrArg some (by kernel_rfl))
 f328 := Try.func102.trans (congrArg some (by kernel_rfl))
 f329 := Try.func103.trans (congrArg some (by kernel_rfl))
 f330 := Try.func104.trans (congrArg some (by kernel_rfl))
 f331 := Try.func105.trans (congrArg some (by kernel_rfl))
 f332 := Try.func106.trans (congrArg some (by kernel_rfl))
 f343 := Try.func107.trans (congrArg some (by kernel_rfl))
 t0 := Try.underlying0
 a0 := Try.isAgg0
 z0 := Try.sizeOf0
 v0 := Try.zeroValue0
 t3 := Try.underlying3
 a3 := Try.isAgg3
 z3 := Try.sizeOf3
 v3 := Try.zeroValue3
 t4 := Try.underlying4
 a4 := Try.isAgg4
 z4 := Try.sizeOf4
 v4 := Try.zeroValue4
 t5 := Try.underlying5
 a5 := Try.isAgg5
 z5 := Try.sizeOf5
 v5 := Try.zeroValue5
 t9 := Try.underlying9
 a9 := Try.isAgg9
 z9 := Try.sizeOf9
 v9 := Try.zeroValue9
 t28 := Try.underlying27
 a28 := Try.isAgg27
 z28 := Try.sizeOf27
 v28 := Try.zeroValue27
 t46 := Try.underlying149
 a46 := Try.isAgg149
 z46 := Try.sizeOf149
 v46 := Try.zeroValue149
 t51 := Try.underlying161
 a51 := Try.isAgg161
 z51 := Try.sizeOf161
 v51 := Try.zeroValue161
 t53 := Try.underlying163
 a53 := Try.isAgg163
 z53 := Try.sizeOf163
 v53 := Try.zeroValue163
 t131 := Try.underlying158
 a131 := Try.isAgg158
 z131 := Try.sizeOf158
 v131 := Try.zeroValue158
 t182 := Try.underlying152
 a182 := Try.isAgg152
 z182 := Try.sizeOf152
 v182 := Try.zeroValue152
 t183 := Try.underlying153
 a183 := Try.isAgg153
 z183 := Try.sizeOf153
 v183 := Try.zeroValue153
 t218 := Try.underlying164
 a218 := Try.isAgg164
 z218 := Try.sizeOf164
 v218 := Try.zeroValue164
 t222 := Try.underlying168
 a222 := Try.isAgg168
 z222 := Try.sizeOf168
 v222 := Try.zeroValue168
 t228 := Try.underlying170
 a228 := Try.isAgg170
 z228 := Try.sizeOf170
 v228 := Try.zeroValue170
 t229 := Try.underlying65
 a229 := Try.isAgg65
 z229 := Try.sizeOf65
 v229 := Try.zeroValue65 }
open Go.Sort Go.RowKit in
theorem Try.slices_Sort_int (blk off cap:Nat) (zs : List Int) (w : World) (hH : Holds (Value.int .i64) w blk off zs.toArray) (hblk : blk < w.heap.size) (hsz : zs.length < 4611686018427387904) :
  Calls Try.prog 83 #[.slice (some ⟨blk,off,none⟩) zs.length cap] w fun e w' =>
   e = .returned (.tuple #[]) ∧ ∃ n os,w' = grow (putRow (Value.int .i64) (Sort.ahead w n) blk off (zs.mergeSort fun x y => decide (x ≤ y)).toArray) os := Any.slices_Sort_int Try.lays189 blk off cap zs w hH hblk hsz
def Try.laysNm220_ren : Go.Shelf.Ren := ⟨fun | 20 => 84 | n => n,fun | 22 => 27 | 3 => 3 | 4 => 4 | 0 => 0 | n => n,fun | n => n⟩
theorem Try.laysNm220 : Go.Proofs.Lays2.n20 Try.prog Try.laysNm220_ren := {
 mixed := by kernel_rfl
 f20 := Try.func84.trans (congrArg some (by kernel_rfl))
 t0 := Try.underlying0
 a0 := Try.isAgg0
 z0 := Try.sizeOf0
 v0 := Try.zeroValue0
 t3 := Try.underlying3
 a3 := Try.isAgg3
 z3 := Try.sizeOf3
 v3 := Try.zeroValue3
 t4 := Try.underlying4
 a4 := Try.isAgg4
 z4 := Try.sizeOf4
 v4 := Try.zeroValue4
 t22 := Try.underlying27
 a22 := Try.isAgg27
 z22 := Try.sizeOf27
 v22 := Try.zeroValue27
 i3 := by kernel_rfl }
open Go.RowKit Go.Lib Go.Sort in
theorem Try.slices_Compact_int (blk off cap:Nat) (zs : List Int) (w : World) (hH : Holds (Value.int .i64) w blk off zs.toArray) (hsz : zs.length ≤ 9223372036854775807) (hcap : zs.length ≤ cap) :
  Calls Try.prog 84 #[.slice (some ⟨blk,off,none⟩) zs.length cap] w fun e w' => e = .returned (.slice (some ⟨blk,off,none⟩) (Lib.compact zs).length cap) ∧ ∃ q,w' = putRow (Value.int .i64) (Sort.ahead w q) blk off (Lib.compact zs ++ List.replicate (zs.length - (Lib.compact zs).length) 0).toArray := Any.slices_Compact_int Try.laysNm220 blk off cap zs w hH hsz hcap
open Go.RowKit Go.Lib Go.Sort in
theorem Try.slices_Compact_int_empty (a : Option Addr) (cap:Nat) (w : World) :
  Calls Try.prog 84 #[.slice a 0 cap] w fun e w' => e = .returned (.slice a 0 cap) ∧ w' = w := Any.slices_Compact_int_empty Try.laysNm220 a cap w
def Try.laysNm223_ren : Go.Shelf.Ren := ⟨fun | 23 => 41 | n => n,fun | 22 => 27 | 3 => 3 | 4 => 4 | 0 => 0 | n => n,fun | n => n⟩
theorem Try.laysNm223 : Go.Proofs.Lays2.n23 Try.prog Try.laysNm223_ren := {
 mixed := by kernel_rfl
 f23 := Try.func41.trans (congrArg some (by kernel_rfl))
 t0 := Try.underlying0
 a0 := Try.isAgg0
 z0 := Try.sizeOf0
 v0 := Try.zeroValue0
 t3 := Try.underlying3
 a3 := Try.isAgg3
 z3 := Try.sizeOf3
 v3 := Try.zeroValue3
 t4 := Try.underlying4
 a4 := Try.isAgg4
 z4 := Try.sizeOf4
 v4 := Try.zeroValue4
 t22 := Try.underlying27
 a22 := Try.isAgg27
 z22 := Try.sizeOf27
 v22 := Try.zeroValue27
 i3 := by kernel_rfl }
open Go.RowKit Go.Lib Go.Sort in
theorem Try.slices_Delete_int (blk off cap i j:Nat) (zs : List Int) (w : World) (hH : Holds (Value.int .i64) w blk off zs.toArray) (hcap : zs.length ≤ cap) (hm : cap ≤ 9223372036854775807) (hij : i ≤ j) (hj : j ≤ zs.length) :
  Calls Try.prog 41 #[.slice (some ⟨blk,off,none⟩) zs.length cap,.int .i64 i,.int .i64 j] w fun e w' => e = .returned (.slice (some ⟨blk,off,none⟩) (zs.length - (j - i)) cap) ∧ ∃ q,w' = putRow (Value.int .i64) (Sort.ahead w q) blk off (zs.take i ++ zs.drop j ++ List.replicate (j - i) 0).toArray := Any.slices_Delete_int Try.laysNm223 blk off cap i j zs w hH hcap hm hij hj
open Go.RowKit Go.Lib in
theorem Try.slices_Delete_int_empty (a : Option Addr) (c:Nat) (w : World) :
  Calls Try.prog 41 #[.slice a 0 c,.int .i64 0,.int .i64 0] w fun e w' => e = .returned (.slice a 0 c) ∧ w' = w := Any.slices_Delete_int_empty Try.laysNm223 a c w
namespace Ytpbbnoggkbfkoaa
open Go Go.Ev Go.Proofs
theorem slsort_ok : SpecOk Try.prog 83 sortSpec := sortSpec_ok Try.slices_Sort_int fun p cap w => Any.slices_Sort_int_none Try.lays189 p cap w
theorem slcomp_ok : SpecOk Try.prog 84 compSpec := compSpec_ok Try.slices_Compact_int Try.slices_Compact_int_empty
theorem sldel_ok : SpecOk Try.prog 41 delSpec := delSpec_ok Try.slices_Delete_int Try.slices_Delete_int_empty
end Ytpbbnoggkbfkoaa
end Go.Proofs

namespace Go.Proofs.Ytpbbnoggkbfkoaa
open Go Go.Ev Go.Proofs
def sp_slsort : List (Nat × Ev.Spec) := (83,sortSpec) :: sp_etable
theorem sp_slsort_ok : SpecsOk Try.prog sp_slsort := SpecsOk.add (fn := Try.f83) (by kernel_rfl) slsort_ok sp_etable_ok
def sp_slcomp : List (Nat × Ev.Spec) := (84,compSpec) :: sp_slsort
theorem sp_slcomp_ok : SpecsOk Try.prog sp_slcomp := SpecsOk.add (fn := Try.f84) (by kernel_rfl) slcomp_ok sp_slsort_ok
def enear_l2_7 (x : ((List (I2 × (List Int))) × (((List I3) × ((List I2) × ((List I3) × (List I9)))) × Int))) : LoopD := ⟨[.env],⟨pvs 44 0 [(0,.v (.one (.mp 0))),(2,.v (.one (.i .i64))),(7,.v (.one (.full 7))),(17,.v (.one (.full 8))),(18,.v (.one (.i .i64))),(19,.v (.one (.i .i64))),(25,.v (.one (.full 9))),(26,.v (.one (.i .i64))),(27,.v (.one (.i .i64)))],[.grp Bool.true yy2 yi 1,.set 0,.row yy3 0,.row yy2 0,.row yy3 0,.row yy9 0,.pin 6,.row yi 2,.row yy2 2,.gv 0 1 yy2 yi],7,none,[10],[0,5,6,7,8,9],[11,12,1,2,13,14,3,4],[(.l yi),(.l yy2),.i,.i,(.tv yy2),(.l yi),.i,.i],[.i x.2.2,.l (.prod yy2 (.sl yi)) x.1,.l yy3 x.2.1.1,.l yy2 x.2.1.2.1,.l yy3 x.2.1.2.2.1,.l yy9 x.2.1.2.2.2]⟩,[⟨(.exit 2),.normal,⟨pvs 44 0 [(0,.v (.one (.mp 0))),(2,.v (.one (.i .i64))),(7,.v (.one (.full 7))),(17,.v (.one (.full 8))),(18,.v (.one (.i .i64))),(19,.v (.one (.i .i64)))],[.grp Bool.true yy2 yi 1,.set 0,.row yy3 0,.row yy2 0,.row yy3 0,.row yy9 0,.pin 6,.row yi 2,.row yy2 2],7,none,[8],[0,3,4,5,6,7],[9,10,1,2],[(.l yi),(.l yy2),.i,.i],[.i x.2.2,.l (.prod yy2 (.sl yi)) x.1,.l yy3 x.2.1.1,.l yy2 x.2.1.2.1,.l yy3 x.2.1.2.2.1,.l yy9 x.2.1.2.2.2]⟩⟩]⟩
def enear_l2_7_step (x : ((List (I2 × (List Int))) × (((List I3) × ((List I2) × ((List I3) × (List I9)))) × Int))) (s : ((List Int) × ((List I2) × (Int × (Int × (I2 × ((List Int) × I2))))))) : ((List Int) × ((List I2) × (Int × (Int × (I2 × ((List Int) × I2)))))) ⊕ ((List Int) × ((List I2) × I2)) :=
 (if (s.2.2.2.2.2.2.2 < s.2.2.2.2.2.2.1) then
 (if (((List.getD s.2.2.2.2.2.1 (Int.toNat s.2.2.2.2.2.2.2) (0:Int)) != x.2.2) = true) then
 (Sum.inl ((s.1 ++ [(List.getD s.2.2.2.2.2.1 (Int.toNat s.2.2.2.2.2.2.2) (0:Int))]),(s.2.1,(s.2.2.1,(s.2.2.2.1,(s.2.2.2.2.1,(s.2.2.2.2.2.1,(s.2.2.2.2.2.2.1,(w64 (s.2.2.2.2.2.2.2 + (1:Int))))))))))) else
 (Sum.inl (s.1,(s.2.1,(s.2.2.1,(s.2.2.2.1,(s.2.2.2.2.1,(s.2.2.2.2.2.1,(s.2.2.2.2.2.2.1,(w64 (s.2.2.2.2.2.2.2 + (1:Int)))))))))))) else
 (Sum.inr ((s.1,(s.2.1,(s.2.2.1,s.2.2.2.1))))))
def enear_l2_7_pre (x : ((List (I2 × (List Int))) × (((List I3) × ((List I2) × ((List I3) × (List I9)))) × Int))) (s : ((List Int) × ((List I2) × (Int × (Int × (I2 × ((List Int) × I2))))))) : Prop :=
 ((s.2.2.2.2.2.2.2 < s.2.2.2.2.2.2.1) →
 ((((0:Int) ≤ s.2.2.2.2.2.2.2) ∧ (s.2.2.2.2.2.2.2 < (s.2.2.2.2.2.1.length:Int))) ∧
 (((Int.toNat s.2.2.2.2.2.2.2) < (List.length s.2.2.2.2.2.1)) ∧
 (((Int.toNat s.2.2.2.2.2.2.2) < (List.length s.2.2.2.2.2.1)) ∧
 ((((List.getD s.2.2.2.2.2.1 (Int.toNat s.2.2.2.2.2.2.2) (0:Int)) != x.2.2) = true) →
 (((List.length s.1) + 1) < 1099511627776))))))
def enear_l2_7_t (x : ((List (I2 × (List Int))) × (((List I3) × ((List I2) × ((List I3) × (List I9)))) × Int))) (s : ((List Int) × ((List I2) × (Int × (Int × (I2 × ((List Int) × I2))))))) : Tr (((List Int) × ((List I2) × (Int × (Int × (I2 × ((List Int) × I2)))))) ⊕ ((List Int) × ((List I2) × I2))) true :=
 (.i10 (s.2.2.2.2.2.2.2 < s.2.2.2.2.2.2.1)
 (.oI2 s.2.2.2.2.2.2.2 s.2.2.2.2.2.1
 (.b10 ((gI s.2.2.2.2.2.1 s.2.2.2.2.2.2.2) != x.2.2)
 (.od (((List.length s.1) + 1) < 1099511627776)
 (.ret (.inl ((s.1 ++ [(gI s.2.2.2.2.2.1 s.2.2.2.2.2.2.2)]),(s.2.1,(s.2.2.1,(s.2.2.2.1,(s.2.2.2.2.1,(s.2.2.2.2.2.1,(s.2.2.2.2.2.2.1,(w1 s.2.2.2.2.2.2.2)))))))))))
 (.ret (.inl (s.1,(s.2.1,(s.2.2.1,(s.2.2.2.1,(s.2.2.2.2.1,(s.2.2.2.2.2.1,(s.2.2.2.2.2.2.1,(w1 s.2.2.2.2.2.2.2))))))))))))
 (.ret (.inr ((s.1,(s.2.1,(s.2.2.1,s.2.2.2.1)))))))
def enear_l0_7 (x : ((List (I2 × (List Int))) × (((List I3) × ((List I2) × ((List I3) × (List I9)))) × Int))) : LoopD := ⟨[.env],⟨pvs 44 0 [(0,.v (.one (.mp 0))),(2,.v (.one (.i .i64))),(7,.v (.one (.full 7))),(17,.v (.one (.full 8))),(18,.v (.one (.i .i64))),(19,.v (.one (.i .i64)))],[.grp Bool.true yy2 yi 1,.set 0,.row yy3 0,.row yy2 0,.row yy3 0,.row yy9 0,.pin 6,.row yi 2,.row yy2 2],7,none,[8],[0,3,4,5,6,7],[9,10,1,2],[(.l yi),(.l yy2),.i,.i],[.i x.2.2,.l (.prod yy2 (.sl yi)) x.1,.l yy3 x.2.1.1,.l yy2 x.2.1.2.1,.l yy3 x.2.1.2.2.1,.l yy9 x.2.1.2.2.2]⟩,[⟨(.exit 0),.normal,⟨pvs 44 0 [(7,.v (.one (.full 7)))],[.grp Bool.true yy2 yi 1,.set 0,.row yy3 0,.row yy2 0,.row yy3 0,.row yy9 0,.pin 6,.row yi 2],7,none,[5],[0,1,2,3,4],[6],[(.l yi)],[.l (.prod yy2 (.sl yi)) x.1,.l yy3 x.2.1.1,.l yy2 x.2.1.2.1,.l yy3 x.2.1.2.2.1,.l yy9 x.2.1.2.2.2]⟩⟩]⟩
def enear_l0_7_step (x : ((List (I2 × (List Int))) × (((List I3) × ((List I2) × ((List I3) × (List I9)))) × Int))) (s : ((List Int) × ((List I2) × I2))) : ((List Int) × ((List I2) × I2)) ⊕ (List Int) :=
 (if (s.2.2.2 < s.2.2.1) then
 (letV (lookD (k := yy2) x.1 (List.getD s.2.1 (Int.toNat s.2.2.2) ((0:Int),(0:Int))) []) fun y =>
 (letV (run (enear_l2_7_step x) (s.1,(s.2.1,(s.2.2.1,(s.2.2.2,((List.getD s.2.1 (Int.toNat s.2.2.2) ((0:Int),(0:Int))),(y,((y.length:Int),(0:Int))))))))) fun r =>
 (Sum.inl (r.1,(r.2.1,(r.2.2.1,(w64 (r.2.2.2 + (1:Int))))))))) else
 (Sum.inr (s.1)))
def enear_l0_7_pre (x : ((List (I2 × (List Int))) × (((List I3) × ((List I2) × ((List I3) × (List I9)))) × Int))) (s : ((List Int) × ((List I2) × I2))) : Prop :=
 ((s.2.2.2 < s.2.2.1) →
 ((((0:Int) ≤ s.2.2.2) ∧ (s.2.2.2 < (s.2.1.length:Int))) ∧
 (((Int.toNat s.2.2.2) < (List.length s.2.1)) ∧
 (((Int.toNat s.2.2.2) < (List.length s.2.1)) ∧
 (letP (lookD (k := yy2) x.1 (List.getD s.2.1 (Int.toNat s.2.2.2) ((0:Int),(0:Int))) []) fun y =>
 (Term (enear_l2_7_step x) (enear_l2_7_pre x) (s.1,(s.2.1,(s.2.2.1,(s.2.2.2,((List.getD s.2.1 (Int.toNat s.2.2.2) ((0:Int),(0:Int))),(y,((y.length:Int),(0:Int))))))))))))))
def enear_l0_7_t (x : ((List (I2 × (List Int))) × (((List I3) × ((List I2) × ((List I3) × (List I9)))) × Int))) (s : ((List Int) × ((List I2) × I2))) : Tr (((List Int) × ((List I2) × I2)) ⊕ (List Int)) true :=
 (.i10 (s.2.2.2 < s.2.2.1)
 (.oI2 s.2.2.2 s.2.1
 (.fact (KeyE tt 143 yy2) key_143
 (.lt (lookD (k := yy2) x.1 (gT s.2.1 s.2.2.2 zz2) []) fun y =>
 (LoopD.lp (enear_l2_7 x) (enear_l2_7_t x) (s.1,(s.2.1,(s.2.2.1,(s.2.2.2,((gT s.2.1 s.2.2.2 zz2),(y,((nL y),z0))))))) fun r =>
 (.ret (.inl (r.1,(r.2.1,(r.2.2.1,(w1 r.2.2.2))))))))))
 (.ret (.inr (s.1))))
def enear (x : ((List (I2 × (List Int))) × (((List I3) × ((List I2) × ((List I3) × (List I9)))) × Int))) : ((List Int) × (List (I2 × (List Int)))) :=
 (letV (epairs (List.getD x.2.1.2.2.2 (Int.toNat x.2.2) (((0:Int),((0:Int),(0:Int))),(((0:Int),((0:Int),(0:Int))),((0:Int),((0:Int),(0:Int))))))) fun y =>
 (letV (run (enear_l0_7_step x) ([],(y,((y.length:Int),(0:Int))))) fun r =>
 (letV (sortZ r) fun y_1 =>
 (letV (compZ y_1) fun y_2 =>
 (y_2,x.1)))))
def enear_pre (x : ((List (I2 × (List Int))) × (((List I3) × ((List I2) × ((List I3) × (List I9)))) × Int))) : Prop :=
 ((((0:Int) ≤ x.2.2) ∧ (x.2.2 < (x.2.1.2.2.2.length:Int))) ∧
 (((Int.toNat x.2.2) < (List.length x.2.1.2.2.2)) ∧
 (((Int.toNat x.2.2) < (List.length x.2.1.2.2.2)) ∧
 ((epairs_pre (List.getD x.2.1.2.2.2 (Int.toNat x.2.2) (((0:Int),((0:Int),(0:Int))),(((0:Int),((0:Int),(0:Int))),((0:Int),((0:Int),(0:Int))))))) ∧
 letP (epairs (List.getD x.2.1.2.2.2 (Int.toNat x.2.2) (((0:Int),((0:Int),(0:Int))),(((0:Int),((0:Int),(0:Int))),((0:Int),((0:Int),(0:Int))))))) fun y =>
 (Term (enear_l0_7_step x) (enear_l0_7_pre x) ([],(y,((y.length:Int),(0:Int)))) ∧
 letP (run (enear_l0_7_step x) ([],(y,((y.length:Int),(0:Int))))) fun r =>
 (((List.length r) < 1099511627776) ∧
 (letP (sortZ r) fun y_1 =>
 ((List.length y_1) < 1099511627776))))))))
def enear_t (x : ((List (I2 × (List Int))) × (((List I3) × ((List I2) × ((List I3) × (List I9)))) × Int))) : Tr ((List Int) × (List (I2 × (List Int)))) true :=
 (.oI2 x.2.2 x.2.1.2.2.2
 (.fn epairs_S (gT x.2.1.2.2.2 x.2.2 zz9) fun y =>
 (LoopD.lp (enear_l0_7 x) (enear_l0_7_t x) ([],(y,((nL y),z0))) fun r =>
 (.od ((List.length r) < 1099511627776)
 (.lt (sortZ r) fun y_1 =>
 (.od ((List.length y_1) < 1099511627776)
 (.lt (compZ y_1) fun y_2 =>
 (.pn 0 6
 (.ret (y_2,x.1))))))))))
abbrev enear_S : FnL := ⟨(LPar.mk true yy2 yi (.pair (.agg (Ty.prod (Ty.sl yy3) (Ty.prod (Ty.sl yy2) (Ty.prod (Ty.sl yy3) (Ty.sl yy9))))) (.one yi))),(.one (Ty.sl yi)),enear_pre,enear⟩
theorem enear_ok : SpecOk Try.prog 69 (fnSpecL enear_S) := SpecOk.trL enear_S enear_t (fn := Try.f69) tt_ok sp_slcomp_ok mixed (by kernel_rfl) (ItsOk.nil _ _) (fun x => (LpsOk.tr tt_ok (SpecsOk.ctxI sp_slcomp_ok (ItsOk.nil _ _)) mixed 0 (enear_l0_7 x) (enear_l0_7_t x) (LpsOk.tr tt_ok (SpecsOk.ctxI sp_slcomp_ok (ItsOk.nil _ _)) mixed 2 (enear_l2_7 x) (enear_l2_7_t x) LpsOk.nil (by kernel_rfl) fun g s Q => (by kernel_rfl)) (by kernel_rfl) fun g s Q => (by kernel_rfl))) (fun x => (by kernel_rfl)) fun x r0 Q => (by kernel_rfl)
def sp_enear : List (Nat × Ev.Spec) := (69,fnSpecL enear_S) :: sp_slcomp
theorem sp_enear_ok : SpecsOk Try.prog sp_enear := SpecsOk.add (fn := Try.f69) (by kernel_rfl) enear_ok sp_slcomp_ok
def enext (x : (((List I3) × ((List I2) × ((List I3) × (List I9)))) × Int)) : ((List Int) × Int) :=
 (letV (meshis x.1) fun y =>
 (if ((!y) = true) then
 ([],(1:Int)) else
 (if (x.2 < (0:Int)) then
 ([],(1:Int)) else
 (if (x.2 ≥ (x.1.2.2.2.length:Int)) then
 ([],(1:Int)) else
 (letV (etable x.1) fun y_1 =>
 (letV (enear (y_1,x)) fun y_2 =>
 (y_2.1,(0:Int))))))))
def enext_pre (x : (((List I3) × ((List I2) × ((List I3) × (List I9)))) × Int)) : Prop :=
 ((meshis_pre x.1) ∧
 letP (meshis x.1) fun y =>
 (¬ ((!y) = true) →
 (¬ (x.2 < (0:Int)) →
 (¬ (x.2 ≥ (x.1.2.2.2.length:Int)) →
 ((etable_pre x.1) ∧
 letP (etable x.1) fun y_1 =>
 (enear_pre (y_1,x)))))))
def enext_t (x : (((List I3) × ((List I2) × ((List I3) × (List I9)))) × Int)) : Tr ((List Int) × Int) true :=
 (.fn meshis_S x.1 fun y =>
 (.b01 (!y)
 (.ret ([],z1))
 (.i01 (x.2 < z0)
 (.ret ([],z1))
 (.i01 (x.2 ≥ (nL x.1.2.2.2))
 (.ret ([],z1))
 (.fnG etable_S x.1 fun y_1 =>
 (.fnL enear_S (y_1,x) fun y_2 =>
 (.ret (y_2.1,z0))))))))
abbrev enext_S : FnS := ⟨(.pair (.agg (Ty.prod (Ty.sl yy3) (Ty.prod (Ty.sl yy2) (Ty.prod (Ty.sl yy3) (Ty.sl yy9))))) (.one yi)),(.pair (.one (Ty.sl yi)) (.one yi)),enext_pre,enext⟩
theorem enext_ok : SpecOk Try.prog 57 (fnSpec enext_S) := SpecOk.tr enext_S enext_t (fn := Try.f57) tt_ok sp_enear_ok mixed (by kernel_rfl) (ItsOk.nil _ _) (fun x => LpsOk.nil) (fun x => (by kernel_rfl)) fun x Q => (by kernel_rfl)
def sp_enext : List (Nat × Ev.Spec) := (57,fnSpec enext_S) :: sp_enear
theorem sp_enext_ok : SpecsOk Try.prog sp_enext := SpecsOk.add (fn := Try.f57) (by kernel_rfl) enext_ok sp_enear_ok
def indexI_l0 (x : ((List Int) × Int)) : LoopD := ⟨[],⟨pvs 19 0 [(0,.v (.one (.full 0))),(1,.v (.one (.i .i64))),(7,.v (.one (.i .i64))),(8,.v (.one (.i .i64)))],[.row yi 0],0,none,[],[0,1,3],[2],[.i],[.i x.2,.i (x.1.length:Int),.l yi x.1]⟩,[⟨.ret,.ret,⟨pvs 19 0 [(4,.v (.one (.i .i64)))],[],0,none,[],[],[0],[.i],[]⟩⟩,⟨(.exit 0),.normal,⟨pvs 19 0 [],[],0,none,[],[],[],[],[]⟩⟩]⟩
def indexI_l0_step (x : ((List Int) × Int)) (s:Int) : Int ⊕ (Int ⊕ Unit) :=
 (if (s < (x.1.length:Int)) then
 (if ((x.2 == (List.getD x.1 (Int.toNat s) (0:Int))) = true) then
 (Sum.inr (Sum.inl s)) else
 (Sum.inl (w64 (s + (1:Int))))) else
 (Sum.inr (Sum.inr (()))))
def indexI_l0_pre (x : ((List Int) × Int)) (s:Int) : Prop :=
 ((s < (x.1.length:Int)) →
 ((((0:Int) ≤ s) ∧ (s < (x.1.length:Int))) ∧
 (((Int.toNat s) < (List.length x.1)) ∧
 ((Int.toNat s) < (List.length x.1)))))
def indexI_l0_t (x : ((List Int) × Int)) (s:Int) : Tr (Int ⊕ (Int ⊕ Unit)) true :=
 (.i10 (s < (nL x.1))
 (.oI2 s x.1
 (.b00 (x.2 == (gI x.1 s))
 (.ret (.inr (Sum.inl s)))
 (.ret (.inl (w1 s)))))
 (.ret (.inr (Sum.inr (())))))
def indexI (x : ((List Int) × Int)) : Int :=
 (letV (run (indexI_l0_step x) (0:Int)) fun r =>
 (Sum.elim (fun a =>
 a) (fun b =>
 (-1:Int)) r))
def indexI_pre (x : ((List Int) × Int)) : Prop :=
 (Term (indexI_l0_step x) (indexI_l0_pre x) (0:Int))
def indexI_t (x : ((List Int) × Int)) : Tr Int true :=
 (LoopD.lp (indexI_l0 x) (indexI_l0_t x) z0 fun r =>
 (.s00 r (fun a =>
 (.ret a)) (fun b =>
 (.ret (-1:Int)))))
abbrev indexI_S : FnS := ⟨(.pair (.one (Ty.sl yi)) (.one yi)),(.one yi),indexI_pre,indexI⟩
theorem indexI_ok : SpecOk Try.prog 68 (fnSpec indexI_S) := SpecOk.tr indexI_S indexI_t (fn := Try.f68) tt_ok sp_enext_ok mixed (by kernel_rfl) (ItsOk.nil _ _) (fun x => (LpsOk.tr tt_ok (SpecsOk.ctxI sp_enext_ok (ItsOk.nil _ _)) mixed 0 (indexI_l0 x) (indexI_l0_t x) LpsOk.nil (by kernel_rfl) fun g s Q => (by kernel_rfl))) (fun x => (by kernel_rfl)) fun x Q => (by kernel_rfl)
def sp_indexI : List (Nat × Ev.Spec) := (68,fnSpec indexI_S) :: sp_enext
theorem sp_indexI_ok : SpecsOk Try.prog sp_indexI := SpecsOk.add (fn := Try.f68) (by kernel_rfl) indexI_ok sp_enext_ok
def containsI (x : ((List Int) × Int)) : Bool :=
 (letV (indexI x) fun y =>
 (decide (y ≥ (0:Int))))
def containsI_pre (x : ((List Int) × Int)) : Prop :=
 (indexI_pre x)
def containsI_t (x : ((List Int) × Int)) : Tr Bool true :=
 (.fn indexI_S x fun y =>
 (.ret (decide (y ≥ z0))))
abbrev containsI_S : FnS := ⟨(.pair (.one (Ty.sl yi)) (.one yi)),(.one Ty.bool),containsI_pre,containsI⟩
theorem containsI_ok : SpecOk Try.prog 54 (fnSpec containsI_S) := SpecOk.tr containsI_S containsI_t (fn := Try.f54) tt_ok sp_indexI_ok mixed (by kernel_rfl) (ItsOk.nil _ _) (fun x => LpsOk.nil) (fun x => (by kernel_rfl)) fun x Q => (by kernel_rfl)
def sp_containsI : List (Nat × Ev.Spec) := (54,fnSpec containsI_S) :: sp_indexI
theorem sp_containsI_ok : SpecsOk Try.prog sp_containsI := SpecsOk.add (fn := Try.f54) (by kernel_rfl) containsI_ok sp_indexI_ok
end Go.Proofs.Ytpbbnoggkbfkoaa
