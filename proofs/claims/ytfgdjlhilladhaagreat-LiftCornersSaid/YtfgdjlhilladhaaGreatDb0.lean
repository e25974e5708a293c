/- Models of functions of near, and that the code does what they say. -/
import Derived.Test.YtfgdjlhilladhaaGreatDa
namespace Go.Proofs.YtfgdjlhilladhaaGreat
open Go Go.Ev Go.Proofs
set_option linter.unusedVariables false
noncomputable def nend (x : (I2 × (I2 × Int))) : (I2 × I3) :=
 (letV (sub2 (x.1, x.2.1)) fun y =>
 (letV (dot (y, y)) fun y_1 =>
 (x.2.1, (x.2.2, (y_1, (1 : Int))))))
noncomputable def nend_pre (x : (I2 × (I2 × Int))) : Prop :=
 (sub2_pre (x.1, x.2.1))
noncomputable def nend_t (x : (I2 × (I2 × Int))) : Tr (I2 × I3) true :=
 (.fn sub2_S (x.1, x.2.1) fun y =>
 (.fn0 dot_S (y, y) trivial fun y_1 =>
 (.ret (x.2.1, (x.2.2, (y_1, (1 : Int)))))))
noncomputable abbrev nend_S : FnS := ⟨(.pair (.agg yy2) (.pair (.agg yy2) (.one yi))), (.agg (Ty.prod yy2 yy3)), nend_pre, nend⟩
theorem nend_ok : SpecOk Tryz.prog 101 (fnSpec nend_S) := SpecOk.tr nend_S nend_t (fn := Tryz.f101) tt_ok sp_fsizes_ok mixed (by kernel_rfl) (ItsOk.nil _ _) (fun x => LpsOk.nil) (fun x => (by kernel_rfl)) fun x Q => (by kernel_rfl)
def sp_nend : List (Nat × Ev.Spec) := (101, fnSpec nend_S) :: sp_fsizes
theorem sp_nend_ok : SpecsOk Tryz.prog sp_nend := SpecsOk.add (fn := Tryz.f101) (by kernel_rfl) nend_ok sp_fsizes_ok
noncomputable def find (x : I6) : (I2 × I3) :=
 (letV (sub2 (x.1, x.2.1)) fun y =>
 (letV (sub2 (x.2.2, x.2.1)) fun y_1 =>
 (letV (dot (y, y_1)) fun y_2 =>
 (letV (dot (y_1, y_1)) fun y_3 =>
 (if (y_2 ≤ (0 : Int)) then
 (letV (nend (x.1, (x.2.1, (0 : Int)))) fun y_4 =>
 y_4) else
 (if ((y_3 == (0 : Int)) = true) then
 (letV (nend (x.1, (x.2.1, (0 : Int)))) fun y_4 =>
 y_4) else
 (if (y_2 ≥ y_3) then
 (letV (nend (x.1, (x.2.2, (1 : Int)))) fun y_4 =>
 y_4) else
 (letV (sarea (x.2.1, (x.2.2, x.1))) fun y_4 =>
 (letV (floor ((w64 (y_1.1 * y_2)), y_3)) fun y_5 =>
 (letV (floor ((w64 (y_1.2 * y_2)), y_3)) fun y_6 =>
 (((w64 (x.2.1.1 + y_5)), (w64 (x.2.1.2 + y_6))), ((2 : Int), ((w64 (y_4.1 * y_4.1)), y_3)))))))))))))
noncomputable def find_pre (x : I6) : Prop :=
 ((sub2_pre (x.1, x.2.1)) ∧
 letP (sub2 (x.1, x.2.1)) fun y =>
 ((sub2_pre (x.2.2, x.2.1)) ∧
 letP (sub2 (x.2.2, x.2.1)) fun y_1 =>
 (letP (dot (y, y_1)) fun y_2 =>
 (letP (dot (y_1, y_1)) fun y_3 =>
 (((y_2 ≤ (0 : Int)) →
 (nend_pre (x.1, (x.2.1, (0 : Int))))) ∧
 (¬ (y_2 ≤ (0 : Int)) →
 ((((y_3 == (0 : Int)) = true) →
 (nend_pre (x.1, (x.2.1, (0 : Int))))) ∧
 (¬ ((y_3 == (0 : Int)) = true) →
 (((y_2 ≥ y_3) →
 (nend_pre (x.1, (x.2.2, (1 : Int))))) ∧
 (¬ (y_2 ≥ y_3) →
 ((sarea_pre (x.2.1, (x.2.2, x.1))) ∧
 letP (sarea (x.2.1, (x.2.2, x.1))) fun y_4 =>
 ((floor_pre ((w64 (y_1.1 * y_2)), y_3)) ∧
 letP (floor ((w64 (y_1.1 * y_2)), y_3)) fun y_5 =>
 (floor_pre ((w64 (y_1.2 * y_2)), y_3))))))))))))))
noncomputable def find_t (x : I6) : Tr (I2 × I3) true :=
 (.fn sub2_S (x.1, x.2.1) fun y =>
 (.fn sub2_S (x.2.2, x.2.1) fun y_1 =>
 (.fn0 dot_S (y, y_1) trivial fun y_2 =>
 (.fn0 dot_S (y_1, y_1) trivial fun y_3 =>
 (.i11 (y_2 ≤ (0 : Int))
 (.fn nend_S (x.1, (x.2.1, (0 : Int))) fun y_4 =>
 (.ret y_4))
 (.b11 (y_3 == (0 : Int))
 (.fn nend_S (x.1, (x.2.1, (0 : Int))) fun y_4 =>
 (.ret y_4))
 (.i11 (y_2 ≥ y_3)
 (.fn nend_S (x.1, (x.2.2, (1 : Int))) fun y_4 =>
 (.ret y_4))
 (.fn sarea_S (x.2.1, (x.2.2, x.1)) fun y_4 =>
 (.fn floor_S ((w64 (y_1.1 * y_2)), y_3) fun y_5 =>
 (.fn floor_S ((w64 (y_1.2 * y_2)), y_3) fun y_6 =>
 (.ret (((w64 (x.2.1.1 + y_5)), (w64 (x.2.1.2 + y_6))), ((2 : Int), ((w64 (y_4.1 * y_4.1)), y_3))))))))))))))
noncomputable abbrev find_S : FnS := ⟨(.pair (.agg yy2) (.pair (.agg yy2) (.agg yy2))), (.agg (Ty.prod yy2 yy3)), find_pre, find⟩
theorem find_ok : SpecOk Tryz.prog 60 (fnSpec find_S) := SpecOk.tr find_S find_t (fn := Tryz.f60) tt_ok sp_nend_ok mixed (by kernel_rfl) (ItsOk.nil _ _) (fun x => LpsOk.nil) (fun x => (by kernel_rfl)) fun x Q => (by kernel_rfl)
def sp_find : List (Nat × Ev.Spec) := (60, fnSpec find_S) :: sp_nend
theorem sp_find_ok : SpecsOk Tryz.prog sp_find := SpecsOk.add (fn := Tryz.f60) (by kernel_rfl) find_ok sp_nend_ok
noncomputable def fright (x : I2) : Bool :=
 (if (x.2 ≥ (1 : Int)) then
 (if (x.2 ≤ (1000000000000000000 : Int)) then
 (if (x.1 ≥ (-1000000000000000000 : Int)) then
 (decide (x.1 ≤ (1000000000000000000 : Int))) else
 false) else
 false) else
 false)
noncomputable def fright_pre (_ : I2) : Prop := True
noncomputable def fright_t (x : I2) : Tr Bool false :=
 (.i00 (x.2 ≥ (1 : Int))
 (.i00 (x.2 ≤ (1000000000000000000 : Int))
 (.i00 (x.1 ≥ (-1000000000000000000 : Int))
 (.ret (decide (x.1 ≤ (1000000000000000000 : Int))))
 (.ret false))
 (.ret false))
 (.ret false))
noncomputable abbrev fright_S : FnS := ⟨(.agg yy2), (.one Ty.bool), fright_pre, fright⟩
theorem fright_ok : SpecOk Tryz.prog 144 (fnSpec fright_S) := SpecOk.tr fright_S fright_t (fn := Tryz.f144) tt_ok sp_find_ok mixed (by kernel_rfl) (ItsOk.nil _ _) (fun x => LpsOk.nil) (fun x => (by kernel_rfl)) fun x Q => (by kernel_rfl)
def sp_fright : List (Nat × Ev.Spec) := (144, fnSpec fright_S) :: sp_find
theorem sp_fright_ok : SpecsOk Tryz.prog sp_fright := SpecsOk.add (fn := Tryz.f144) (by kernel_rfl) fright_ok sp_find_ok
noncomputable def fto (x : (I2 × I2)) : Int :=
 (letV (fright x.1) fun y =>
 (letV (fright x.2) fun y_1 =>
 (if (y = true) then
 (if (y_1 = true) then
 (letV (wmul (x.1.1, x.2.2)) fun y_2 =>
 (letV (wmul (x.2.1, x.1.2)) fun y_3 =>
 (letV (wcmp (y_2.1, y_3.1)) fun y_4 =>
 y_4))) else
 (if (y_1 = true) then
 (-1 : Int) else
 (if (y = true) then
 (1 : Int) else
 (letV (compare (x.1.1, x.2.1)) fun y_2 =>
 (letV (compare (x.1.2, x.2.2)) fun y_3 =>
 (letV (cor [y_2, y_3]) fun y_4 =>
 y_4)))))) else
 (if (y_1 = true) then
 (-1 : Int) else
 (if (y = true) then
 (1 : Int) else
 (letV (compare (x.1.1, x.2.1)) fun y_2 =>
 (letV (compare (x.1.2, x.2.2)) fun y_3 =>
 (letV (cor [y_2, y_3]) fun y_4 =>
 y_4))))))))
noncomputable def fto_pre (x : (I2 × I2)) : Prop :=
 (letP (fright x.1) fun y =>
 (letP (fright x.2) fun y_1 =>
 (((y = true) →
 (((y_1 = true) →
 (letP (wmul (x.1.1, x.2.2)) fun y_2 =>
 (letP (wmul (x.2.1, x.1.2)) fun y_3 =>
 (wcmp_pre (y_2.1, y_3.1))))) ∧
 (¬ (y_1 = true) →
 (¬ (y_1 = true) →
 (¬ (y = true) →
 (letP (compare (x.1.1, x.2.1)) fun y_2 =>
 (letP (compare (x.1.2, x.2.2)) fun y_3 =>
 (cor_pre [y_2, y_3])))))))) ∧
 (¬ (y = true) →
 (¬ (y_1 = true) →
 (¬ (y = true) →
 (letP (compare (x.1.1, x.2.1)) fun y_2 =>
 (letP (compare (x.1.2, x.2.2)) fun y_3 =>
 (cor_pre [y_2, y_3])))))))))
noncomputable def fto_t (x : (I2 × I2)) : Tr Int true :=
 (.fn0 fright_S x.1 trivial fun y =>
 (.fn0 fright_S x.2 trivial fun y_1 =>
 (.b11 y
 (.b11 y_1
 (.fn0 wmul_S (x.1.1, x.2.2) trivial fun y_2 =>
 (.fn0 wmul_S (x.2.1, x.1.2) trivial fun y_3 =>
 (.fn wcmp_S (y_2.1, y_3.1) fun y_4 =>
 (.ret y_4))))
 (.b01 y_1
 (.ret (-1 : Int))
 (.b01 y
 (.ret (1 : Int))
 (.fn0 compare_S (x.1.1, x.2.1) trivial fun y_2 =>
 (.fn0 compare_S (x.1.2, x.2.2) trivial fun y_3 =>
 (.fn cor_S [y_2, y_3] fun y_4 =>
 (.ret y_4)))))))
 (.b01 y_1
 (.ret (-1 : Int))
 (.b01 y
 (.ret (1 : Int))
 (.fn0 compare_S (x.1.1, x.2.1) trivial fun y_2 =>
 (.fn0 compare_S (x.1.2, x.2.2) trivial fun y_3 =>
 (.fn cor_S [y_2, y_3] fun y_4 =>
 (.ret y_4)))))))))
noncomputable abbrev fto_S : FnS := ⟨(.pair (.agg yy2) (.agg yy2)), (.one yi), fto_pre, fto⟩
theorem fto_ok : SpecOk Tryz.prog 102 (fnSpec fto_S) := SpecOk.tr fto_S fto_t (fn := Tryz.f102) tt_ok sp_fright_ok mixed (by kernel_rfl) (ItsOk.nil _ _) (fun x => LpsOk.nil) (fun x => (by kernel_rfl)) fun x Q => (by kernel_rfl)
def sp_fto : List (Nat × Ev.Spec) := (102, fnSpec fto_S) :: sp_fright
theorem sp_fto_ok : SpecsOk Tryz.prog sp_fto := SpecsOk.add (fn := Tryz.f102) (by kernel_rfl) fto_ok sp_fright_ok
noncomputable def fcmp (x : (I2 × I2)) : Int :=
 (letV (fto x) fun y =>
 y)
noncomputable def fcmp_pre (x : (I2 × I2)) : Prop :=
 (fto_pre x)
noncomputable def fcmp_t (x : (I2 × I2)) : Tr Int true :=
 (.fn fto_S x fun y =>
 (.ret y))
noncomputable abbrev fcmp_S : FnS := ⟨(.pair (.agg yy2) (.agg yy2)), (.one yi), fcmp_pre, fcmp⟩
theorem fcmp_ok : SpecOk Tryz.prog 62 (fnSpec fcmp_S) := SpecOk.tr fcmp_S fcmp_t (fn := Tryz.f62) tt_ok sp_fto_ok mixed (by kernel_rfl) (ItsOk.nil _ _) (fun x => LpsOk.nil) (fun x => (by kernel_rfl)) fun x Q => (by kernel_rfl)
def sp_fcmp : List (Nat × Ev.Spec) := (62, fnSpec fcmp_S) :: sp_fto
theorem sp_fcmp_ok : SpecsOk Tryz.prog sp_fcmp := SpecsOk.add (fn := Tryz.f62) (by kernel_rfl) fcmp_ok sp_fto_ok
noncomputable def mside (x : (I2 × (I2 × (I2 × Int)))) : Int :=
 (letV (sside (x.2.1, (x.2.2.1, x.1))) fun y =>
 (w64 (x.2.2.2 * y.1)))
noncomputable def mside_pre (x : (I2 × (I2 × (I2 × Int)))) : Prop :=
 (sside_pre (x.2.1, (x.2.2.1, x.1)))
noncomputable def mside_t (x : (I2 × (I2 × (I2 × Int)))) : Tr Int true :=
 (.fn sside_S (x.2.1, (x.2.2.1, x.1)) fun y =>
 (.ret (w64 (x.2.2.2 * y.1))))
noncomputable abbrev mside_S : FnS := ⟨(.pair (.agg yy2) (.pair (.ptr (.prod (.int .i64) (.int .i64))) (.pair (.ptr (.prod (.int .i64) (.int .i64))) (.ptr (.int .i64))))), (.one yi), mside_pre, mside⟩
theorem mside_ok : SpecOk Tryz.prog 143 (fnSpec mside_S) := SpecOk.tr mside_S mside_t (fn := Tryz.f143) tt_ok sp_fcmp_ok mixed (by kernel_rfl) (ItsOk.nil _ _) (fun x => LpsOk.nil) (fun x => (by kernel_rfl)) fun x Q => (by kernel_rfl)
def sp_mside : List (Nat × Ev.Spec) := (143, fnSpec mside_S) :: sp_fcmp
theorem sp_mside_ok : SpecsOk Tryz.prog sp_mside := SpecsOk.add (fn := Tryz.f143) (by kernel_rfl) mside_ok sp_fcmp_ok
noncomputable def mIn_i0 : ItsB Tryz.prog := ⟨_, (ItsOk.walk tt_ok sp_mside_ok mixed 98 (fn := Tryz.f98) (by kernel_rfl) (ItsOk.nil _ _) fun ys hy => LpsOk.nil)⟩
noncomputable def mIn_i1 : ItsB Tryz.prog := ⟨_, (ItsOk.walk tt_ok sp_mside_ok mixed 142 (fn := Tryz.f142) (by kernel_rfl) mIn_i0.ok fun ys hy => (LpsOk.unrollT tt_ok ⟨sp_mside_ok, hy, mIn_i0.ok⟩ mixed 0 4 LpsOk.nil (by kernel_rfl)))⟩
noncomputable def mIn (x : (I2 × I6)) : I2 :=
 (letV (small2 [x.1]) fun y =>
 (if ((!y) = true) then
 ((0 : Int), (5 : Int)) else
 (letV (mright x.2) fun y_1 =>
 (if ((!y_1) = true) then
 ((0 : Int), (1 : Int)) else
 (letV (sside x.2) fun y_2 =>
 (letV (mside (x.1, (x.2.1, (x.2.2.1, y_2.1)))) fun y_3 =>
 (letV (mside (x.1, (x.2.2.1, (x.2.2.2, y_2.1)))) fun y_4 =>
 (letV (mside (x.1, (x.2.2.2, (x.2.1, y_2.1)))) fun y_5 =>
 ((w64 ((minI (minI (minI (1 : Int) y_3) y_4) y_5) + (1 : Int))), (0 : Int))))))))))
noncomputable def mIn_pre (x : (I2 × I6)) : Prop :=
 ((small2_pre [x.1]) ∧
 letP (small2 [x.1]) fun y =>
 (¬ ((!y) = true) →
 ((mright_pre x.2) ∧
 letP (mright x.2) fun y_1 =>
 (¬ ((!y_1) = true) →
 ((sside_pre x.2) ∧
 letP (sside x.2) fun y_2 =>
 ((mside_pre (x.1, (x.2.1, (x.2.2.1, y_2.1)))) ∧
 letP (mside (x.1, (x.2.1, (x.2.2.1, y_2.1)))) fun y_3 =>
 ((mside_pre (x.1, (x.2.2.1, (x.2.2.2, y_2.1)))) ∧
 letP (mside (x.1, (x.2.2.1, (x.2.2.2, y_2.1)))) fun y_4 =>
 (mside_pre (x.1, (x.2.2.2, (x.2.1, y_2.1)))))))))))
noncomputable def mIn_t (x : (I2 × I6)) : Tr I2 true :=
 (.fn small2_S [x.1] fun y =>
 (.b01 (!y)
 (.ret ((0 : Int), (5 : Int)))
 (.fn mright_S x.2 fun y_1 =>
 (.b01 (!y_1)
 (.ret ((0 : Int), (1 : Int)))
 (.allE
 (.pn 0 4
 (.allL
 (.allE
 (.fn sside_S x.2 fun y_2 =>
 (.fx
 (.pn 2 7
 (.fL 1
 (.allE
 (.pn 3 11
 (.fL 1
 (.fn mside_S (x.1, (x.2.1, (x.2.2.1, y_2.1))) fun y_3 =>
 (.fL 1
 (.pn 3 11
 (.fx
 (.pn 2 7
 (.fL 1
 (.allE
 (.pn 4 14
 (.fL 1
 (.fn mside_S (x.1, (x.2.2.1, (x.2.2.2, y_2.1))) fun y_4 =>
 (.fL 1
 (.pn 4 14
 (.fx
 (.pn 2 7
 (.fL 1
 (.allE
 (.pn 5 17
 (.fL 1
 (.fn mside_S (x.1, (x.2.2.2, (x.2.1, y_2.1))) fun y_5 =>
 (.fL 1
 (.pn 5 17
 (.pn 2 7
 (.ret ((w64 ((minI (minI (minI (1 : Int) y_3) y_4) y_5) + (1 : Int))), (0 : Int))))))))))))))))))))))))))))))))))))))))
noncomputable abbrev mIn_S : FnS := ⟨(.pair (.agg yy2) (.agg yy6)), (.pair (.one yi) (.one yi)), mIn_pre, mIn⟩
theorem mIn_ok : SpecOk Tryz.prog 59 (fnSpec mIn_S) := SpecOk.tr mIn_S mIn_t (fn := Tryz.f59) tt_ok sp_mside_ok mixed (by kernel_rfl) mIn_i1.ok (fun x => LpsOk.nil) (fun x => (by kernel_rfl)) fun x Q => (by kernel_rfl)
def sp_mIn : List (Nat × Ev.Spec) := (59, fnSpec mIn_S) :: sp_mside
theorem sp_mIn_ok : SpecsOk Tryz.prog sp_mIn := SpecsOk.add (fn := Tryz.f59) (by kernel_rfl) mIn_ok sp_mside_ok
noncomputable def closest_i0 : ItsB Tryz.prog := ⟨_, (ItsOk.walk tt_ok sp_mIn_ok mixed 61 (fn := Tryz.f61) (by kernel_rfl) (ItsOk.nil _ _) fun ys hy => LpsOk.nil)⟩
noncomputable def closest (x : (I2 × I6)) : (I2 × (I2 × Int)) :=
 (letV (mIn x) fun y =>
 (if ((y.2 != (0 : Int)) = true) then
 (((0 : Int), (0 : Int)), (((0 : Int), (0 : Int)), y.2)) else
 (if (y.1 > (0 : Int)) then
 (x.1, (((0 : Int), (1 : Int)), (0 : Int))) else
 (letV (find (x.1, (x.2.1, x.2.2.1))) fun y_1 =>
 (letV (find (x.1, x.2.2)) fun y_2 =>
 (letV (fcmp (y_2.2.2, y_1.2.2)) fun y_3 =>
 (if (y_3 < (0 : Int)) then
 (letV (find (x.1, (x.2.2.2, x.2.1))) fun y_4 =>
 (letV (fcmp (y_4.2.2, y_2.2.2)) fun y_5 =>
 (if (y_5 < (0 : Int)) then
 (y_4.1, (y_4.2.2, (0 : Int))) else
 (y_2.1, (y_2.2.2, (0 : Int)))))) else
 (letV (find (x.1, (x.2.2.2, x.2.1))) fun y_4 =>
 (letV (fcmp (y_4.2.2, y_1.2.2)) fun y_5 =>
 (if (y_5 < (0 : Int)) then
 (y_4.1, (y_4.2.2, (0 : Int))) else
 (y_1.1, (y_1.2.2, (0 : Int)))))))))))))
noncomputable def closest_pre (x : (I2 × I6)) : Prop :=
 ((mIn_pre x) ∧
 letP (mIn x) fun y =>
 (¬ ((y.2 != (0 : Int)) = true) →
 (¬ (y.1 > (0 : Int)) →
 ((find_pre (x.1, (x.2.1, x.2.2.1))) ∧
 letP (find (x.1, (x.2.1, x.2.2.1))) fun y_1 =>
 ((find_pre (x.1, x.2.2)) ∧
 letP (find (x.1, x.2.2)) fun y_2 =>
 ((fcmp_pre (y_2.2.2, y_1.2.2)) ∧
 letP (fcmp (y_2.2.2, y_1.2.2)) fun y_3 =>
 (((y_3 < (0 : Int)) →
 ((find_pre (x.1, (x.2.2.2, x.2.1))) ∧
 letP (find (x.1, (x.2.2.2, x.2.1))) fun y_4 =>
 (fcmp_pre (y_4.2.2, y_2.2.2)))) ∧
 (¬ (y_3 < (0 : Int)) →
 ((find_pre (x.1, (x.2.2.2, x.2.1))) ∧
 letP (find (x.1, (x.2.2.2, x.2.1))) fun y_4 =>
 (fcmp_pre (y_4.2.2, y_1.2.2)))))))))))
noncomputable def closest_t (x : (I2 × I6)) : Tr (I2 × (I2 × Int)) true :=
 (.fn mIn_S x fun y =>
 (.b01 (y.2 != (0 : Int))
 (.ret (zz2, (zz2, y.2)))
 (.i01 (y.1 > (0 : Int))
 (.ret (x.1, (((0 : Int), (1 : Int)), (0 : Int))))
 (.fn find_S (x.1, (x.2.1, x.2.2.1)) fun y_1 =>
 (.fn find_S (x.1, x.2.2) fun y_2 =>
 (.allE
 (.fn fcmp_S (y_2.2.2, y_1.2.2) fun y_3 =>
 (.i11 (y_3 < (0 : Int))
 (.pn 0 5
 (.fn find_S (x.1, (x.2.2.2, x.2.1)) fun y_4 =>
 (.allE
 (.fn fcmp_S (y_4.2.2, y_2.2.2) fun y_5 =>
 (.i00 (y_5 < (0 : Int))
 (.pn 1 7
 (.ret (y_4.1, (y_4.2.2, (0 : Int)))))
 (.pn 1 7
 (.ret (y_2.1, (y_2.2.2, (0 : Int))))))))))
 (.pn 0 5
 (.fn find_S (x.1, (x.2.2.2, x.2.1)) fun y_4 =>
 (.allE
 (.fn fcmp_S (y_4.2.2, y_1.2.2) fun y_5 =>
 (.i00 (y_5 < (0 : Int))
 (.pn 1 7
 (.ret (y_4.1, (y_4.2.2, (0 : Int)))))
 (.pn 1 7
 (.ret (y_1.1, (y_1.2.2, (0 : Int))))))))))))))))))
noncomputable abbrev closest_S : FnS := ⟨(.pair (.agg yy2) (.agg yy6)), (.pair (.agg yy2) (.pair (.agg yy2) (.one yi))), closest_pre, closest⟩
theorem closest_ok : SpecOk Tryz.prog 30 (fnSpec closest_S) := SpecOk.tr closest_S closest_t (fn := Tryz.f30) tt_ok sp_mIn_ok mixed (by kernel_rfl) closest_i0.ok (fun x => LpsOk.nil) (fun x => (by kernel_rfl)) fun x Q => (by kernel_rfl)
def sp_closest : List (Nat × Ev.Spec) := (30, fnSpec closest_S) :: sp_mIn
theorem sp_closest_ok : SpecsOk Tryz.prog sp_closest := SpecsOk.add (fn := Tryz.f30) (by kernel_rfl) closest_ok sp_mIn_ok
noncomputable def weights (x : (I2 × I6)) : (I3 × I2) :=
 (letV (mIn x) fun y =>
 (if ((y.2 != (0 : Int)) = true) then
 (((0 : Int), ((0 : Int), (0 : Int))), ((0 : Int), y.2)) else
 (letV (sarea x.2) fun y_1 =>
 (letV (sside x.2) fun y_2 =>
 (letV (sarea (x.1, x.2.2)) fun y_3 =>
 (letV (sarea (x.1, (x.2.2.2, x.2.1))) fun y_4 =>
 (letV (sarea (x.1, (x.2.1, x.2.2.1))) fun y_5 =>
 (((w64 (y_3.1 * y_2.1)), ((w64 (y_4.1 * y_2.1)), (w64 (y_5.1 * y_2.1)))), ((w64 (y_1.1 * y_2.1)), (0 : Int))))))))))
noncomputable def weights_pre (x : (I2 × I6)) : Prop :=
 ((mIn_pre x) ∧
 letP (mIn x) fun y =>
 (¬ ((y.2 != (0 : Int)) = true) →
 ((sarea_pre x.2) ∧
 letP (sarea x.2) fun y_1 =>
 ((sside_pre x.2) ∧
 letP (sside x.2) fun y_2 =>
 ((sarea_pre (x.1, x.2.2)) ∧
 letP (sarea (x.1, x.2.2)) fun y_3 =>
 ((sarea_pre (x.1, (x.2.2.2, x.2.1))) ∧
 letP (sarea (x.1, (x.2.2.2, x.2.1))) fun y_4 =>
 (sarea_pre (x.1, (x.2.1, x.2.2.1)))))))))
noncomputable def weights_t (x : (I2 × I6)) : Tr (I3 × I2) true :=
 (.fn mIn_S x fun y =>
 (.b01 (y.2 != (0 : Int))
 (.ret (zz3, ((0 : Int), y.2)))
 (.fn sarea_S x.2 fun y_1 =>
 (.fn sside_S x.2 fun y_2 =>
 (.fn sarea_S (x.1, x.2.2) fun y_3 =>
 (.fn sarea_S (x.1, (x.2.2.2, x.2.1)) fun y_4 =>
 (.fn sarea_S (x.1, (x.2.1, x.2.2.1)) fun y_5 =>
 (.ret (((w64 (y_3.1 * y_2.1)), ((w64 (y_4.1 * y_2.1)), (w64 (y_5.1 * y_2.1)))), ((w64 (y_1.1 * y_2.1)), (0 : Int)))))))))))
noncomputable abbrev weights_S : FnS := ⟨(.pair (.agg yy2) (.agg yy6)), (.pair (.agg yy3) (.pair (.one yi) (.one yi))), weights_pre, weights⟩
theorem weights_ok : SpecOk Tryz.prog 65 (fnSpec weights_S) := SpecOk.tr weights_S weights_t (fn := Tryz.f65) tt_ok sp_closest_ok mixed (by kernel_rfl) (ItsOk.nil _ _) (fun x => (LpsOk.unrollT tt_ok (SpecsOk.ctxI sp_closest_ok (ItsOk.nil _ _)) mixed 0 4 LpsOk.nil (by kernel_rfl))) (fun x => (by kernel_rfl)) fun x Q => (by kernel_rfl)
def sp_weights : List (Nat × Ev.Spec) := (65, fnSpec weights_S) :: sp_closest
theorem sp_weights_ok : SpecsOk Tryz.prog sp_weights := SpecsOk.add (fn := Tryz.f65) (by kernel_rfl) weights_ok sp_closest_ok
noncomputable def nlift (x : (I2 × (I6 × I9))) : (I3 × Int) :=
 (letV (small2 [x.1]) fun y =>
 (if ((!y) = true) then
 (((0 : Int), ((0 : Int), (0 : Int))), (5 : Int)) else
 (letV (small3 [x.2.2.1, x.2.2.2.1, x.2.2.2.2]) fun y_1 =>
 (if ((!y_1) = true) then
 (((0 : Int), ((0 : Int), (0 : Int))), (5 : Int)) else
 (letV (weights (x.1, x.2.1)) fun y_2 =>
 (if ((y_2.2.2 != (0 : Int)) = true) then
 (((0 : Int), ((0 : Int), (0 : Int))), y_2.2.2) else
 (letV (floor ((w64 ((w64 ((w64 ((0 : Int) + (w64 (y_2.1.1 * x.2.2.1.1)))) + (w64 (y_2.1.2.1 * x.2.2.2.1.1)))) + (w64 (y_2.1.2.2 * x.2.2.2.2.1)))), y_2.2.1)) fun y_3 =>
 (letV (floor ((w64 ((w64 ((w64 ((0 : Int) + (w64 (y_2.1.1 * x.2.2.1.2.1)))) + (w64 (y_2.1.2.1 * x.2.2.2.1.2.1)))) + (w64 (y_2.1.2.2 * x.2.2.2.2.2.1)))), y_2.2.1)) fun y_4 =>
 (letV (floor ((w64 ((w64 ((w64 ((0 : Int) + (w64 (y_2.1.1 * x.2.2.1.2.2)))) + (w64 (y_2.1.2.1 * x.2.2.2.1.2.2)))) + (w64 (y_2.1.2.2 * x.2.2.2.2.2.2)))), y_2.2.1)) fun y_5 =>
 ((y_3, (y_4, y_5)), (0 : Int)))))))))))
noncomputable def nlift_pre (x : (I2 × (I6 × I9))) : Prop :=
 ((small2_pre [x.1]) ∧
 letP (small2 [x.1]) fun y =>
 (¬ ((!y) = true) →
 ((small3_pre [x.2.2.1, x.2.2.2.1, x.2.2.2.2]) ∧
 letP (small3 [x.2.2.1, x.2.2.2.1, x.2.2.2.2]) fun y_1 =>
 (¬ ((!y_1) = true) →
 ((weights_pre (x.1, x.2.1)) ∧
 letP (weights (x.1, x.2.1)) fun y_2 =>
 (¬ ((y_2.2.2 != (0 : Int)) = true) →
 ((floor_pre ((w64 ((w64 ((w64 ((0 : Int) + (w64 (y_2.1.1 * x.2.2.1.1)))) + (w64 (y_2.1.2.1 * x.2.2.2.1.1)))) + (w64 (y_2.1.2.2 * x.2.2.2.2.1)))), y_2.2.1)) ∧
 letP (floor ((w64 ((w64 ((w64 ((0 : Int) + (w64 (y_2.1.1 * x.2.2.1.1)))) + (w64 (y_2.1.2.1 * x.2.2.2.1.1)))) + (w64 (y_2.1.2.2 * x.2.2.2.2.1)))), y_2.2.1)) fun y_3 =>
 ((floor_pre ((w64 ((w64 ((w64 ((0 : Int) + (w64 (y_2.1.1 * x.2.2.1.2.1)))) + (w64 (y_2.1.2.1 * x.2.2.2.1.2.1)))) + (w64 (y_2.1.2.2 * x.2.2.2.2.2.1)))), y_2.2.1)) ∧
 letP (floor ((w64 ((w64 ((w64 ((0 : Int) + (w64 (y_2.1.1 * x.2.2.1.2.1)))) + (w64 (y_2.1.2.1 * x.2.2.2.1.2.1)))) + (w64 (y_2.1.2.2 * x.2.2.2.2.2.1)))), y_2.2.1)) fun y_4 =>
 (floor_pre ((w64 ((w64 ((w64 ((0 : Int) + (w64 (y_2.1.1 * x.2.2.1.2.2)))) + (w64 (y_2.1.2.1 * x.2.2.2.1.2.2)))) + (w64 (y_2.1.2.2 * x.2.2.2.2.2.2)))), y_2.2.1))))))))))
noncomputable def nlift_t (x : (I2 × (I6 × I9))) : Tr (I3 × Int) true :=
 (.fn small2_S [x.1] fun y =>
 (.b01 (!y)
 (.ret (zz3, (5 : Int)))
 (.fn small3_S [x.2.2.1, x.2.2.2.1, x.2.2.2.2] fun y_1 =>
 (.b01 (!y_1)
 (.ret (zz3, (5 : Int)))
 (.fn weights_S (x.1, x.2.1) fun y_2 =>
 (.b01 (y_2.2.2 != (0 : Int))
 (.ret (zz3, y_2.2.2))
 (.fn floor_S ((w64 ((w64 ((w64 ((0 : Int) + (w64 (y_2.1.1 * x.2.2.1.1)))) + (w64 (y_2.1.2.1 * x.2.2.2.1.1)))) + (w64 (y_2.1.2.2 * x.2.2.2.2.1)))), y_2.2.1) fun y_3 =>
 (.fn floor_S ((w64 ((w64 ((w64 ((0 : Int) + (w64 (y_2.1.1 * x.2.2.1.2.1)))) + (w64 (y_2.1.2.1 * x.2.2.2.1.2.1)))) + (w64 (y_2.1.2.2 * x.2.2.2.2.2.1)))), y_2.2.1) fun y_4 =>
 (.fn floor_S ((w64 ((w64 ((w64 ((0 : Int) + (w64 (y_2.1.1 * x.2.2.1.2.2)))) + (w64 (y_2.1.2.1 * x.2.2.2.1.2.2)))) + (w64 (y_2.1.2.2 * x.2.2.2.2.2.2)))), y_2.2.1) fun y_5 =>
 (.ret ((y_3, (y_4, y_5)), (0 : Int))))))))))))
noncomputable abbrev nlift_S : FnS := ⟨(.pair (.agg yy2) (.pair (.agg yy6) (.agg yy9))), (.pair (.agg yy3) (.one yi)), nlift_pre, nlift⟩
theorem nlift_ok : SpecOk Tryz.prog 31 (fnSpec nlift_S) := SpecOk.tr nlift_S nlift_t (fn := Tryz.f31) tt_ok sp_weights_ok mixed (by kernel_rfl) (ItsOk.nil _ _) (fun x => (LpsOk.unrollT tt_ok (SpecsOk.ctxI sp_weights_ok (ItsOk.nil _ _)) mixed 0 4 LpsOk.nil (by kernel_rfl))) (fun x => (by kernel_rfl)) fun x Q => (by kernel_rfl)
def sp_nlift : List (Nat × Ev.Spec) := (31, fnSpec nlift_S) :: sp_weights
theorem sp_nlift_ok : SpecsOk Tryz.prog sp_nlift := SpecsOk.add (fn := Tryz.f31) (by kernel_rfl) nlift_ok sp_weights_ok
end Go.Proofs.YtfgdjlhilladhaaGreat
