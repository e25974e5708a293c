/- Sorting few elements, plain. -/
import Derived.Test.YtbjfokijjefoeaaTa
import Derived.Test.YtbjfokijjefoeaaQ0
import Derived.Sort.AssemblyPlain
namespace Go.Proofs.Ytbjfokijjefoeaa
open Go Go.Ev Go.Proofs
set_option linter.unusedVariables false
set_option linter.unusedSimpArgs false
/-- A loop ends, and what holds behind it. -/
def TR {S R : Type} [Inhabited R] (step : S → S ⊕ R) (pre : S → Prop) (s : S) (Post : R → Prop) : Prop := Term step pre s ∧ Post (run step s)
theorem TR.stop {S R : Type} [Inhabited R] {step : S → S ⊕ R} {pre : S → Prop} {s : S} {Post : R → Prop} {r : R} (hp : pre s) (h : step s = .inr r) (hq : Post r) : TR step pre s Post :=
  ⟨.mk s hp (fun s' e => by rw [h] at e; cases e), by rw [run_eq, h]; exact hq⟩
theorem TR.go {S R : Type} [Inhabited R] {step : S → S ⊕ R} {pre : S → Prop} {s s' : S} {Post : R → Prop} (hp : pre s) (h : step s = .inl s') (hn : TR step pre s' Post) : TR step pre s Post :=
  ⟨.mk s hp (fun t e => by rw [h] at e; cases e; exact hn.1), by rw [run_eq, h]; exact hn.2⟩
theorem TR.mono {S R : Type} [Inhabited R] {step : S → S ⊕ R} {pre : S → Prop} {s : S} {Post Post' : R → Prop} (h : TR step pre s Post) (hq : ∀ r, Post r → Post' r) : TR step pre s Post' := ⟨h.1, hq _ h.2⟩

/-! ### Lists and arrays -/
theorem getBang (l : List Int) (i : Nat) : l.toArray[i]! = l.getD i 0 := by
  rw [List.getD_eq_getElem?_getD]
  simp only [List.getElem!_toArray]
  rw [List.getElem!_eq_getElem?_getD]; rfl
def sw (l : List Int) (i j : Nat) : List Int := (l.set i (l.getD j 0)).set j (l.getD i 0)
theorem sw_arr (l : List Int) (i j : Nat) : (sw l i j).toArray = Sort.swp l.toArray i j := by
  unfold sw Sort.swp
  rw [getBang, getBang]
  simp
theorem sw_len (l : List Int) (i j : Nat) : (sw l i j).length = l.length := by simp [sw]
theorem sw_toList (l : List Int) (i j : Nat) : (Sort.swp l.toArray i j).toList = sw l i j := by rw [← sw_arr]
theorem getD_mem {l : List Int} {i : Nat} (h : i < l.length) : l.getD i 0 ∈ l := by
  rw [List.getD_eq_getElem?_getD, List.getElem?_eq_getElem h]; exact List.getElem_mem h
/-- A place that may stand in what is sorted. -/
def okE (r : RT) (e : Int) : Prop := 0 ≤ e ∧ e < (r.length : Int)
def RO (r : RT) : Prop := True
theorem isNaN_f (x : Int) : isNaN x = false := by simp [isNaN]
theorem compare_eq (a b : Int) : compare (a, b) = if a < b then -1 else if a > b then 1 else 0 := by
  simp [compare, isNaN_f, letV]
theorem cmpOr_law (a b c : Int) : cmpOr_pre [a, b, c] ∧ cmpOr [a, b, c] = if a ≠ 0 then a else if b ≠ 0 then b else c := by
  have key : TR (cmpOr_l0_step [a, b, c]) (cmpOr_l0_pre [a, b, c]) 0 fun r => Sum.elim (fun a => a) (fun _ => (0 : Int)) r = if a ≠ 0 then a else if b ≠ 0 then b else c := by
    by_cases ha : a = 0
    · subst ha
      refine TR.go (s' := 1) (by simp [cmpOr_l0_pre]) (by simp [cmpOr_l0_step, w64_id]) ?_
      by_cases hb : b = 0
      · subst hb
        refine TR.go (s' := 2) (by simp [cmpOr_l0_pre]) (by simp [cmpOr_l0_step, w64_id]) ?_
        by_cases hc : c = 0
        · subst hc
          refine TR.go (s' := 3) (by simp [cmpOr_l0_pre]) (by simp [cmpOr_l0_step, w64_id]) ?_
          exact TR.stop (r := .inr ()) (by simp [cmpOr_l0_pre]) (by simp [cmpOr_l0_step]) (by simp)
        · exact TR.stop (r := .inl c) (by simp [cmpOr_l0_pre]) (by simp [cmpOr_l0_step, hc]) (by simp)
      · exact TR.stop (r := .inl b) (by simp [cmpOr_l0_pre]) (by simp [cmpOr_l0_step, hb]) (by simp [hb])
    · exact TR.stop (r := .inl a) (by simp [cmpOr_l0_pre]) (by simp [cmpOr_l0_step, ha]) (by simp [ha])
  exact ⟨key.1, by unfold cmpOr letV; exact key.2⟩
/-- One comes first. -/
noncomputable def ltM (r : RT) (x y : Int) : Bool := decide (byM (r, (x, y)) < 0)
def hM (r : RT) (x : Int) : Int := (List.getD r (Int.toNat x) ([], ([], ((0 : Int), (0 : Int))))).2.2.2
def wM (r : RT) (x : Int) : Int := (List.getD r (Int.toNat x) ([], ([], ((0 : Int), (0 : Int))))).2.2.1
theorem byM_eq (r : RT) (x y : Int) : byM (r, (x, y)) = if hM r y < hM r x then -1 else if hM r y > hM r x then 1 else if wM r y < wM r x then -1 else if wM r y > wM r x then 1 else if x < y then -1 else if x > y then 1 else 0 := by
  simp only [byM, letV, compare_eq, (cmpOr_law _ _ _).2]
  unfold hM wM
  generalize (List.getD r (Int.toNat x) ([], ([], ((0 : Int), (0 : Int))))).2.2 = p
  generalize (List.getD r (Int.toNat y) ([], ([], ((0 : Int), (0 : Int))))).2.2 = q
  repeat' split
  all_goals first | rfl | omega
theorem ltM_iff (r : RT) (x y : Int) : ltM r x y = true ↔ hM r y < hM r x ∨ (hM r y = hM r x ∧ (wM r y < wM r x ∨ (wM r y = wM r x ∧ x < y))) := by
  unfold ltM
  rw [byM_eq, decide_eq_true_eq]
  repeat' split
  all_goals simp
  all_goals omega
theorem ltM_f (r : RT) (x y : Int) : ltM r x y = false ↔ ¬ (hM r y < hM r x ∨ (hM r y = hM r x ∧ (wM r y < wM r x ∨ (wM r y = wM r x ∧ x < y)))) := by
  rw [← ltM_iff]; simp
theorem ltM_swo (r : RT) : Sort.SWO (ltM r) where
  irrefl x := by rw [ltM_f]; omega
  trans x y z h1 h2 := by rw [ltM_iff] at *; omega
  ntrans x y z h1 h2 := by rw [ltM_f] at *; omega
theorem ltM_total (r : RT) (x y : Int) (h1 : ltM r x y = false) (h2 : ltM r y x = false) : x = y := by
  rw [ltM_f] at *; omega
theorem byM_p {r : RT} (hr : RO r) {x y : Int} (hx : okE r x) (hy : okE r y) : byM_pre (r, (x, y)) := by
  have h1 : 0 ≤ x ∧ x < (r.length : Int) := hx
  have h2 : 0 ≤ y ∧ y < (r.length : Int) := hy
  simp only [byM_pre, letP]
  refine ⟨h1, by omega, by omega, h2, by omega, by omega, (cmpOr_law _ _ _).1⟩
/-- Elements are places. -/
def Ok (r : RT) (d : List Int) : Prop := ∀ e ∈ d, okE r e
theorem Ok.at_ {r : RT} {d : List Int} (h : Ok r d) {i : Nat} (hi : i < d.length) : okE r (d.getD i 0) := h _ (getD_mem hi)
theorem Ok.sw {r : RT} {d : List Int} (h : Ok r d) {i j : Nat} (hi : i < d.length) (hj : j < d.length) : Ok r (sw d i j) := by
  intro e he
  unfold Go.Proofs.Ytbjfokijjefoeaa.sw at he
  rcases List.mem_or_eq_of_mem_set he with he | rfl
  · rcases List.mem_or_eq_of_mem_set he with he | rfl
    · exact h e he
    · exact h.at_ hj
  · exact h.at_ hi

/-- What one knows of a call: the slice is not too long, its elements are places. -/
structure Fine (r : RT) (d : List Int) : Prop where
  len : d.length < 4611686018427387904
  ok : Ok r d
  ro : RO r
theorem Fine.sw {r : RT} {d : List Int} (h : Fine r d) {i j : Nat} (hi : i < d.length) (hj : j < d.length) : Fine r (sw d i j) := ⟨by rw [sw_len]; exact h.len, h.ok.sw hi hj, h.ro⟩
theorem Fine.by_ {r : RT} {d : List Int} (h : Fine r d) {i j : Nat} (hi : i < d.length) (hj : j < d.length) : byM_pre (r, (d.getD i 0, d.getD j 0)) := byM_p h.ro (h.ok.at_ hi) (h.ok.at_ hj)
theorem by_lt (r : RT) (x y : Int) : (byM (r, (x, y)) < 0) ↔ ltM r x y = true := by unfold ltM; simp

/-! ### reverseRange -/
/-- What a function that sorts a part leaves. -/
def Out (r : RT) (d : List Int) (a b : Nat) (d' : List Int) : Prop := Sort.PermIn a b d.toArray d'.toArray ∧ d'.length = d.length ∧ Fine r d'
/-! ### insertionSort -/
theorem ins_inner (x : List Int × Int × Int × RT) (a : Nat) (hx : x.2.1 = (a : Int)) : ∀ (j : Nat) (d : List Int) (i : Int), Fine x.2.2.2 d → j < d.length →
    TR (insM_l2_3_step x) (insM_l2_3_pre x) (d, (i, (j : Int))) fun r => r.1.toArray = Sort.insInner (ltM x.2.2.2) a j d.toArray ∧ r.2 = i ∧ r.1.length = d.length ∧ Fine x.2.2.2 r.1 := by
  intro j
  induction j with
  | zero =>
    intro d i hf hj
    refine TR.stop (r := (d, i)) ?_ ?_ ⟨?_, rfl, rfl, hf⟩
    · simp only [insM_l2_3_pre, hx]; intro h; exfalso; omega
    · simp only [insM_l2_3_step, hx]; rw [if_neg (by omega)]
    · rw [Sort.insInner]
  | succ j ih =>
    intro d i hf hj
    have hl := hf.len
    have e : w64 (((j + 1 : Nat) : Int) - 1) = (j : Int) := by rw [w64_id (by omega) (by omega)]; omega
    by_cases hja : j + 1 > a
    · by_cases hlt : ltM x.2.2.2 (d.getD (j + 1) 0) (d.getD j 0) = true
      · refine TR.go (s' := (sw d (j + 1) j, (i, (j : Int)))) ?_ ?_ ((ih _ i (hf.sw hj (by omega)) (by rw [sw_len]; omega)).mono fun r hr => ⟨?_, hr.2.1, ?_, hr.2.2.2⟩)
        · simp only [insM_l2_3_pre, letP, List.length_set, Int.toNat_natCast, e]
          intro _
          refine ⟨?_, ?_, ?_, ?_, ?_, ?_, hf.by_ hj (by omega), fun _ => ?_⟩ <;> omega
        · simp only [insM_l2_3_step, letV, Int.toNat_natCast, e, hx]
          rw [if_pos (by omega), if_pos ((by_lt _ _ _).2 hlt)]; rfl
        · rw [hr.1, sw_arr]
          conv => rhs; rw [Sort.insInner, getBang, getBang, if_pos (by rw [Bool.and_eq_true]; exact ⟨decide_eq_true hja, hlt⟩)]
        · rw [hr.2.2.1, sw_len]
      · refine TR.stop (r := (d, i)) ?_ ?_ ⟨?_, rfl, rfl, hf⟩
        · simp only [insM_l2_3_pre, letP, List.length_set, Int.toNat_natCast, e]
          intro _
          refine ⟨?_, ?_, ?_, ?_, ?_, ?_, hf.by_ hj (by omega), fun h => absurd ((by_lt _ _ _).1 h) hlt⟩ <;> omega
        · simp only [insM_l2_3_step, letV, Int.toNat_natCast, e, hx]
          rw [if_pos (by omega), if_neg (fun h => hlt ((by_lt _ _ _).1 h))]
        · rw [Sort.insInner, getBang, getBang, if_neg (by rw [Bool.and_eq_true]; exact fun h => hlt h.2)]
    · refine TR.stop (r := (d, i)) ?_ ?_ ⟨?_, rfl, rfl, hf⟩
      · simp only [insM_l2_3_pre, hx]; intro h; exfalso; omega
      · simp only [insM_l2_3_step, hx]; rw [if_neg (by omega)]
      · rw [Sort.insInner, if_neg (by simp [hja])]
theorem ins_outer (x : List Int × Int × Int × RT) (a b : Nat) (hx : x.2.1 = (a : Int)) (hx2 : x.2.2.1 = (b : Int)) : ∀ (n : Nat) (d : List Int) (i : Nat), Fine x.2.2.2 d → b ≤ d.length → b - i ≤ n →
    TR (insM_l0_3_step x) (insM_l0_3_pre x) (d, (i : Int)) fun r => r.toArray = Sort.insOuter (ltM x.2.2.2) a b i d.toArray ∧ r.length = d.length ∧ Fine x.2.2.2 r := by
  intro n
  induction n with
  | zero =>
    intro d i hf hj hn
    refine TR.stop (r := d) ?_ ?_ ⟨?_, rfl, hf⟩
    · simp only [insM_l0_3_pre, hx2]; intro h; exfalso; omega
    · simp only [insM_l0_3_step, hx2]; rw [if_neg (by omega)]
    · rw [Sort.insOuter, if_neg (by omega)]
  | succ n ih =>
    intro d i hf hb hn
    have hl := hf.len
    by_cases hi : i < b
    · obtain ⟨k1, k2, k3, k4, k5⟩ := ins_inner x a hx i d i hf (by omega)
      refine TR.go (s' := ((run (insM_l2_3_step x) (d, ((i : Int), (i : Int)))).1, ((i + 1 : Nat) : Int))) ?_ ?_ ((ih _ _ k5 (by omega) (by omega)).mono fun r hr => ⟨?_, by omega, hr.2.2⟩)
      · simp only [insM_l0_3_pre]; exact fun _ => k1
      · simp only [insM_l0_3_step, letV, hx2, k3]
        rw [if_pos (by omega), w64_id (by omega) (by omega)]; rfl
      · rw [hr.1, k2]
        conv => rhs; rw [Sort.insOuter, if_pos hi]
    · refine TR.stop (r := d) ?_ ?_ ⟨?_, rfl, hf⟩
      · simp only [insM_l0_3_pre, hx2]; intro h; exfalso; omega
      · simp only [insM_l0_3_step, hx2]; rw [if_neg (by omega)]
      · rw [Sort.insOuter, if_neg hi]
theorem ins_law {r : RT} {d : List Int} (hf : Fine r d) {a b : Nat} (hab : a ≤ b) (hb : b ≤ d.length) :
    insM_pre (d, ((a : Int), ((b : Int), r))) ∧ Out r d a b (insM (d, ((a : Int), ((b : Int), r)))).2.1 ∧ Sort.SortedIn (ltM r) a b (insM (d, ((a : Int), ((b : Int), r)))).2.1.toArray := by
  have hl := hf.len
  have e : w64 ((a : Int) + 1) = ((a + 1 : Nat) : Int) := by rw [w64_id (by omega) (by omega)]; omega
  obtain ⟨h1, h2, h3, h4⟩ := ins_outer (d, ((a : Int), ((b : Int), r))) a b rfl rfl _ d (a + 1) hf hb (Nat.le_refl _)
  obtain ⟨k1, k2⟩ := Sort.insertionSort_holds (ltM_swo r) d.toArray a b hab (by simpa using hb)
  unfold Sort.insertionSort at k1 k2
  refine ⟨?_, ?_, ?_⟩
  · simp only [insM_pre, letP, e]
    exact ⟨h1, h3⟩
  · simp only [insM, letV, e]
    exact ⟨by rw [h2]; exact k1, h3, h4⟩
  · simp only [insM, letV, e]
    rw [h2]; exact k2
theorem u8w (n : Int) : IntKind.wrap IntKind.u8 n = n % 256 := by simp [IntKind.wrap, IntKind.bits, IntKind.signed]
theorem u64w (n : Int) : IntKind.wrap IntKind.u64 n = n % 18446744073709551616 := by simp [IntKind.wrap, IntKind.bits, IntKind.signed]
/-- So many are sorted at most. -/
abbrev most : Nat := 12
theorem most_le : most ≤ 1000000 := by decide
theorem len_p (n : Nat) : len64M_pre (n : Int) := by
  simp only [len64M_pre, u8w]
  repeat' (first | with_reducible apply And.intro | intro _)
  all_goals omega
/-- The sorted list. -/
noncomputable def srt (r : RT) (d : List Int) : List Int := d.mergeSort fun x y => !ltM r y x
theorem sort_law {r : RT} {d : List Int} (hf : Fine r d) (hm : d.length ≤ most) : sortM_pre (d, r) ∧ (sortM (d, r)).2.1 = srt r d := by
  have hl := hf.len
  have e : IntKind.wrap IntKind.u64 ((d.length : Nat) : Int) = ((d.length : Nat) : Int) := by rw [u64w]; omega
  have e2 : w64 (((d.length : Nat) : Int) - 0) = ((d.length : Nat) : Int) := by rw [w64_id (by omega) (by omega)]; omega
  have h12 : d.length ≤ 12 := hm
  have c : ((d.length : Nat) : Int) ≤ 12 := by omega
  obtain ⟨i1, i2, i3⟩ := ins_law hf (Nat.zero_le _) (Nat.le_refl d.length)
  have hi : insM (d, ((0 : Nat) : Int), ((d.length : Nat) : Int), r) = insM (d, ((0 : Int), ((d.length : Int), r))) := rfl
  rw [show (((0 : Nat) : Int)) = 0 from rfl] at i1 i2 i3
  refine ⟨?_, ?_⟩
  · simp only [sortM_pre, letP, e, pdqT_pre, pdqT, letV, e2]
    refine ⟨len_p _, ⟨fun _ => ⟨i1, i2.2.1⟩, fun q => absurd c q⟩, ?_⟩
    rw [if_pos c]; exact i2.2.1
  · simp only [sortM, letV, e, pdqT, e2]
    rw [if_pos c]
    have := Sort.sorted_unique_holds (ltM_swo r) (ltM_total r) d.toArray _ (by simpa using i2.1) (by simpa using i3)
    simpa [srt] using this
theorem srt_perm (r : RT) (d : List Int) : (srt r d).Perm d := List.mergeSort_perm _ _
theorem srt_fine {r : RT} {d : List Int} (hf : Fine r d) : Fine r (srt r d) :=
  ⟨by rw [(srt_perm r d).length_eq]; exact hf.len, fun e he => hf.ok e ((srt_perm r d).mem_iff.1 he), hf.ro⟩
end Go.Proofs.Ytbjfokijjefoeaa
