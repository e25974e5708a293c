/- Plain laws of seam: level values. -/
import Derived.Test.YtojielnkfeoccaaGreatSb
namespace Go.Proofs.YtojielnkfeoccaaGreat
open Go Go.Ev Go.Proofs
abbrev Px := (Int × Int) × (Int × Int)
def add2 (p q : Int × Int) : Int × Int := (p.1 + q.1, p.2 + q.2)
theorem add2_assoc (p q r : Int × Int) : add2 (add2 p q) r = add2 p (add2 q r) := by unfold add2; simp [Int.add_assoc]
theorem add2_comm (p q : Int × Int) : add2 p q = add2 q p := by unfold add2; simp [Int.add_comm]
theorem add2_zero (p : Int × Int) : add2 p (0, 0) = p := by unfold add2; simp
def vv (V : List Int) (k : Nat) : Int × Int := if V.getD k 0 = -1 then (0, 0) else (V.getD k 0, 1)
def plc (w : Int) (p : Int × Int) : Nat := (p.2 * w + p.1).toNat
def con (V : List Int) (w : Int) (pr : Px) (j : Nat) : Int × Int := add2 (if plc w pr.1 = j then vv V (plc w pr.2) else (0, 0)) (if plc w pr.2 = j then vv V (plc w pr.1) else (0, 0))
def tot (V : List Int) (w : Int) : List Px → Nat → Int × Int
  | [], _ => (0, 0)
  | pr :: r, j => add2 (con V w pr j) (tot V w r j)
def InP (V : List Int) (w : Int) (p : Int × Int) : Prop := 0 ≤ p.1 ∧ 0 ≤ p.2 ∧ p.1 < w ∧ p.2 < (V.length : Int) / w
instance (V : List Int) (w : Int) (p : Int × Int) : Decidable (InP V w p) := by unfold InP; infer_instance
def inB (V : List Int) (w : Int) (pr : Px) : Bool := decide (InP V w pr.1) && decide (InP V w pr.2)
def lvOk (w : Int) (V : List Int) (l : List Px) : Bool := decide (1 ≤ w) && decide (w ≤ 256) && decide ((V.length : Int) % w = 0) && decide ((V.length : Int) ≤ w * 256) && V.all (fun v => decide (-1 ≤ v) && decide (v ≤ 255)) && l.all (inB V w)
def lv1 (V : List Int) (w : Int) (l : List Px) (j : Nat) : Int := if V.getD j 0 = -1 then -1 else (add2 (vv V j) (tot V w l j)).1 / (add2 (vv V j) (tot V w l j)).2
def LV (w : Int) (V : List Int) (l : List Px) : List Int := (List.range V.length).map (lv1 V w l)
theorem tot_append (V : List Int) (w : Int) (j : Nat) : ∀ (a b : List Px), tot V w (a ++ b) j = add2 (tot V w a j) (tot V w b j)
  | [], b => by simp [tot, add2]
  | p :: a, b => by rw [List.cons_append, tot, tot, tot_append V w j a b, add2_assoc]
/-- Bounds of sums. -/
theorem vv_in {V : List Int} {lo hi : Int} (h : ∀ k, k < V.length → 0 ≤ V.getD k 0 → lo ≤ V.getD k 0 ∧ V.getD k 0 ≤ hi) (hv : ∀ k, k < V.length → -1 ≤ V.getD k 0) {k : Nat} (hk : k < V.length) :
    0 ≤ (vv V k).2 ∧ (vv V k).2 ≤ 1 ∧ lo * (vv V k).2 ≤ (vv V k).1 ∧ (vv V k).1 ≤ hi * (vv V k).2 := by
  unfold vv
  split
  · simp
  · rename_i hne
    have h1 := hv k hk
    have h2 := h k hk (by omega)
    simp only [Int.mul_one]
    omega
theorem plc_lt {V : List Int} {w : Int} {p : Int × Int} (hw : 1 ≤ w) (h : InP V w p) : plc w p < V.length ∧ 0 ≤ p.2 * w ∧ p.2 * w + p.1 < V.length := by
  obtain ⟨h1, h2, h3, h4⟩ := h
  have e := Int.mul_ediv_add_emod (V.length : Int) w
  have e1 := Int.emod_nonneg (V.length : Int) (show w ≠ 0 by omega)
  have m1 : p.2 * w ≤ ((V.length : Int) / w - 1) * w := Int.mul_le_mul_of_nonneg_right (by omega) (by omega)
  have m2 := Int.mul_nonneg h2 (show 0 ≤ w by omega)
  have e2 : ((V.length : Int) / w - 1) * w = w * ((V.length : Int) / w) - w := by rw [Int.sub_mul, Int.one_mul, Int.mul_comm]
  refine ⟨?_, m2, by omega⟩
  unfold plc
  omega
theorem con_in {V : List Int} {w lo hi : Int} (hw : 1 ≤ w) (h : ∀ k, k < V.length → 0 ≤ V.getD k 0 → lo ≤ V.getD k 0 ∧ V.getD k 0 ≤ hi) (hv : ∀ k, k < V.length → -1 ≤ V.getD k 0) {pr : Px} (hp : inB V w pr = true) (j : Nat) :
    0 ≤ (con V w pr j).2 ∧ (con V w pr j).2 ≤ 2 ∧ lo * (con V w pr j).2 ≤ (con V w pr j).1 ∧ (con V w pr j).1 ≤ hi * (con V w pr j).2 := by
  simp only [inB, Bool.and_eq_true, decide_eq_true_eq] at hp
  have a := vv_in h hv (plc_lt hw hp.1).1
  have b := vv_in h hv (plc_lt hw hp.2).1
  unfold con add2
  split <;> split <;> simp only [Int.mul_add, Int.mul_zero, Int.add_zero, Int.zero_add] <;> omega
theorem tot_in {V : List Int} {w lo hi : Int} (hw : 1 ≤ w) (h : ∀ k, k < V.length → 0 ≤ V.getD k 0 → lo ≤ V.getD k 0 ∧ V.getD k 0 ≤ hi) (hv : ∀ k, k < V.length → -1 ≤ V.getD k 0) (j : Nat) : ∀ (l : List Px), l.all (inB V w) = true →
    0 ≤ (tot V w l j).2 ∧ (tot V w l j).2 ≤ 2 * l.length ∧ lo * (tot V w l j).2 ≤ (tot V w l j).1 ∧ (tot V w l j).1 ≤ hi * (tot V w l j).2
  | [], _ => by simp [tot]
  | pr :: r, hl => by
    simp only [List.all_cons, Bool.and_eq_true] at hl
    have a := con_in hw h hv hl.1 j
    have b := tot_in hw h hv j r hl.2
    simp only [tot, add2, Int.mul_add, List.length_cons]
    omega
/-! What a value adds at a place. -/
def addC (V : List Int) (S : List (Int × Int)) (k m : Nat) : List (Int × Int) := if V.getD m 0 ≠ -1 then S.set k (add2 (S.getD k (0, 0)) (V.getD m 0, 1)) else S
theorem addC_len (V : List Int) (S : List (Int × Int)) (k m : Nat) : (addC V S k m).length = S.length := by unfold addC; split <;> simp
theorem addC_get {V : List Int} {S : List (Int × Int)} {k : Nat} (m : Nat) (hk : k < S.length) (j : Nat) : (addC V S k m).getD j (0, 0) = add2 (S.getD j (0, 0)) (if k = j then vv V m else (0, 0)) := by
  unfold addC vv
  by_cases h : V.getD m 0 = -1
  · rw [if_neg (by simpa using h), if_pos h]; simp [add2_zero]
  · rw [if_pos h, if_neg h]
    by_cases e : k = j
    · subst e
      rw [if_pos rfl, List.getD_eq_getElem?_getD, List.getElem?_set_self hk]; rfl
    · rw [if_neg e, add2_zero, List.getD_eq_getElem?_getD, List.getElem?_set_ne e, ← List.getD_eq_getElem?_getD]
theorem set_twice {S : List (Int × Int)} {k : Nat} {v : Int} (hk : k < S.length) (h1 : -1000000 ≤ (S.getD k (0, 0)).1 ∧ (S.getD k (0, 0)).1 ≤ 1000000) (h2 : -1000000 ≤ (S.getD k (0, 0)).2 ∧ (S.getD k (0, 0)).2 ≤ 1000000) (hv : -1000 ≤ v ∧ v ≤ 1000) :
    List.set (List.set S k (w64 ((S.getD k (0, 0)).1 + v), (S.getD k (0, 0)).2)) k (((List.set S k (w64 ((S.getD k (0, 0)).1 + v), (S.getD k (0, 0)).2)).getD k (0, 0)).1, w64 (((List.set S k (w64 ((S.getD k (0, 0)).1 + v), (S.getD k (0, 0)).2)).getD k (0, 0)).2 + 1)) = S.set k (add2 (S.getD k (0, 0)) (v, 1)) := by
  have e : ∀ y : Int × Int, (List.set S k y).getD k (0, 0) = y := fun y => by rw [List.getD_eq_getElem?_getD, List.getElem?_set_self hk]; rfl
  rw [e, List.set_set]
  dsimp only
  rw [w64_id (by omega) (by omega), w64_id (by omega) (by omega)]
  rfl
theorem lin_law {V : List Int} {w : Int} (hw : 1 ≤ w) (hn : V.length ≤ 80) (p : Int × Int) : lin_pre (p, (w, V)) ∧ lin (p, (w, V)) = decide (InP V w p) := by
  refine ⟨fun _ _ => by dsimp only; omega, ?_⟩
  have h1 : (0 : Int) ≤ (V.length : Int) / w := Int.ediv_nonneg (by omega) (by omega)
  have h2 : (V.length : Int) / w ≤ V.length := Int.ediv_le_self _ (by omega)
  unfold lin
  dsimp only
  rw [Int.tdiv_eq_ediv_of_nonneg (by omega), w64_id (by omega) (by omega)]
  by_cases a : InP V w p
  · rw [decide_eq_true a]
    obtain ⟨a1, a2, a3, a4⟩ := a
    rw [if_pos (by unfold minI; split <;> omega), if_pos a3]
    exact decide_eq_true a4
  · rw [decide_eq_false a]
    by_cases b : minI p.1 p.2 ≥ 0
    · rw [if_pos b]
      have b2 : 0 ≤ p.1 ∧ 0 ≤ p.2 := by unfold minI at b; split at b <;> omega
      by_cases c : p.1 < w
      · rw [if_pos c]
        exact decide_eq_false fun d => a ⟨b2.1, b2.2, c, d⟩
      · rw [if_neg c]
    · rw [if_neg b]
theorem lodd_law (n : Int) : lodd n = !(decide (-1 ≤ n) && decide (n ≤ 255)) := by
  unfold lodd
  by_cases h1 : n < -1
  · rw [if_pos h1, decide_eq_false (p := -1 ≤ n) (by omega)]; rfl
  · rw [if_neg h1, decide_eq_true (p := -1 ≤ n) (by omega), Bool.true_and]
    by_cases h2 : n > 255
    · rw [decide_eq_true h2, decide_eq_false (p := n ≤ 255) (by omega)]; rfl
    · rw [decide_eq_false h2, decide_eq_true (p := n ≤ 255) (by omega)]; rfl
theorem cloneI_tm (l : List Int) (hl : l.length < 1099511627776) : cloneI_pre l := fun b hb => by
  cases b with
  | false => exact ⟨rfl, fun _ => by omega⟩
  | true =>
    cases l with
    | nil => exact ⟨rfl, fun h => absurd rfl h⟩
    | cons a r => exact absurd (hb (by simp)) (by decide)
theorem r1same_law (a b : List Int) (hl : a.length < 4611686018427387904) : r1same_pre (a, b) ∧ (r1same (a, b) = true ↔ a = b) := by
  unfold r1same_pre r1same
  dsimp only [letP, letV]
  by_cases h : a.length = b.length
  · have hn : ¬ ((((a.length : Nat) : Int) != ((b.length : Nat) : Int)) = true) := by simp [h]
    obtain ⟨h1, h2⟩ := loop_inv (step := r1same_l0_step (a, b)) (pre := r1same_l0_pre (a, b)) (fun s => ∃ i : Nat, s = (i : Int) ∧ i ≤ a.length ∧ a.take i = b.take i) (fun s => a.length - s.toNat)
      (fun r => (r = .inl () ∧ a ≠ b) ∨ (r = .inr () ∧ a = b)) (fun s ⟨i, e, hi, hf⟩ => by
        subst e
        unfold r1same_l0_step r1same_l0_pre
        dsimp only
        simp only [Int.toNat_natCast]
        refine ⟨fun q => ⟨by omega, by omega, by omega, by omega, by omega, by omega⟩, fun s' q => ?_, fun r q => ?_⟩
        · split at q
          · rename_i hlt
            have hlt : i < a.length := by omega
            split at q
            · cases q
            · rename_i hne
              cases q
              refine ⟨⟨i + 1, cnt hlt (by omega), hlt, ?_⟩, ?_⟩
              · rw [List.take_succ_eq_append_getElem hlt, List.take_succ_eq_append_getElem (show i < b.length by omega), hf]
                congr 2
                simpa [List.getD_eq_getElem?_getD, List.getElem?_eq_getElem hlt, List.getElem?_eq_getElem (show i < b.length by omega)] using hne
              · rw [cnt hlt (by omega)]
                simp only [Int.toNat_natCast]; omega
          · cases q
        · split at q
          · split at q
            · rename_i hne
              cases q
              refine .inl ⟨rfl, fun e => ?_⟩
              rw [e] at hne; simp at hne
            · cases q
          · cases q
            have : i = a.length := by omega
            subst this
            rw [List.take_length, h, List.take_length] at hf
            exact .inr ⟨rfl, hf⟩) 0 ⟨0, rfl, Nat.zero_le _, rfl⟩
    refine ⟨fun _ => h1, ?_⟩
    rw [if_neg hn]
    rcases h2 with ⟨e, q⟩ | ⟨e, q⟩
    · rw [e]; exact ⟨fun z => (by cases z), fun z => absurd z q⟩
    · rw [e]; exact ⟨fun _ => q, fun _ => rfl⟩
  · have hn : (((a.length : Nat) : Int) != ((b.length : Nat) : Int)) = true := by simp; omega
    refine ⟨fun q => absurd hn q, ?_⟩
    rw [if_pos hn]
    exact ⟨fun q => (by cases q), fun q => absurd (by rw [q]) h⟩
theorem containsL_law (l : List Int) (hl : l.length < 4611686018427387904) : containsL_pre (l, false) ∧ containsL (l, false) = !l.all fun v => decide (-1 ≤ v) && decide (v ≤ 255) := by
  have hh := index_loop l hl (fun v => !(decide (-1 ≤ v) && decide (v ≤ 255))) (indexL_l0_step (l, false)) (indexL_l0_pre (l, false)) (fun i hi => by
      unfold indexL_l0_pre
      intro h
      simp only [Int.toNat_natCast]; dsimp only at h ⊢
      exact ⟨⟨by omega, by omega⟩, by omega, by omega⟩) (fun i x hx => by
      have hlt := lt_of_get hx
      unfold indexL_l0_step
      dsimp only [letV]
      rw [if_pos (by omega), Int.toNat_natCast, getD_of hx, lodd_law]) (by
      unfold indexL_l0_step
      dsimp only
      rw [if_neg (by omega)])
  refine ⟨hh.1, ?_⟩
  unfold containsL indexL
  dsimp only [letV]
  rw [hh.2, find_any]
  simp [List.all_eq_not_any_not]
end Go.Proofs.YtojielnkfeoccaaGreat
