/- Plain laws: AtlasRoom. -/
import Derived.Test.YtbjfokijjefoeaaBg
import Derived.Test.YtbjfokijjefoeaaAi
namespace Go.Proofs.Ytbjfokijjefoeaa
open Go Go.Ev Go.Proofs
set_option linter.unusedVariables false
set_option linter.unusedSimpArgs false
theorem r18big_law (l : Pts) : r18big_pre l ∧ (r18big l = false → l.length ≤ 12) := by
  have key : TR (r18big_l0_step l) (r18big_l0_pre l) (0, 0) fun _ => True := by
    by_cases h12 : l.length ≤ 12
    · refine for_loop l.length (fun i s => s.2 = (i : Int)) _ (fun i s hi hj => ?_) (fun s hj => ?_) rfl
      · obtain ⟨n, z⟩ := s
        dsimp only at hj; subst hj
        refine ⟨?_, ?_⟩
        · unfold r18big_l0_pre letP
          intro _ _
          dsimp only
          rw [Int.toNat_natCast]
          exact ⟨by omega, hi, hi, fun _ => ⟨by omega, hi, hi, hi⟩⟩
        · unfold r18big_l0_step letV
          dsimp only
          rw [if_pos (by omega), if_pos (by omega)]
          split
          · exact .inr ⟨_, rfl, trivial⟩
          · exact .inl ⟨_, rfl, cntI hi (by omega)⟩
      · obtain ⟨n, z⟩ := s
        dsimp only at hj; subst hj
        refine ⟨?_, .inr n, ?_, trivial⟩
        · unfold r18big_l0_pre
          intro q
          dsimp only at q; omega
        · unfold r18big_l0_step
          dsimp only
          rw [if_neg (by omega)]
    · refine TR.stop (r := .inr 0) ?_ ?_ trivial
      · unfold r18big_l0_pre
        intro _ q
        omega
      · unfold r18big_l0_step
        dsimp only
        rw [if_pos (by omega), if_neg (by omega)]
  refine ⟨key.1, ?_⟩
  unfold r18big letV
  dsimp only
  cases run (r18big_l0_step l) (0, 0) with
  | inl a => intro q; cases q
  | inr b =>
    intro q
    have q : (if ((l.length : Nat) : Int) > 12 then true else decide (b > 30)) = false := q
    by_cases c : ((l.length : Nat) : Int) > 12
    · rw [if_pos c] at q; cases q
    · omega
theorem perm_sum {l m : List Int} (h : l.Perm m) (f : Int → Int) : (l.map f).sum = (m.map f).sum := by
  induction h with
  | nil => rfl
  | cons x _ ih => simp only [List.map_cons, List.sum_cons, ih]
  | swap x y l => simp only [List.map_cons, List.sum_cons]; omega
  | trans _ _ h1 h2 => rw [h1, h2]
/-- All heights, with their rims, of the first ones. -/
def tot (l : Pts) (pad : Int) (i : Nat) : Int := ((List.range i).map fun (j : Nat) => (siz (l.getD j zP) pad).2).sum
theorem tot_succ (l : Pts) (pad : Int) (i : Nat) : tot l pad (i + 1) = tot l pad i + (siz (l.getD i zP) pad).2 := by
  simp [tot, List.range_succ]
theorem szs_sum (l : Pts) (pad : Int) : ((szs l pad).map Prod.snd).sum = tot l pad l.length := by
  have h := perm_sum (ord_perm l) fun i => (siz (l.getD i.toNat zP) pad).2
  unfold szs tot
  rw [List.map_map]
  refine Eq.trans h ?_
  unfold rng
  rw [List.map_map]
  rfl
theorem room_loop {w h pad : Int} (l : Pts) (h12 : l.length ≤ 12) (c1 : ¬ w < 1) (c2 : ¬ w > 256) (c3 : ¬ h < 1) (c4 : ¬ h > 256) (c5 : ¬ pad < 1) (c6 : ¬ pad > 8) :
    TR (lawRoom_l0_step (w, (h, (pad, l)))) (lawRoom_l0_pre (w, (h, (pad, l)))) (h, 0) fun r => r = .inl true ∨ (r = .inr () ∧ tot l pad l.length ≤ h ∧ ∀ j, j < l.length → (l.getD j zP).2.2.1 + 2 * pad ≤ w ∧ 0 ≤ (l.getD j zP).2.2.2 ∧ (l.getD j zP).2.2.2 + 2 * pad ≤ h) := by
  obtain ⟨n1, n2⟩ := mapped_law false
  refine for_loop l.length (fun i st => st = (h - tot l pad i, (i : Int)) ∧ 0 ≤ h - tot l pad i ∧ h - tot l pad i ≤ h ∧ ∀ j, j < i → (l.getD j zP).2.2.1 + 2 * pad ≤ w ∧ 0 ≤ (l.getD j zP).2.2.2 ∧ (l.getD j zP).2.2.2 + 2 * pad ≤ h) _ (fun i st hi hj => ?_) (fun st hj => ?_) ⟨by simp [tot], by simp [tot]; omega, by simp [tot], fun j hj => absurd hj (Nat.not_lt_zero _)⟩
  · obtain ⟨rfl, j1, j2, j3⟩ := hj
    have e0 : w64 (2 * pad) = 2 * pad := w64_id (by omega) (by omega)
    have e1 : w64 (w - 2 * pad) = w - 2 * pad := w64_id (by omega) (by omega)
    have e2 : w64 (h - tot l pad i - 2 * pad) = h - tot l pad i - 2 * pad := w64_id (by omega) (by omega)
    refine ⟨?_, ?_⟩
    · unfold lawRoom_l0_pre
      intro _
      dsimp only
      rw [Int.toNat_natCast]
      exact ⟨by omega, hi, hi, hi, fun _ => n1, fun _ => ⟨by omega, hi, hi, hi, fun _ => n1, fun _ => ⟨by omega, hi, hi, hi, fun _ => n1, fun _ => ⟨by omega, hi, hi, hi⟩⟩⟩⟩
    · unfold lawRoom_l0_step letV
      dsimp only
      rw [if_pos (by omega), Int.toNat_natCast, e0, e1, e2, n2]
      by_cases d1 : (l.getD i zP).2.2.1 > w - 2 * pad
      · rw [if_pos d1]; exact .inr ⟨_, rfl, .inl rfl⟩
      rw [if_neg d1]
      by_cases d2 : (l.getD i zP).2.2.2 > h - tot l pad i - 2 * pad
      · rw [if_pos d2]; exact .inr ⟨_, rfl, .inl rfl⟩
      rw [if_neg d2]
      by_cases d3 : (l.getD i zP).2.2.2 < 0
      · rw [if_pos d3]; exact .inr ⟨_, rfl, .inl rfl⟩
      rw [if_neg d3]
      have ts := tot_succ l pad i
      have hz : (siz (l.getD i zP) pad).2 = (l.getD i zP).2.2.2 + 2 * pad := rfl
      have e3 : w64 (h - tot l pad i - (l.getD i zP).2.2.2) = h - tot l pad i - (l.getD i zP).2.2.2 := w64_id (by omega) (by omega)
      have e4 : w64 (h - tot l pad i - (l.getD i zP).2.2.2 - 2 * pad) = h - tot l pad (i + 1) := by rw [w64_id (by omega) (by omega)]; omega
      refine .inl ⟨_, rfl, ?_, by omega, by omega, fun j hj => ?_⟩
      · rw [show w64 (h - tot l pad i - (l.getD i ([], ([], (0, 0)))).2.2.2) = _ from e3, show w64 (h - tot l pad i - (l.getD i zP).2.2.2 - 2 * pad) = _ from e4, cntI hi (by omega)]
      · rcases Nat.lt_or_ge j i with z | z
        · exact j3 j z
        · have : j = i := by omega
          subst this
          omega
  · obtain ⟨rfl, j1, j2, j3⟩ := hj
    refine ⟨?_, .inr (), ?_, .inr ⟨rfl, by omega, j3⟩⟩
    · unfold lawRoom_l0_pre
      intro q
      dsimp only at q; omega
    · unfold lawRoom_l0_step
      dsimp only
      rw [if_neg (by omega)]
theorem room_pre (w h pad : Int) (l : Pts) : lawRoom_pre (w, (h, (pad, l))) := by
  obtain ⟨g1, g2⟩ := r18big_law l
  obtain ⟨m1, m2⟩ := mapped_law false
  unfold lawRoom_pre
  refine ⟨g1, letP_i fun hb c1 c2 c3 c4 c5 c6 => ?_⟩
  have h12 := g2 (by simpa using hb)
  have key := room_loop l h12 c1 c2 c3 c4 c5 c6
  refine ⟨key.1, letP_i ?_⟩
  rcases key.2 with e | ⟨e, ht, hall⟩
  · exact cS_l e trivial
  · exact cS_r e ⟨(build_law w h pad l h12).1, letP_k _ m1⟩
theorem room_val (w h pad : Int) (l : Pts) : lawRoom (w, (h, (pad, l))) = true := by
  obtain ⟨g1, g2⟩ := r18big_law l
  obtain ⟨m1, m2⟩ := mapped_law false
  unfold lawRoom
  rw [m2]
  unfold letV
  dsimp only
  cases hb : r18big l with
  | true => rfl
  | false =>
    have h12 := g2 hb
    rw [if_neg (by decide)]
    by_cases c1 : w < 1
    · rw [if_pos c1]
    by_cases c2 : w > 256
    · rw [if_neg c1, if_pos c2]
    by_cases c3 : h < 1
    · rw [if_neg c1, if_neg c2, if_pos c3]
    by_cases c4 : h > 256
    · rw [if_neg c1, if_neg c2, if_neg c3, if_pos c4]
    by_cases c5 : pad < 1
    · rw [if_neg c1, if_neg c2, if_neg c3, if_neg c4, if_pos c5]
    by_cases c6 : pad > 8
    · rw [if_neg c1, if_neg c2, if_neg c3, if_neg c4, if_neg c5, if_pos c6]
    rw [if_neg c1, if_neg c2, if_neg c3, if_neg c4, if_neg c5, if_neg c6]
    have key := room_loop l h12 c1 c2 c3 c4 c5 c6
    rcases key.2 with e | ⟨e, ht, hall⟩
    · rw [e]; rfl
    · rw [e]
      have b2 := (build_law w h pad l h12).2
      show (if true = true then ((buildM (w, (h, (pad, l)))).2 != (9 : Int)) else false) = true
      rw [if_pos rfl]
      rcases b2 with ⟨_, e2⟩ | ⟨hN, hR, hno, e2⟩ | ⟨_, _, _, q, R, _, _, e2⟩
      · rw [e2]; rfl
      · exfalso
        obtain ⟨hw, hh, hp⟩ := hN
        have hmem : ∀ p ∈ szs l pad, ∃ j, j < l.length ∧ p = siz (l.getD j zP) pad := fun p hp' => by
          unfold szs at hp'
          obtain ⟨i, hi, rfl⟩ := List.mem_map.1 hp'
          have := (ord_mem l i).1 hi
          exact ⟨i.toNat, by omega, rfl⟩
        have hF : Fits (szs l pad) := fun p hp' => by
          obtain ⟨j, hj, rfl⟩ := hmem p hp'
          have := hall j hj
          unfold siz
          dsimp only
          omega
        refine packL_room (w := w.toNat) (h := h) (by omega) (by omega) (szs l pad) _ 0 (szs_in1 hR hp hF) (fun p hp' => ?_) (skyH_zero w h hw hh) (fun v hv => ?_) (by rw [szs_sum]; omega) (hno hF)
        · obtain ⟨j, hj, rfl⟩ := hmem p hp'
          have := hall j hj
          unfold siz
          dsimp only
          omega
        · have := List.eq_of_mem_replicate hv; omega
      · rw [e2]; rfl
theorem room_law (x : Int × (Int × (Int × Pts))) : lawRoom_pre x ∧ lawRoom x = true := ⟨room_pre x.1 x.2.1 x.2.2.1 x.2.2.2, room_val x.1 x.2.1 x.2.2.1 x.2.2.2⟩
end Go.Proofs.Ytbjfokijjefoeaa
