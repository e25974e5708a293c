/- Plain laws: rows of patches: right, in order. -/
import Derived.Test.YtfgdjlhilladhaaGreatAe
import Derived.Test.YtfgdjlhilladhaaGreatTp
import Derived.Test.YtfgdjlhilladhaaGreatBb
namespace Go.Proofs.YtfgdjlhilladhaaGreat
open Go Go.Ev Go.Proofs
set_option linter.unusedVariables false
set_option linter.unusedSimpArgs false
abbrev zP : Ptc := ([], ([], (0, 0)))
def Num (w h pad : Int) : Prop := In1 w ∧ In1 h ∧ 1 ≤ pad ∧ pad ≤ 8
theorem numbersM_law (w h pad : Int) : numbersM (w, (h, pad)) = true ↔ Num w h pad := by
  unfold numbersM
  dsimp only
  have m1 := minI_le w h
  have m2 := minI_le (minI w h) pad
  have m3 := maxI_le w h
  unfold Num In1
  by_cases c1 : minI (minI w h) pad ≥ 1
  · rw [if_pos c1]
    by_cases c2 : maxI w h ≤ 256
    · rw [if_pos c2, decide_eq_true_eq]; omega
    · rw [if_neg c2]; exact ⟨fun q => (by cases q), fun q => absurd q (by omega)⟩
  · rw [if_neg c1]; exact ⟨fun q => (by cases q), fun q => absurd q (by omega)⟩
/-! ### Right -/
/-- What a map of places tells. -/
def MapOf (m : List (Int × Bool)) (s : List Int) : Prop := ∀ x : Int, lookD (k := yi) m x false = true ↔ x ∈ s
theorem MapOf.nil : MapOf [] [] := fun x => by simp [lookD, lookM]
theorem MapOf.put {m : List (Int × Bool)} {s : List Int} (h : MapOf m s) (x : Int) : MapOf (putM (k := yi) m x true) (s ++ [x]) := by
  have key : ∀ (m : List (Int × Bool)) (y : Int), lookD (k := yi) (putM (k := yi) m x true) y false = if y = x then true else lookD (k := yi) m y false := by
    intro m
    induction m with
    | nil =>
      intro y
      by_cases e : y = x
      · subst e; simp [putM, lookD, lookM, eqT]
      · simp only [putM, lookD, lookM, eqT]
        rw [show (y == x) = false from by simp [e], if_neg e]
    | cons p r ih =>
      intro y
      simp only [putM]
      by_cases e1 : x = p.1
      · have : eqT yi x p.1 = true := by simp [eqT, e1]
        rw [this]
        by_cases e : y = x
        · subst e; simp [lookD, lookM, eqT]
        · simp only [lookD, lookM, eqT]
          rw [show (y == x) = false from by simp [e], show (y == p.1) = false from by simp [← e1, e], if_neg e]
      · have : eqT yi x p.1 = false := by simp [eqT, e1]
        rw [this]
        by_cases e2 : y = p.1
        · have e : ¬ y = x := by omega
          simp [lookD, lookM, eqT, e2, show ¬ p.1 = x by omega]
        · have := ih y
          simp only [lookD, lookM, eqT] at this ⊢
          rw [show ((y == p.1) = false) from by simp [e2]]
          exact this
  intro y
  rw [key]
  by_cases e : y = x
  · simp [e]
  · rw [if_neg e, h y]; simp [e]
abbrev Pts : Type := List Ptc
def Tris (l : Pts) : List Int := l.flatMap Prod.fst
structure Rgt (l : Pts) : Prop where
  all : ∀ p ∈ l, IsPatch p
  once : (Tris l).Nodup
theorem tris_snoc (l : Pts) (p : Ptc) : Tris (l ++ [p]) = Tris l ++ p.1 := by simp [Tris]
theorem right_in (l : Pts) (m : List (Int × Bool)) (s : List Int) (hm : MapOf m s) (hs : s.Nodup) (t : List Int) (ht : t.length < 4611686018427387904) (z : Int) :
    TR (rightR_l2_step l) (rightR_l2_pre l) (m, (z, (t, ((t.length : Int), 0)))) fun r => (r = .inl () ∧ ¬ (s ++ t).Nodup) ∨ (∃ m', r = .inr (m', z) ∧ MapOf m' (s ++ t) ∧ (s ++ t).Nodup) := by
  refine for_loop t.length (fun i st => ∃ m', st = (m', (z, (t, ((t.length : Int), (i : Int))))) ∧ MapOf m' (s ++ t.take i) ∧ (s ++ t.take i).Nodup) _ (fun i st hi hj => ?_) (fun st hj => ?_) ⟨m, rfl, by simpa using hm, by simpa using hs⟩
  · obtain ⟨m', rfl, hM, hN⟩ := hj
    have hsn : s ++ t.take (i + 1) = (s ++ t.take i) ++ [t.getD i 0] := by rw [take_snoc hi 0, List.append_assoc]
    refine ⟨?_, ?_⟩
    · unfold rightR_l2_pre
      intro _
      dsimp only
      rw [Int.toNat_natCast]
      omega
    · unfold rightR_l2_step letV
      dsimp only
      rw [if_pos (by omega), Int.toNat_natCast]
      by_cases hc : lookD (k := yi) m' (t.getD i 0) false = true
      · rw [if_pos hc]
        refine .inr ⟨_, rfl, .inl ⟨rfl, fun hnd => ?_⟩⟩
        have hmem := (hM _).1 hc
        have : t = t.take i ++ (t.getD i 0 :: t.drop (i + 1)) := by
          have := List.take_append_drop i t
          rw [List.drop_eq_getElem_cons hi] at this
          rw [List.getD_eq_getElem?_getD, List.getElem?_eq_getElem hi]
          exact this.symm
        rw [this, ← List.append_assoc] at hnd
        have := (List.nodup_append.1 hnd).2.2 _ hmem _ (List.mem_cons_self ..)
        exact this rfl
      · rw [if_neg hc]
        refine .inl ⟨_, rfl, _, by rw [cntI hi ht], ?_⟩
        · rw [hsn]
          refine ⟨hM.put _, ?_⟩
          rw [List.nodup_append]
          refine ⟨hN, by simp, fun a ha b hb => ?_⟩
          simp only [List.mem_singleton] at hb
          subst hb
          intro e
          subst e
          exact hc ((hM _).2 ha)
  · obtain ⟨m', rfl, hM, hN⟩ := hj
    rw [List.take_length] at hM hN
    refine ⟨?_, _, ?_, .inr ⟨m', rfl, hM, hN⟩⟩
    · unfold rightR_l2_pre
      intro q
      dsimp only at q; omega
    · unfold rightR_l2_step
      dsimp only
      rw [if_neg (by omega)]
theorem right_law (l : Pts) (hl : l.length < 4611686018427387904) : rightR_pre l ∧ (rightR l = true ↔ Rgt l) := by
  have key : TR (rightR_l0_step l) (rightR_l0_pre l) ([], 0) fun r => (r = .inl () ∧ ¬ Rgt l) ∨ (r = .inr () ∧ Rgt l) := by
    refine for_loop l.length (fun i st => ∃ m, st = (m, (i : Int)) ∧ MapOf m (Tris (l.take i)) ∧ Rgt (l.take i)) _ (fun i st hi hj => ?_) (fun st hj => ?_) ⟨[], rfl, MapOf.nil, ⟨by simp, by simp [Tris]⟩⟩
    · obtain ⟨m, rfl, hM, hR⟩ := hj
      have hmem : l.getD i zP ∈ l := getD_in hi _
      have hsn := take_snoc hi zP
      have htr : Tris (l.take (i + 1)) = Tris (l.take i) ++ (l.getD i zP).1 := by rw [hsn, tris_snoc]
      have hsub : ∀ {P : Prop}, (Rgt l → P) → Rgt l → P := fun h => h
      obtain ⟨f1, f2⟩ := fis_law (l.getD i zP)
      cases hf : fis (l.getD i zP) with
      | false =>
        refine ⟨?_, .inr ⟨.inl (), ?_, .inl ⟨rfl, fun q => ?_⟩⟩⟩
        · unfold rightR_l0_pre letP
          intro _
          dsimp only
          rw [Int.toNat_natCast]
          exact ⟨by omega, hi, hi, f1, fun q => absurd (by rw [show fis (l.getD i ([], ([], (0, 0)))) = false from hf]; rfl) q⟩
        · unfold rightR_l0_step letV
          dsimp only
          rw [if_pos (by omega), Int.toNat_natCast, show fis (l.getD i ([], ([], (0, 0)))) = false from hf]
          rfl
        · have := f2.2 (q.all _ hmem); rw [hf] at this; cases this
      | true =>
        have hp := f2.1 hf
        have hlen : (l.getD i zP).1.length < 4611686018427387904 := by have := hp.len; omega
        have hin := right_in l m _ hM hR.once (l.getD i zP).1 hlen (i : Int)
        refine ⟨?_, ?_⟩
        · unfold rightR_l0_pre letP
          intro _
          dsimp only
          rw [Int.toNat_natCast]
          exact ⟨by omega, hi, hi, f1, fun q => hin.1⟩
        · have hst : rightR_l0_step l (m, (i : Int)) = Sum.elim (fun a => (Sum.inr (Sum.inl ()))) (fun b => (Sum.inl (b.1, (w64 (b.2 + (1 : Int)))))) (run (rightR_l2_step l) (m, ((i : Int), ((l.getD i zP).1, ((((l.getD i zP).1.length : Nat) : Int), 0))))) := by
            unfold rightR_l0_step letV
            dsimp only
            rw [if_pos (by omega), Int.toNat_natCast, show fis (l.getD i ([], ([], (0, 0)))) = true from hf]
            rfl
          rcases hin.2 with ⟨e, hn⟩ | ⟨m', e, hM', hN⟩
          · rw [hst, e]
            refine .inr ⟨_, rfl, .inl ⟨rfl, fun q => hn ?_⟩⟩
            rw [← htr]
            have : Tris l = Tris (l.take (i + 1)) ++ Tris (l.drop (i + 1)) := by
              unfold Tris; rw [← List.flatMap_append, List.take_append_drop]
            have h2 := q.once
            rw [this] at h2
            exact (List.nodup_append.1 h2).1
          · rw [hst, e]
            refine .inl ⟨_, rfl, m', ?_, by rw [htr]; exact hM', ⟨fun p hp' => ?_, by rw [htr]; exact hN⟩⟩
            · dsimp only; rw [cntI hi hl]
            · rw [hsn] at hp'
              rcases List.mem_append.1 hp' with h | h
              · exact hR.all p h
              · simp only [List.mem_singleton] at h
                subst h; exact hp
    · obtain ⟨m, rfl, hM, hR⟩ := hj
      rw [List.take_length] at hR
      refine ⟨?_, .inr (), ?_, .inr ⟨rfl, hR⟩⟩
      · unfold rightR_l0_pre
        intro q
        dsimp only at q; omega
      · unfold rightR_l0_step
        dsimp only
        rw [if_neg (by omega)]
  refine ⟨key.1, ?_⟩
  unfold rightR letV
  rcases key.2 with ⟨e, hn⟩ | ⟨e, hy⟩
  · rw [e]; exact ⟨fun q => (by cases q), fun q => absurd q hn⟩
  · rw [e]; exact ⟨fun _ => hy, fun _ => rfl⟩
/-! ### Order -/
end Go.Proofs.YtfgdjlhilladhaaGreat
