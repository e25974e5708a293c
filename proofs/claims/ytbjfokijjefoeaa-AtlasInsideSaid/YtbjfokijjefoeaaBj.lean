/- Plain laws: AtlasInside. -/
import Derived.Test.YtbjfokijjefoeaaBg
import Derived.Test.YtbjfokijjefoeaaAj
namespace Go.Proofs.Ytbjfokijjefoeaa
open Go Go.Ev Go.Proofs
set_option linter.unusedVariables false
set_option linter.unusedSimpArgs false
theorem r18big_law (l : Pts) : r18big_pre l ∧ (r18big l = false → l.length ≤ 12) := by
  have key : TR (r18big_l0_step l) (r18big_l0_pre l) (0, 0) fun _ => True := by
    by_cases h12 : l.length ≤ 12
    · refine for_loop l.length (fun i s => s.2 = (i : Int)) _ (fun i s hi hj => ?_) (fun s hj => ?_) rfl
      · obtain ⟨n, z⟩ := s
        dsimp only at hj; subst hj
        refine ⟨?_, ?_⟩
        · unfold r18big_l0_pre letP
          intro _ _
          dsimp only
          rw [Int.toNat_natCast]
          exact ⟨by omega, hi, hi, fun _ => ⟨by omega, hi, hi, hi⟩⟩
        · unfold r18big_l0_step letV
          dsimp only
          rw [if_pos (by omega), if_pos (by omega)]
          split
          · exact .inr ⟨_, rfl, trivial⟩
          · exact .inl ⟨_, rfl, cntI hi (by omega)⟩
      · obtain ⟨n, z⟩ := s
        dsimp only at hj; subst hj
        refine ⟨?_, .inr n, ?_, trivial⟩
        · unfold r18big_l0_pre
          intro q
          dsimp only at q; omega
        · unfold r18big_l0_step
          dsimp only
          rw [if_neg (by omega)]
    · refine TR.stop (r := .inr 0) ?_ ?_ trivial
      · unfold r18big_l0_pre
        intro _ q
        omega
      · unfold r18big_l0_step
        dsimp only
        rw [if_pos (by omega), if_neg (by omega)]
  refine ⟨key.1, ?_⟩
  unfold r18big letV
  dsimp only
  cases run (r18big_l0_step l) (0, 0) with
  | inl a => intro q; cases q
  | inr b =>
    intro q
    have q : (if ((l.length : Nat) : Int) > 12 then true else decide (b > 30)) = false := q
    by_cases c : ((l.length : Nat) : Int) > 12
    · rw [if_pos c] at q; cases q
    · omega
def pk (t : T2) (k : Nat) : P2 := if k = 0 then t.1 else if k = 1 then t.2.1 else t.2.2
theorem six (t : T2) {k : Nat} (h : k < 3) : List.getD [t.1.1, t.1.2, t.2.1.1, t.2.1.2, t.2.2.1, t.2.2.2] (0 + k * 2) 0 = (pk t k).1 ∧ List.getD [t.1.1, t.1.2, t.2.1.1, t.2.1.2, t.2.2.1, t.2.2.2] (0 + k * 2 + 1) 0 = (pk t k).2 := by
  have : k = 0 ∨ k = 1 ∨ k = 2 := by omega
  rcases this with rfl | rfl | rfl <;> exact ⟨rfl, rfl⟩
theorem pk_mem (t : T2) {k : Nat} (h : k < 3) : pk t k ∈ tp t := by
  have : k = 0 ∨ k = 1 ∨ k = 2 := by omega
  rcases this with rfl | rfl | rfl <;> simp [pk, tp]
/-! ### Where the points lie -/
theorem IsPatch.pt {p : Ptc} (h : IsPatch p) {q : P2} (hq : q ∈ pts p.2.1) : (0 ≤ q.1 ∧ q.1 < 16 * p.2.2.1) ∧ 0 ≤ q.2 ∧ q.2 < 16 * p.2.2.2 := by
  have hl := h.len
  have hs := h.same
  rcases (fbox_law p.2.1 (by omega)).2 with ⟨e, _⟩ | ⟨_, e⟩ | ⟨_, hsm, lo, hi, hB, e⟩
  · rw [e] at hq; simp [pts] at hq
  · have := h.ok; rw [e] at this; exact absurd this (by decide)
  · have hz := h.zero
    have hw := h.w
    have hh := h.h
    rw [e] at hz hw hh
    have hz : lo = z2 := hz
    subst hz
    have hw : p.2.2.1 = Sz hi.1 := hw
    have hh : p.2.2.2 = Sz hi.2 := hh
    have b1 := hB.low q hq
    have b2 := hB.high q hq
    obtain ⟨m1, hm1, e1⟩ := hB.h1
    obtain ⟨m2, hm2, e2⟩ := hB.h2
    have s1 := hsm m1 hm1
    have s2 := hsm m2 hm2
    dsimp only [z2] at b1
    have f1 : Sz hi.1 = hi.1 / 16 + 1 := by unfold Sz; rw [if_neg (by omega), if_neg (by omega)]
    have f2 : Sz hi.2 = hi.2 / 16 + 1 := by unfold Sz; rw [if_neg (by omega), if_neg (by omega)]
    rw [hw, hh, f1, f2]
    omega
/-- A point is in the inner part of a rectangle. -/
def Inn (r : Rct) (pad : Int) (p : P2) : Prop := (16 * (r.1 + pad) ≤ p.1 ∧ p.1 < 16 * (r.1 + r.2.2.1 - pad)) ∧ 16 * (r.2.1 + pad) ≤ p.2 ∧ p.2 < 16 * (r.2.1 + r.2.2.2 - pad)
theorem inn_of {a : Atl} (hA : IsAtl a) {j : Nat} (hj : j < a.2.2.2.1.length) {t : T2} (ht : t ∈ moved a.2.2.2.1 a.2.2.2.2 a.2.2.1 j) {k : Nat} (hk : k < 3) : Inn (a.2.2.2.2.getD j zR) a.2.2.1 (pk t k) := by
  obtain ⟨u, hu, rfl⟩ := List.mem_map.1 ht
  have hp := hA.rgt.all _ (getD_in hj zP)
  have hq : pk u k ∈ pts (a.2.2.2.1.getD j zP).2.1 := List.mem_flatMap.2 ⟨u, hu, pk_mem u hk⟩
  have hb := hp.pt hq
  have hway := hA.way hj
  have hs := hA.siz j hj
  have hs1 : (a.2.2.2.2.getD j zR).2.2.1 = (a.2.2.2.1.getD j zP).2.2.1 + 2 * a.2.2.1 := congrArg Prod.fst hs
  have hs2 : (a.2.2.2.2.getD j zR).2.2.2 = (a.2.2.2.1.getD j zP).2.2.2 + 2 * a.2.2.1 := congrArg Prod.snd hs
  have hd := hp.dims
  have e : pk (tmap (fun p => movec (p, wayTo a.2.2.2.2 a.2.2.1 j)) u) k = movec (pk u k, wayTo a.2.2.2.2 a.2.2.1 j) := by
    unfold pk tmap; split <;> (try split) <;> rfl
  rw [e]
  have e2 : movec (pk u k, wayTo a.2.2.2.2 a.2.2.1 j) = ((pk u k).1 + (wayTo a.2.2.2.2 a.2.2.1 j).1, (pk u k).2 + (wayTo a.2.2.2.2 a.2.2.1 j).2) := by
    unfold movec
    dsimp only
    rw [w64_id (n := (pk u k).1 + (wayTo a.2.2.2.2 a.2.2.1 j).1) (by omega) (by omega), w64_id (n := (pk u k).2 + (wayTo a.2.2.2.2 a.2.2.1 j).2) (by omega) (by omega)]
  rw [e2]
  unfold Inn
  dsimp only [wayTo]
  omega
/-- Two points' texels lie more than so many apart. -/
def Far (m : Int) (p q : P2) : Prop := (m < p.1 / 16 - q.1 / 16 ∨ m < q.1 / 16 - p.1 / 16) ∨ (m < p.2 / 16 - q.2 / 16 ∨ m < q.2 / 16 - p.2 / 16)
theorem inn_far {r r' : Rct} {pad : Int} {p q : P2} (hA : ApR r r') (hp : Inn r pad p) (hq : Inn r' pad q) : Far (2 * pad) p q := by
  unfold ApR at hA
  unfold Inn at hp hq
  unfold Far
  omega
def Big0 (p : P2) : Prop := (0 ≤ p.1 ∧ p.1 ≤ 100000) ∧ 0 ≤ p.2 ∧ p.2 ≤ 100000
theorem inn_big {w h : Int} (hw : In1 w) (hh : In1 h) {r : Rct} {pad : Int} {p : P2} (hr : Inb w h r) (h1 : 1 ≤ pad ∧ pad ≤ 8) (hp : Inn r pad p) : Big0 p := by
  obtain ⟨⟨a1, a2⟩, ⟨a3, a4⟩, a5, a6⟩ := hr
  obtain ⟨w1, w2⟩ := hw
  obtain ⟨g1, g2⟩ := hh
  unfold Inn at hp
  unfold Big0
  omega
theorem dif_le {a b : Int} (ha : 0 ≤ a ∧ a ≤ 100000) (hb : 0 ≤ b ∧ b ≤ 100000) (m : Int) : maxI (w64 ((w64 (Int.tdiv a 16)) - (w64 (Int.tdiv b 16)))) (w64 ((0 : Int) - (w64 ((w64 (Int.tdiv a 16)) - (w64 (Int.tdiv b 16)))))) ≤ m ↔ ¬ (m < a / 16 - b / 16 ∨ m < b / 16 - a / 16) := by
  rw [Int.tdiv_eq_ediv_of_nonneg ha.1, Int.tdiv_eq_ediv_of_nonneg hb.1]
  have e1 : w64 (a / 16) = a / 16 := w64_id (by omega) (by omega)
  have e2 : w64 (b / 16) = b / 16 := w64_id (by omega) (by omega)
  rw [e1, e2]
  have e3 : w64 (a / 16 - b / 16) = a / 16 - b / 16 := w64_id (by omega) (by omega)
  rw [e3]
  have e4 : w64 (0 - (a / 16 - b / 16)) = 0 - (a / 16 - b / 16) := w64_id (by omega) (by omega)
  rw [e4]
  have := maxI_le (a / 16 - b / 16) (0 - (a / 16 - b / 16))
  omega
theorem lapart_law {p : P2} {t : T2} {m : Int} (hp : Big0 p) (ht : ∀ k, k < 3 → Big0 (pk t k)) (hf : ∀ k, k < 3 → Far m p (pk t k)) : lapart_pre (p, (t, m)) ∧ lapart (p, (t, m)) = true := by
  have key : TR (lapart_l0_step (p, (t, m))) (lapart_l0_pre (p, (t, m))) 0 fun r => r = .inr () := by
    refine for_loop 3 (fun i s => s = (i : Int)) _ (fun i s hi hj => ?_) (fun s hj => ?_) rfl
    · subst hj
      obtain ⟨x1, x2⟩ := six t hi
      have hb := ht i hi
      have hfar := hf i hi
      refine ⟨?_, .inl ⟨_, ?_, rfl⟩⟩
      · unfold lapart_l0_pre
        intro _
        rw [Int.toNat_natCast]
        omega
      · unfold lapart_l0_step
        dsimp only
        rw [if_pos (by omega), Int.toNat_natCast, Nat.add_zero, x1, x2, cntI (n := 3) hi (by omega)]
        by_cases c1 : m < p.1 / 16 - (pk t i).1 / 16 ∨ m < (pk t i).1 / 16 - p.1 / 16
        · rw [if_neg (fun q => (dif_le hp.1 hb.1 m).1 q c1)]
        · rw [if_pos ((dif_le hp.1 hb.1 m).2 c1), if_neg (fun q => (dif_le hp.2 hb.2 m).1 q (hfar.resolve_left c1))]
    · subst hj
      refine ⟨?_, _, ?_, rfl⟩
      · unfold lapart_l0_pre
        intro q
        omega
      · unfold lapart_l0_step
        rw [if_neg (by omega)]
  refine ⟨key.1, ?_⟩
  unfold lapart letV
  rw [key.2]; rfl
/-! ### Which triangle is of which patch -/
theorem all_at {l : Pts} (hl : Rgt l) (R : List Rct) (pad : Int) : ∀ k, k ≤ l.length → ∀ i, i < (allT l R pad k).length → ∃ j, j < k ∧ (allO l k).getD i 0 = (j : Int) ∧ (allT l R pad k).getD i zT ∈ moved l R pad j := by
  intro k
  induction k with
  | zero => intro _ i hi; simp [allT] at hi
  | succ k ih =>
    intro hk i hi
    obtain ⟨t1, t2, _⟩ := allT_len hl R pad k (by omega)
    have hml := moved_len l R pad k
    rw [allT_succ, List.length_append] at hi
    rw [allT_succ, allO_succ]
    rcases Nat.lt_or_ge i (allT l R pad k).length with h1 | h1
    · obtain ⟨j, g1, g2, g3⟩ := ih (by omega) i h1
      refine ⟨j, by omega, ?_, ?_⟩
      · rw [List.getD_eq_getElem?_getD, List.getElem?_append_left (by omega), ← List.getD_eq_getElem?_getD]; exact g2
      · rw [List.getD_eq_getElem?_getD, List.getElem?_append_left h1, ← List.getD_eq_getElem?_getD]; exact g3
    · refine ⟨k, by omega, ?_, ?_⟩
      · rw [List.getD_eq_getElem?_getD, List.getElem?_append_right (by omega), List.getElem?_replicate, if_pos (by omega)]; rfl
      · rw [List.getD_eq_getElem?_getD, List.getElem?_append_right h1, ← List.getD_eq_getElem?_getD]
        exact getD_in (by omega) _
theorem allO_sorted (l : Pts) : ∀ k, (∀ x ∈ allO l k, x < (k : Int)) ∧ (allO l k).Pairwise (· ≤ ·) := by
  intro k
  induction k with
  | zero => simp [allO]
  | succ k ih =>
    rw [allO_succ]
    refine ⟨fun x hx => ?_, List.pairwise_append.2 ⟨ih.2, ?_, fun x hx y hy => ?_⟩⟩
    · rcases List.mem_append.1 hx with h | h
      · have := ih.1 x h; omega
      · have := List.eq_of_mem_replicate h; omega
    · rw [List.pairwise_replicate]; exact .inr (Int.le_refl _)
    · have := ih.1 x hx
      have := List.eq_of_mem_replicate hy
      omega
theorem sorted_get {l : List Int} (h : l.Pairwise (· ≤ ·)) {i j : Nat} (hij : i < j) (hj : j < l.length) : l.getD i 0 ≤ l.getD j 0 := by
  rw [List.getD_eq_getElem?_getD, List.getD_eq_getElem?_getD, List.getElem?_eq_getElem hj, List.getElem?_eq_getElem (by omega)]
  exact List.pairwise_iff_getElem.1 h i j (by omega) hj hij
section
variable {a : Atl} (hA : IsAtl a) {T : List T2} {O : List Int}
/-- What one knows of all triangles. -/
structure Seen (a : Atl) (T : List T2) (O : List Int) : Prop where
  atl : IsAtl a
  len : T.length = O.length
  small : T.length < 4611686018427387904
  at_ : ∀ i, i < T.length → ∃ j, j < a.2.2.2.1.length ∧ O.getD i 0 = (j : Int) ∧ T.getD i zT ∈ moved a.2.2.2.1 a.2.2.2.2 a.2.2.1 j
  sorted : O.Pairwise (· ≤ ·)
theorem Seen.rect (hS : Seen a T O) {i : Nat} (hi : i < T.length) : ∃ j, j < a.2.2.2.1.length ∧ O.getD i 0 = (j : Int) ∧ Inb a.1 a.2.1 (a.2.2.2.2.getD j zR) ∧ ∀ k, k < 3 → Inn (a.2.2.2.2.getD j zR) a.2.2.1 (pk (T.getD i zT) k) ∧ Big0 (pk (T.getD i zT) k) := by
  obtain ⟨j, h1, h2, h3⟩ := hS.at_ i hi
  have hN := hS.atl.num
  have hr := hS.atl.rect h1
  exact ⟨j, h1, h2, hr, fun k hk => ⟨inn_of hS.atl h1 h3 hk, inn_big hN.1 hN.2.1 hr hN.2.2 (inn_of hS.atl h1 h3 hk)⟩⟩
theorem ins_l4 (hS : Seen a T O) {i : Nat} (hi : i < T.length) {k : Nat} (hk : k < 3) (r : Rct) (kk : Int) : TR (lawIns_l4_step a) (lawIns_l4_pre a) (T, (O, ((i : Int), (r.1, (r.2.1, (r.2.2.1, (r.2.2.2, (kk, ((pk (T.getD i zT) k).1, ((pk (T.getD i zT) k).2, 0))))))))))
    fun z => z = .inr (T, (O, ((i : Int), (r.1, (r.2.1, (r.2.2.1, (r.2.2.2, kk))))))) := by
  have hlen := hS.len
  refine for_loop i (fun n st => st = (T, (O, ((i : Int), (r.1, (r.2.1, (r.2.2.1, (r.2.2.2, (kk, ((pk (T.getD i zT) k).1, ((pk (T.getD i zT) k).2, (n : Int)))))))))))) _ (fun n st hn hj => ?_) (fun st hj => ?_) rfl
  · subst hj
    obtain ⟨j, j1, j2, j3, j4⟩ := hS.rect hi
    obtain ⟨j', k1, k2, k3, k4⟩ := hS.rect (show n < T.length by omega)
    have hN := hS.atl.num
    have hpad : w64 (2 * a.2.2.1) = 2 * a.2.2.1 := w64_id (by have := hN.2.2; omega) (by have := hN.2.2; omega)
    have hap : O.getD n 0 ≠ O.getD i 0 → lapart_pre (((pk (T.getD i zT) k).1, (pk (T.getD i zT) k).2), (T.getD n zT, w64 (2 * a.2.2.1))) ∧ lapart (((pk (T.getD i zT) k).1, (pk (T.getD i zT) k).2), (T.getD n zT, w64 (2 * a.2.2.1))) = true := fun hne => by
      rw [hpad]
      have hjj : j ≠ j' := fun e => hne (by rw [j2, k2, e])
      have hR : ApR (a.2.2.2.2.getD j zR) (a.2.2.2.2.getD j' zR) := by
        have hl := hS.atl.len
        rcases Nat.lt_or_ge j j' with z | z
        · exact (hS.atl.sh j' (by omega)).2 j z
        · exact ((hS.atl.sh j (by omega)).2 j' (by omega)).symm
      exact lapart_law (j4 k hk).2 (fun m hm => (k4 m hm).2) fun m hm => inn_far hR (j4 k hk).1 (k4 m hm).1
    refine ⟨?_, .inl ⟨_, ?_, rfl⟩⟩
    · unfold lawIns_l4_pre
      intro _
      dsimp only
      rw [Int.toNat_natCast, Int.toNat_natCast]
      refine ⟨by omega, by omega, by omega, by omega, by omega, by omega, fun hne => ⟨by omega, by omega, by omega, (hap (by simpa using hne)).1⟩⟩
    · unfold lawIns_l4_step letV
      dsimp only
      rw [if_pos (by omega), Int.toNat_natCast, Int.toNat_natCast, cntI hn (by have := hS.small; omega)]
      by_cases hne : O.getD n 0 = O.getD i 0
      · rw [if_neg (by rw [hne]; simp)]
      · rw [if_pos (by simpa using hne)]
        have e := (hap hne).2
        rw [show lapart (((pk (T.getD i zT) k).1, (pk (T.getD i zT) k).2), (T.getD n ((0, 0), ((0, 0), (0, 0))), w64 (2 * a.2.2.1))) = true from e]
        rfl
  · subst hj
    refine ⟨?_, _, ?_, rfl⟩
    · unfold lawIns_l4_pre
      intro q
      dsimp only at q; omega
    · unfold lawIns_l4_step
      dsimp only
      rw [if_neg (by omega)]
theorem ins_l2 (hS : Seen a T O) {i : Nat} (hi : i < T.length) {j : Nat} (hj : j < a.2.2.2.1.length) (hO : O.getD i 0 = (j : Int)) : TR (lawIns_l2_step a) (lawIns_l2_pre a) (T, (O, ((i : Int), ((a.2.2.2.2.getD j zR).1, ((a.2.2.2.2.getD j zR).2.1, ((a.2.2.2.2.getD j zR).2.2.1, ((a.2.2.2.2.getD j zR).2.2.2, 0)))))))
    fun z => z = .inr (T, (O, (i : Int))) := by
  have hlen := hS.len
  have hN := hS.atl.num
  obtain ⟨j', k1, k2, k3, k4⟩ := hS.rect hi
  have : j' = j := by omega
  subst this
  obtain ⟨⟨a1, a2⟩, ⟨a3, a4⟩, a5, a6⟩ := k3
  obtain ⟨⟨w1, w2⟩, ⟨g1, g2⟩, p1, p2⟩ := hN
  generalize hr : a.2.2.2.2.getD j' zR = r at *
  have e1 : w64 (r.1 + a.2.2.1) = r.1 + a.2.2.1 := w64_id (by omega) (by omega)
  have e2 : w64 (16 * (r.1 + a.2.2.1)) = 16 * (r.1 + a.2.2.1) := w64_id (by omega) (by omega)
  have e3 : w64 (r.1 + r.2.2.1) = r.1 + r.2.2.1 := w64_id (by omega) (by omega)
  have e4 : w64 (r.1 + r.2.2.1 - a.2.2.1) = r.1 + r.2.2.1 - a.2.2.1 := w64_id (by omega) (by omega)
  have e5 : w64 (16 * (r.1 + r.2.2.1 - a.2.2.1)) = 16 * (r.1 + r.2.2.1 - a.2.2.1) := w64_id (by omega) (by omega)
  have f1 : w64 (r.2.1 + a.2.2.1) = r.2.1 + a.2.2.1 := w64_id (by omega) (by omega)
  have f2 : w64 (16 * (r.2.1 + a.2.2.1)) = 16 * (r.2.1 + a.2.2.1) := w64_id (by omega) (by omega)
  have f3 : w64 (r.2.1 + r.2.2.2) = r.2.1 + r.2.2.2 := w64_id (by omega) (by omega)
  have f4 : w64 (r.2.1 + r.2.2.2 - a.2.2.1) = r.2.1 + r.2.2.2 - a.2.2.1 := w64_id (by omega) (by omega)
  have f5 : w64 (16 * (r.2.1 + r.2.2.2 - a.2.2.1)) = 16 * (r.2.1 + r.2.2.2 - a.2.2.1) := w64_id (by omega) (by omega)
  refine for_loop 3 (fun k st => st = (T, (O, ((i : Int), (r.1, (r.2.1, (r.2.2.1, (r.2.2.2, (k : Int))))))))) _ (fun k st hk hj => ?_) (fun st hj => ?_) rfl
  · subst hj
    obtain ⟨x1, x2⟩ := six (T.getD i zT) hk
    have hin := (k4 k hk).1
    unfold Inn at hin
    have h4 := ins_l4 hS hi hk r (k : Int)
    refine ⟨?_, .inl ⟨_, ?_, rfl⟩⟩
    · unfold lawIns_l2_pre
      intro _
      dsimp only
      rw [Int.toNat_natCast, Int.toNat_natCast, x1, x2]
      exact ⟨by omega, hi, by omega, hi, by omega, hi, fun _ _ _ _ => h4.1⟩
    · unfold lawIns_l2_step letV
      dsimp only
      rw [if_pos (by omega), Int.toNat_natCast, Int.toNat_natCast, x1, x2, e1, e2, e3, e4, e5, f1, f2, f3, f4, f5, if_neg (by omega), if_neg (by omega), if_neg (by omega), if_neg (by omega), h4.2]
      show Sum.inl _ = _
      rw [cntI (n := 3) hk (by omega)]
  · subst hj
    refine ⟨?_, _, ?_, rfl⟩
    · unfold lawIns_l2_pre
      intro q
      dsimp only at q; omega
    · unfold lawIns_l2_step
      dsimp only
      rw [if_neg (by omega)]
theorem ins_l0 (hS : Seen a T O) : TR (lawIns_l0_step a) (lawIns_l0_pre a) (T, (O, 0)) fun z => z = .inr () := by
  have hlen := hS.len
  refine for_loop T.length (fun i st => st = (T, (O, (i : Int)))) _ (fun i st hi hj => ?_) (fun st hj => ?_) rfl
  · subst hj
    obtain ⟨j, j1, j2, _⟩ := hS.rect hi
    have h2 := ins_l2 hS hi j1 j2
    have hl := hS.atl.len
    have ep : 0 < i → w64 ((i : Int) - 1) = ((i - 1 : Nat) : Int) := fun h => by rw [w64_id (by omega) (by have := hS.small; omega)]; omega
    have hso : 0 < i → O.getD (i - 1) 0 ≤ O.getD i 0 := fun h => sorted_get hS.sorted (by omega) (by omega)
    refine ⟨?_, .inl ⟨_, ?_, rfl⟩⟩
    · unfold lawIns_l0_pre
      intro _
      dsimp only
      rw [Int.toNat_natCast, j2, Int.toNat_natCast]
      refine ⟨by omega, by omega, by omega, fun _ => ⟨by omega, by omega, by omega, fun _ => ⟨fun hp => ?_, fun hp => ?_⟩⟩⟩
      · have hp : 0 < i := by omega
        rw [ep hp, Int.toNat_natCast]
        exact ⟨by omega, by omega, by omega, by omega, by omega, by omega, fun _ => ⟨by omega, by omega, by omega, by omega, by omega, by omega, h2.1⟩⟩
      · exact ⟨by omega, by omega, by omega, by omega, by omega, by omega, h2.1⟩
    · have hrun : Sum.elim (fun a => (Sum.inr (Sum.inl ()) : (List T2 × (List Int × Int)) ⊕ (Unit ⊕ Unit))) (fun b => (Sum.inl (b.1, (b.2.1, (w64 (b.2.2 + (1 : Int))))))) (run (lawIns_l2_step a) (T, (O, ((i : Int), ((a.2.2.2.2.getD j zR).1, ((a.2.2.2.2.getD j zR).2.1, ((a.2.2.2.2.getD j zR).2.2.1, ((a.2.2.2.2.getD j zR).2.2.2, 0)))))))) = .inl (T, (O, ((i + 1 : Nat) : Int))) := by
        rw [h2.2]
        show Sum.inl _ = _
        rw [cntI hi hS.small]
      unfold lawIns_l0_step letV
      dsimp only
      rw [if_pos (by omega), Int.toNat_natCast, j2, Int.toNat_natCast, if_neg (by omega), if_neg (by omega)]
      by_cases hp : 0 < i
      · rw [if_pos (by omega), ep hp, Int.toNat_natCast, if_neg (by have := hso hp; omega)]
        exact hrun
      · rw [if_neg (by omega)]
        exact hrun
  · subst hj
    refine ⟨?_, _, ?_, rfl⟩
    · unfold lawIns_l0_pre
      intro q
      dsimp only at q; omega
    · unfold lawIns_l0_step
      dsimp only
      rw [if_neg (by omega)]
end
theorem seen_of {a : Atl} (hA : IsAtl a) (hl : a.2.2.2.1.length ≤ 1000000) : Seen a (allT a.2.2.2.1 a.2.2.2.2 a.2.2.1 a.2.2.2.1.length) (allO a.2.2.2.1 a.2.2.2.1.length) := by
  obtain ⟨t1, t2, t3⟩ := allT_len hA.rgt a.2.2.2.2 a.2.2.1 a.2.2.2.1.length (Nat.le_refl _)
  exact ⟨hA, by omega, by omega, all_at hA.rgt a.2.2.2.2 a.2.2.1 _ (Nat.le_refl _), (allO_sorted a.2.2.2.1 _).2⟩
theorem ins_pre (a : Atl) : lawIns_pre a := by
  obtain ⟨g1, g2⟩ := r18big_law a.2.2.2.1
  obtain ⟨m1, m2⟩ := mapped_law false
  unfold lawIns_pre
  refine ⟨g1, letP_i fun hb h30 => ?_⟩
  have h12 := g2 (by simpa using hb)
  obtain ⟨a1, a2⟩ := all_law a (by omega) (by omega)
  refine ⟨a1, letP_i ⟨fun _ => ⟨m1, letP_i fun _ => (is_law a (by omega) (by omega)).1⟩, fun hne _ _ => ?_⟩⟩
  rcases a2 with ⟨_, e⟩ | ⟨hA, e⟩
  · rw [e] at hne; exact absurd rfl hne
  · rw [e]
    have key := ins_l0 (seen_of hA (by omega))
    exact ⟨key.1, letP_i (cS_r key.2 m1)⟩
theorem ins_val (a : Atl) : lawIns a = true := by
  obtain ⟨g1, g2⟩ := r18big_law a.2.2.2.1
  obtain ⟨m1, m2⟩ := mapped_law false
  unfold lawIns
  rw [m2]
  unfold letV
  dsimp only
  cases hb : r18big a.2.2.2.1 with
  | true => rfl
  | false =>
    have h12 := g2 hb
    rw [if_neg (by decide)]
    by_cases h30 : ((a.2.2.2.2.length : Nat) : Int) > 30
    · rw [if_pos h30]
    rw [if_neg h30]
    rcases (all_law a (by omega) (by omega)).2 with ⟨hn, e⟩ | ⟨hA, e⟩
    · rw [e]
      dsimp only
      cases hi : isM a with
      | true => exact absurd ((is_law a (by omega) (by omega)).2.1 hi) hn
      | false => rfl
    · rw [e]
      dsimp only
      obtain ⟨t1, t2, _⟩ := allT_len hA.rgt a.2.2.2.2 a.2.2.1 a.2.2.2.1.length (Nat.le_refl _)
      have key := ins_l0 (seen_of hA (by omega))
      have hl := hA.len
      rw [if_neg (by decide), if_neg (by simp; omega), if_neg (by simp; omega), key.2]
      rfl
theorem inside_law (a : Atl) : lawIns_pre a ∧ lawIns a = true := ⟨ins_pre a, ins_val a⟩
end Go.Proofs.Ytbjfokijjefoeaa
