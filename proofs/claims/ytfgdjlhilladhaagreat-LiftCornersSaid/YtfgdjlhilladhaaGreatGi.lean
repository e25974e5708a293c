/- Plain laws: texels at a triangle's corners. -/
import Derived.Test.YtfgdjlhilladhaaGreatGf
namespace Go.Proofs.YtfgdjlhilladhaaGreat
open Go Go.Ev Go.Proofs
set_option linter.unusedVariables false
set_option linter.unusedSimpArgs false
/-- All are below. -/
def Bel (m : P2 → Int) (k : Int) (l : List P2) : Bool := l.all fun p => decide (m p < k)
theorem bel_loop (c k : Int) (l : List P2) (hl : l.length < 4611686018427387904) (m : P2 → Int) (step : Int × (Bool × Int) → (Int × (Bool × Int)) ⊕ (Int × Bool)) (hT : Term step (fun _ => True) (c, (true, 0)))
    (h1 : ∀ (i : Nat) (p : P2), l[i]? = some p → step (c, (true, (i : Int))) = .inl (c, (decide (m p < k), w64 ((i : Int) + 1))))
    (h2 : ∀ (i : Nat) (p : P2), l[i]? = some p → step (c, (false, (i : Int))) = .inl (c, (false, w64 ((i : Int) + 1))))
    (h3 : ∀ b, step (c, (b, (l.length : Int))) = .inr (c, b)) : run step (c, (true, 0)) = (c, Bel m k l) := by
  obtain ⟨_, h⟩ := loop_inv (step := step) (pre := fun _ => True) (fun s => ∃ i : Nat, s = (c, (Bel m k (l.take i), (i : Int))) ∧ i ≤ l.length) (fun s => l.length - s.2.2.toNat) (fun r => r = (c, Bel m k l)) (fun s ⟨i, e, hi⟩ => by
    subst e
    refine ⟨trivial, ?_⟩
    rcases Nat.lt_or_ge i l.length with hlt | hge
    · have hg := List.getElem?_eq_getElem hlt
      have hs : step (c, (Bel m k (l.take i), (i : Int))) = .inl (c, (Bel m k (l.take (i + 1)), w64 ((i : Int) + 1))) := by
        rw [List.take_succ_eq_append_getElem hlt]
        have e : Bel m k (l.take i ++ [l[i]]) = (Bel m k (l.take i) && decide (m l[i] < k)) := by unfold Bel; rw [List.all_append, List.all_cons, List.all_nil, Bool.and_true]
        rw [e]
        cases Bel m k (l.take i) with
        | true => rw [h1 i _ hg]; rfl
        | false => rw [h2 i _ hg]; rfl
      refine ⟨fun s' q => ?_, fun r q => ?_⟩
      · rw [hs] at q
        cases q
        rw [cnt hlt hl]
        exact ⟨⟨i + 1, rfl, hlt⟩, by simp only [Int.toNat_natCast]; omega⟩
      · rw [hs] at q; cases q
    · have : i = l.length := by omega
      subst this
      rw [h3, List.take_length]
      exact ⟨fun s' q => (by cases q), fun r q => by cases q; rfl⟩) (c, (true, 0)) ⟨0, rfl, Nat.zero_le _⟩
  exact h
theorem term_true {S R : Type} {step : S → S ⊕ R} {pre : S → Prop} {s : S} (h : Term step pre s) : Term step (fun _ => True) s := by
  induction h with
  | mk s _ _ ih => exact .mk s trivial ih
theorem mapart_law {a b c : P2} (hr : Right a b c) (k : Int) (l : List P2) (hs : ∀ p ∈ l, Sm p) (hl : l.length < 4611686018427387904) :
    mapart ((a, (b, c)), (k, l)) = (Bel (Sd a b c) k l || Bel (Sd b c a) k l || Bel (Sd c a b) k l) := by
  have hT := apart_tm ((a, (b, c)), (k, l)) hl (sg (Det a b c))
  have e1 : run (mapart_l2_13_step ((a, (b, c)), (k, l))) (sg (Det a b c), (true, 0)) = (sg (Det a b c), Bel (Sd a b c) k l) := by
    refine bel_loop _ k l hl _ _ (term_true hT.1) (fun i p hp => ?_) (fun i p hp => ?_) (fun q => ?_)
    · have hlt := lt_of_get hp
      unfold mapart_l2_13_step
      dsimp only [letV]
      rw [if_pos (by omega), if_pos rfl, Int.toNat_natCast, getD_of hp, mside_law _ (hs p (List.mem_of_getElem? hp)) hr.1.1 hr.1.2.1]; rfl
    · have hlt := lt_of_get hp
      unfold mapart_l2_13_step
      dsimp only [letV]
      rw [if_pos (by omega), if_neg (by decide)]
    · unfold mapart_l2_13_step
      dsimp only
      rw [if_neg (by omega)]
  have e2 : run (mapart_l2_16_step ((a, (b, c)), (k, l))) (sg (Det a b c), (true, 0)) = (sg (Det a b c), Bel (Sd b c a) k l) := by
    refine bel_loop _ k l hl _ _ (term_true hT.2.1) (fun i p hp => ?_) (fun i p hp => ?_) (fun q => ?_)
    · have hlt := lt_of_get hp
      unfold mapart_l2_16_step
      dsimp only [letV]
      rw [if_pos (by omega), if_pos rfl, Int.toNat_natCast, getD_of hp, mside_law _ (hs p (List.mem_of_getElem? hp)) hr.1.2.1 hr.1.2.2]
      unfold Sd; rw [det_turn a b c]
    · have hlt := lt_of_get hp
      unfold mapart_l2_16_step
      dsimp only [letV]
      rw [if_pos (by omega), if_neg (by decide)]
    · unfold mapart_l2_16_step
      dsimp only
      rw [if_neg (by omega)]
  have e3 : run (mapart_l2_19_step ((a, (b, c)), (k, l))) (sg (Det a b c), (true, 0)) = (sg (Det a b c), Bel (Sd c a b) k l) := by
    refine bel_loop _ k l hl _ _ (term_true hT.2.2) (fun i p hp => ?_) (fun i p hp => ?_) (fun q => ?_)
    · have hlt := lt_of_get hp
      unfold mapart_l2_19_step
      dsimp only [letV]
      rw [if_pos (by omega), if_pos rfl, Int.toNat_natCast, getD_of hp, mside_law _ (hs p (List.mem_of_getElem? hp)) hr.1.2.2 hr.1.1]
      unfold Sd; rw [det_turn b c a, det_turn a b c]
    · have hlt := lt_of_get hp
      unfold mapart_l2_19_step
      dsimp only [letV]
      rw [if_pos (by omega), if_neg (by decide)]
    · unfold mapart_l2_19_step
      dsimp only
      rw [if_neg (by omega)]
  unfold mapart
  dsimp only [letV]
  rw [sside_law, if_pos hr.1]
  dsimp only
  rw [e1]
  dsimp only
  rw [e2]
  dsimp only
  rw [e3]
  dsimp only
  generalize Bel (Sd a b c) k l = x
  generalize Bel (Sd b c a) k l = y
  generalize Bel (Sd c a b) k l = z
  cases x <;> cases y <;> cases z <;> rfl
def pk (t : T2) (k : Nat) : P2 := if k = 0 then t.1 else if k = 1 then t.2.1 else t.2.2
theorem pk_mem (t : T2) {k : Nat} (h : k < 3) : pk t k ∈ tp t := by
  have : k = 0 ∨ k = 1 ∨ k = 2 := by omega
  rcases this with rfl | rfl | rfl <;> simp [pk, tp]
/-! ### A texel's square -/
def Sq4 (X Y : Int) : List P2 := [(X, Y), (X + 16, Y), (X + 16, Y + 16), (X, Y + 16)]
def Near4 (X Y : Int) (t : T2) : Prop := (minI (minI t.1.1 t.2.1.1) t.2.2.1 ≤ X + 16 ∧ X ≤ maxI (maxI t.1.1 t.2.1.1) t.2.2.1) ∧ minI (minI t.1.2 t.2.1.2) t.2.2.2 ≤ Y + 16 ∧ Y ≤ maxI (maxI t.1.2 t.2.1.2) t.2.2.2
theorem cov_law {x y : Nat} (hx : x < 256) (hy : y < 256) {t : T2} (hr : mright t = true) :
    (cov x y t = true ↔ Near4 (16 * (x : Int)) (16 * (y : Int)) t ∧ mapart (t, (0, Sq4 (16 * (x : Int)) (16 * (y : Int)))) = false) := by
  have m1 := minI_le (x : Int) (y : Int)
  have m2 := maxI_le (x : Int) (y : Int)
  have e1 : w64 (16 * (x : Int)) = 16 * (x : Int) := w64_id (by omega) (by omega)
  have e2 : w64 (16 * (y : Int)) = 16 * (y : Int) := w64_id (by omega) (by omega)
  have e3 : w64 (16 * (x : Int) + 16) = 16 * (x : Int) + 16 := w64_id (by omega) (by omega)
  have e4 : w64 (16 * (y : Int) + 16) = 16 * (y : Int) + 16 := w64_id (by omega) (by omega)
  have s1 : Sm (16 * (x : Int), 16 * (y : Int)) := by unfold Sm; dsimp only; omega
  have s2 : Sm (16 * (x : Int) + 16, 16 * (y : Int) + 16) := by unfold Sm; dsimp only; omega
  unfold cov rcovers letV
  dsimp only
  rw [if_neg (by omega), if_neg (by omega), hr, if_neg (by decide), e1, e2]
  unfold msquare letV
  dsimp only
  rw [e3, e4, small2_one, small2_one, decide_eq_true s1, decide_eq_true s2, hr, if_neg (by decide), if_neg (by decide), if_neg (by decide), if_neg (by decide), if_neg (by decide)]
  unfold Near4
  by_cases c1 : minI (minI t.1.1 t.2.1.1) t.2.2.1 ≤ 16 * (x : Int) + 16
  · rw [if_pos c1]
    by_cases c2 : maxI (maxI t.1.1 t.2.1.1) t.2.2.1 ≥ 16 * (x : Int)
    · rw [if_pos c2]
      by_cases c3 : minI (minI t.1.2 t.2.1.2) t.2.2.2 ≤ 16 * (y : Int) + 16
      · rw [if_pos c3]
        by_cases c4 : maxI (maxI t.1.2 t.2.1.2) t.2.2.2 ≥ 16 * (y : Int)
        · rw [if_pos c4]
          unfold Sq4
          dsimp only
          rw [Bool.not_eq_true']
          exact ⟨fun q => ⟨⟨⟨c1, c2⟩, c3, c4⟩, q⟩, fun q => q.2⟩
        · rw [if_neg c4]
          exact ⟨fun q => (by cases q), fun q => absurd q.1.2.2 c4⟩
      · rw [if_neg c3]
        exact ⟨fun q => (by cases q), fun q => absurd q.1.2.1 c3⟩
    · rw [if_neg c2]
      split <;> exact ⟨fun q => (by cases q), fun q => absurd q.1.1.2 c2⟩
  · rw [if_neg c1]
    split <;> exact ⟨fun q => (by cases q), fun q => absurd q.1.1.1 c1⟩
/-! ### A corner's texel is covered -/
theorem sg_mul (m n : Int) : sg m * sg n < 0 ↔ sg m * n < 0 := by
  rcases sg_cases m with ⟨_, e⟩ | ⟨_, e⟩ | ⟨_, e⟩ <;> rcases sg_cases n with ⟨_, f⟩ | ⟨_, f⟩ | ⟨_, f⟩ <;> rw [e, f] <;> omega
theorem in_sq {α β γ X Y u v : Int} (hu : X ≤ u ∧ u < X + 16) (hv : Y ≤ v ∧ v < Y + 16)
    (h1 : α + β * X + γ * Y < 0) (h2 : α + β * (X + 16) + γ * Y < 0) (h3 : α + β * (X + 16) + γ * (Y + 16) < 0) (h4 : α + β * X + γ * (Y + 16) < 0) : α + β * u + γ * v < 0 := by
  rcases Int.le_total 0 β with hb | hb <;> rcases Int.le_total 0 γ with hc | hc
  · have m1 := Int.mul_nonneg hb (show 0 ≤ X + 16 - u by omega)
    have m2 := Int.mul_nonneg hc (show 0 ≤ Y + 16 - v by omega)
    rw [Int.mul_sub] at m1 m2
    omega
  · have m1 := Int.mul_nonneg hb (show 0 ≤ X + 16 - u by omega)
    have m2 := Int.mul_nonneg (show 0 ≤ -γ by omega) (show 0 ≤ v - Y by omega)
    rw [Int.mul_sub] at m1 m2
    rw [Int.neg_mul, Int.neg_mul] at m2
    omega
  · have m1 := Int.mul_nonneg (show 0 ≤ -β by omega) (show 0 ≤ u - X by omega)
    have m2 := Int.mul_nonneg hc (show 0 ≤ Y + 16 - v by omega)
    rw [Int.mul_sub] at m1 m2
    rw [Int.neg_mul, Int.neg_mul] at m1
    omega
  · have m1 := Int.mul_nonneg (show 0 ≤ -β by omega) (show 0 ≤ u - X by omega)
    have m2 := Int.mul_nonneg (show 0 ≤ -γ by omega) (show 0 ≤ v - Y by omega)
    rw [Int.mul_sub] at m1 m2
    rw [Int.neg_mul, Int.neg_mul] at m1 m2
    omega
theorem det_affine (s : Int) (a b p : P2) : s * Det a b p = (s * ((b.2 - a.2) * a.1) - s * ((b.1 - a.1) * a.2)) + (-(s * (b.2 - a.2))) * p.1 + (s * (b.1 - a.1)) * p.2 := by
  unfold Det; grind
/-- Of an edge on whose inner side a point is not all corners of a square around it lie outside. -/
theorem bel_false {a b c p : P2} {X Y : Int} (hu : X ≤ p.1 ∧ p.1 < X + 16) (hv : Y ≤ p.2 ∧ p.2 < Y + 16) (h : ¬ sg (Det a b c) * Det a b p < 0) : Bel (Sd a b c) 0 (Sq4 X Y) = false := by
  cases hb : Bel (Sd a b c) 0 (Sq4 X Y) with
  | false => rfl
  | true =>
    unfold Bel Sq4 Sd at hb
    simp only [List.all_cons, List.all_nil, Bool.and_eq_true, decide_eq_true_eq, Bool.and_true, sg_mul, det_affine] at hb
    obtain ⟨h1, h2, h3, h4⟩ := hb
    rw [det_affine] at h
    exact absurd (in_sq hu hv h1 h2 h3 h4) h
theorem det_self1 (a b : P2) : Det a b a = 0 := by unfold Det; grind
theorem det_self2 (a b : P2) : Det a b b = 0 := by unfold Det; grind
theorem sg_self_nn (n : Int) : 0 ≤ sg n * n := by
  rcases sg_cases n with ⟨_, e⟩ | ⟨_, e⟩ | ⟨_, e⟩ <;> rw [e] <;> omega
theorem corner_cov {x y : Nat} (hx : x < 256) (hy : y < 256) {t : T2} (hr : mright t = true) {k : Nat} (hk : k < 3)
    (hu : 16 * (x : Int) ≤ (pk t k).1 ∧ (pk t k).1 < 16 * (x : Int) + 16) (hv : 16 * (y : Int) ≤ (pk t k).2 ∧ (pk t k).2 < 16 * (y : Int) + 16) : cov x y t = true := by
  obtain ⟨a, b, c⟩ := t
  have hR : Right a b c := by
    rw [mright_law] at hr
    exact of_decide_eq_true hr
  rw [cov_law hx hy hr]
  have m1 := minI_le a.1 b.1
  have m2 := minI_le (minI a.1 b.1) c.1
  have m3 := maxI_le a.1 b.1
  have m4 := maxI_le (maxI a.1 b.1) c.1
  have m5 := minI_le a.2 b.2
  have m6 := minI_le (minI a.2 b.2) c.2
  have m7 := maxI_le a.2 b.2
  have m8 := maxI_le (maxI a.2 b.2) c.2
  have hin : pk (a, (b, c)) k = a ∨ pk (a, (b, c)) k = b ∨ pk (a, (b, c)) k = c := by
    have : k = 0 ∨ k = 1 ∨ k = 2 := by omega
    rcases this with rfl | rfl | rfl
    · exact .inl rfl
    · exact .inr (.inl rfl)
    · exact .inr (.inr rfl)
  have hsm : ∀ p ∈ Sq4 (16 * (x : Int)) (16 * (y : Int)), Sm p := by
    intro p hp
    simp only [Sq4, List.mem_cons, List.not_mem_nil, or_false] at hp
    rcases hp with rfl | rfl | rfl | rfl <;> (unfold Sm; dsimp only; omega)
  refine ⟨?_, ?_⟩
  · unfold Near4
    dsimp only
    rcases hin with e | e | e <;> rw [e] at hu hv <;> omega
  · rw [mapart_law hR 0 _ hsm (by simp [Sq4])]
    have n1 : ¬ sg (Det a b c) * Det a b (pk (a, (b, c)) k) < 0 := by
      rcases hin with e | e | e <;> rw [e]
      · rw [det_self1]; omega
      · rw [det_self2]; omega
      · have := sg_self_nn (Det a b c); omega
    have n2 : ¬ sg (Det b c a) * Det b c (pk (a, (b, c)) k) < 0 := by
      rcases hin with e | e | e <;> rw [e]
      · have := sg_self_nn (Det b c a); omega
      · rw [det_self1]; omega
      · rw [det_self2]; omega
    have n3 : ¬ sg (Det c a b) * Det c a (pk (a, (b, c)) k) < 0 := by
      rcases hin with e | e | e <;> rw [e]
      · rw [det_self2]; omega
      · have := sg_self_nn (Det c a b); omega
      · rw [det_self1]; omega
    rw [bel_false hu hv n1, bel_false hu hv n2, bel_false hu hv n3]; rfl
/-! ### Triangles and their patches -/
theorem IsPatch.pt {p : Ptc} (h : IsPatch p) {q : P2} (hq : q ∈ pts p.2.1) : (0 ≤ q.1 ∧ q.1 < 16 * p.2.2.1) ∧ 0 ≤ q.2 ∧ q.2 < 16 * p.2.2.2 := by
  have hl := h.len
  have hs := h.same
  rcases (fbox_law p.2.1 (by omega)).2 with ⟨e, _⟩ | ⟨_, e⟩ | ⟨_, hsm, lo, hi, hB, e⟩
  · rw [e] at hq; simp [pts] at hq
  · have := h.ok; rw [e] at this; exact absurd this (by decide)
  · have hz := h.zero
    have hw := h.w
    have hh := h.h
    rw [e] at hz hw hh
    have hz : lo = z2 := hz
    subst hz
    have hw : p.2.2.1 = Sz hi.1 := hw
    have hh : p.2.2.2 = Sz hi.2 := hh
    have b1 := hB.low q hq
    have b2 := hB.high q hq
    obtain ⟨m1, hm1, e1⟩ := hB.h1
    obtain ⟨m2, hm2, e2⟩ := hB.h2
    have s1 := hsm m1 hm1
    have s2 := hsm m2 hm2
    dsimp only [z2] at b1
    have f1 : Sz hi.1 = hi.1 / 16 + 1 := by unfold Sz; rw [if_neg (by omega), if_neg (by omega)]
    have f2 : Sz hi.2 = hi.2 / 16 + 1 := by unfold Sz; rw [if_neg (by omega), if_neg (by omega)]
    rw [hw, hh, f1, f2]
    omega
/-- A point is in the inner part of a rectangle. -/
def Inn (r : Rct) (pad : Int) (p : P2) : Prop := (16 * (r.1 + pad) ≤ p.1 ∧ p.1 < 16 * (r.1 + r.2.2.1 - pad)) ∧ 16 * (r.2.1 + pad) ≤ p.2 ∧ p.2 < 16 * (r.2.1 + r.2.2.2 - pad)
theorem inn_of {a : Atl} (hA : IsAtl a) {j : Nat} (hj : j < a.2.2.2.1.length) {t : T2} (ht : t ∈ moved a.2.2.2.1 a.2.2.2.2 a.2.2.1 j) {k : Nat} (hk : k < 3) : Inn (a.2.2.2.2.getD j zR) a.2.2.1 (pk t k) := by
  obtain ⟨u, hu, rfl⟩ := List.mem_map.1 ht
  have hp := hA.rgt.all _ (getD_in hj zP)
  have hq : pk u k ∈ pts (a.2.2.2.1.getD j zP).2.1 := List.mem_flatMap.2 ⟨u, hu, pk_mem u hk⟩
  have hb := hp.pt hq
  have hway := hA.way hj
  have hs := hA.siz j hj
  have hs1 : (a.2.2.2.2.getD j zR).2.2.1 = (a.2.2.2.1.getD j zP).2.2.1 + 2 * a.2.2.1 := congrArg Prod.fst hs
  have hs2 : (a.2.2.2.2.getD j zR).2.2.2 = (a.2.2.2.1.getD j zP).2.2.2 + 2 * a.2.2.1 := congrArg Prod.snd hs
  have hd := hp.dims
  have e : pk (tmap (fun p => movec (p, wayTo a.2.2.2.2 a.2.2.1 j)) u) k = movec (pk u k, wayTo a.2.2.2.2 a.2.2.1 j) := by
    unfold pk tmap; split <;> (try split) <;> rfl
  rw [e]
  have e2 : movec (pk u k, wayTo a.2.2.2.2 a.2.2.1 j) = ((pk u k).1 + (wayTo a.2.2.2.2 a.2.2.1 j).1, (pk u k).2 + (wayTo a.2.2.2.2 a.2.2.1 j).2) := by
    unfold movec
    dsimp only
    rw [w64_id (n := (pk u k).1 + (wayTo a.2.2.2.2 a.2.2.1 j).1) (by omega) (by omega), w64_id (n := (pk u k).2 + (wayTo a.2.2.2.2 a.2.2.1 j).2) (by omega) (by omega)]
  rw [e2]
  unfold Inn
  dsimp only [wayTo]
  omega
theorem all_at {l : Pts} (hl : Rgt l) (R : List Rct) (pad : Int) : ∀ k, k ≤ l.length → ∀ i, i < (allT l R pad k).length → ∃ j, j < k ∧ (allO l k).getD i 0 = (j : Int) ∧ (allT l R pad k).getD i zT ∈ moved l R pad j ∧ (Tris (l.take k)).getD i 0 ∈ (l.getD j zP).1 := by
  intro k
  induction k with
  | zero => intro _ i hi; simp [allT] at hi
  | succ k ih =>
    intro hk i hi
    obtain ⟨t1, t2, _⟩ := allT_len hl R pad k (by omega)
    have hm := moved_len l R pad k
    have hs := (hl.all _ (getD_in (show k < l.length by omega) zP)).same
    rw [allT_succ, List.length_append] at hi
    rw [allT_succ, allO_succ, take_snoc (show k < l.length by omega) zP, tris_snoc]
    simp only [List.getD_eq_getElem?_getD]
    rcases Nat.lt_or_ge i (allT l R pad k).length with h1 | h1
    · obtain ⟨j, j1, j2, j3, j4⟩ := ih (by omega) i h1
      rw [List.getElem?_append_left (by omega), List.getElem?_append_left (by omega), List.getElem?_append_left (by omega)]
      simp only [List.getD_eq_getElem?_getD] at j2 j3 j4
      exact ⟨j, by omega, j2, j3, j4⟩
    · refine ⟨k, by omega, ?_, ?_, ?_⟩
      · rw [List.getElem?_append_right (by omega), List.getElem?_replicate, if_pos (by rw [← List.getD_eq_getElem?_getD]; omega)]; rfl
      · rw [List.getElem?_append_right (by omega), List.getElem?_eq_getElem (by omega)]
        exact List.getElem_mem _
      · rw [List.getElem?_append_right (by omega), List.getElem?_eq_getElem (show i - (Tris (l.take k)).length < (l[k]?.getD zP).1.length by
          rw [← List.getD_eq_getElem?_getD]; omega)]
        exact List.getElem_mem _
theorem ap_of {a : Atl} (hA : IsAtl a) {i j : Nat} (hi : i < a.2.2.2.1.length) (hj : j < a.2.2.2.1.length) (hne : i ≠ j) : ApR (a.2.2.2.2.getD i zR) (a.2.2.2.2.getD j zR) := by
  have hl := hA.len
  rcases Nat.lt_or_gt_of_ne hne with h | h
  · exact (hA.sh j (by omega)).2 i h
  · exact ((hA.sh i (by omega)).2 j h).symm
/-- Where a corner's texel is, another patch's triangle covers nothing. -/
theorem far_cov {r r' : Rct} {pad : Int} (hp : 1 ≤ pad) (hA : ApR r r') {p : P2} (h1 : Inn r pad p) {t : T2} (h2 : ∀ k, k < 3 → Inn r' pad (pk t k)) {X Y : Int} (hu : X ≤ p.1 ∧ p.1 < X + 16) (hv : Y ≤ p.2 ∧ p.2 < Y + 16) (hn : Near4 X Y t) : False := by
  have a1 : Inn r' pad t.1 := h2 0 (by omega)
  have a2 : Inn r' pad t.2.1 := h2 1 (by omega)
  have a3 : Inn r' pad t.2.2 := h2 2 (by omega)
  unfold Inn at a1 a2 a3 h1
  unfold ApR at hA
  unfold Near4 at hn
  have m1 := minI_le t.1.1 t.2.1.1
  have m2 := minI_le (minI t.1.1 t.2.1.1) t.2.2.1
  have m3 := maxI_le t.1.1 t.2.1.1
  have m4 := maxI_le (maxI t.1.1 t.2.1.1) t.2.2.1
  have m5 := minI_le t.1.2 t.2.1.2
  have m6 := minI_le (minI t.1.2 t.2.1.2) t.2.2.2
  have m7 := maxI_le t.1.2 t.2.1.2
  have m8 := maxI_le (maxI t.1.2 t.2.1.2) t.2.2.2
  generalize minI (minI t.1.1 t.2.1.1) t.2.2.1 = u1 at *
  generalize maxI (maxI t.1.1 t.2.1.1) t.2.2.1 = u2 at *
  generalize minI (minI t.1.2 t.2.1.2) t.2.2.2 = u3 at *
  generalize maxI (maxI t.1.2 t.2.1.2) t.2.2.2 = u4 at *
  omega
end Go.Proofs.YtfgdjlhilladhaaGreat
