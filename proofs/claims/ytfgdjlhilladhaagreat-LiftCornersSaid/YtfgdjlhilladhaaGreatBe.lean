/- Plain laws: atlases: all triangles; one is found. -/
import Derived.Test.YtfgdjlhilladhaaGreatBd
import Derived.Test.YtfgdjlhilladhaaGreatAe
namespace Go.Proofs.YtfgdjlhilladhaaGreat
open Go Go.Ev Go.Proofs
set_option linter.unusedVariables false
set_option linter.unusedSimpArgs false
/-! ### Again and again -/
theorem low32 {n : Nat} (h : n < 4294967296) : (BitVec.toNat ((BitVec.ofInt 64 (n : Int)) &&& (BitVec.ofInt 64 (4294967295 : Int)))) = n := by
  have e1 : (BitVec.ofInt 64 (n : Int)).toNat = n := by
    rw [BitVec.toNat_ofInt]; omega
  have e2 : (BitVec.ofInt 64 (4294967295 : Int)).toNat = 2 ^ 32 - 1 := by decide
  rw [BitVec.toNat_and, e1, e2, Nat.and_two_pow_sub_one_eq_mod]
  omega
theorem bmul_law {n : Nat} (h : n < 4294967296) : bmulM (1, (n : Int)) = (0, (n : Int)) := by
  have f1 : Int.fdiv 1 4294967296 = 0 := by decide
  have f2 : Int.fdiv (n : Int) 4294967296 = 0 := by rw [Int.fdiv_eq_ediv_of_nonneg _ (by decide)]; omega
  have l1 : (BitVec.toNat ((BitVec.ofInt 64 (1 : Int)) &&& (BitVec.ofInt 64 (4294967295 : Int)))) = 1 := low32 (n := 1) (by decide)
  have w0 : IntKind.wrap IntKind.u64 0 = 0 := wrap64 (by decide) (by decide)
  have w1' : IntKind.wrap IntKind.u64 1 = 1 := wrap64 (by decide) (by decide)
  have wn : IntKind.wrap IntKind.u64 (n : Int) = (n : Int) := wrap64 (by omega) (by omega)
  have z : (BitVec.toNat ((BitVec.ofInt 64 (0 : Int)) &&& (BitVec.ofInt 64 (4294967295 : Int)))) = 0 := low32 (n := 0) (by decide)
  unfold bmulM mul64M letV
  dsimp only
  simp only [f1, f2, low32 h, l1, Int.zero_mul, Int.mul_zero, Int.one_mul, Int.zero_add, Int.add_zero, w0, wn, z, Int.natCast_zero, Int.natCast_one, w1', show Int.fdiv 0 4294967296 = 0 from by decide]
def rep (c m : Nat) (i : Int) : List Int := List.replicate c i ++ List.replicate (m - c) 0
theorem rep_len {c m : Nat} (h : c ≤ m) (i : Int) : (rep c m i).length = m := by simp only [rep, List.length_append, List.length_replicate]; omega
theorem rep_copy {c m : Nat} (h : c ≤ m) (i : Int) : copyL (rep c m i) c (m - c) ((rep c m i).take c) = rep (c + min c (m - c)) m i ∧ copyN (m - c) ((rep c m i).take c).length = min c (m - c) := by
  have e1 : (rep c m i).take c = List.replicate c i := by simp [rep]
  have e2 : copyN (m - c) (List.replicate c i).length = min c (m - c) := by unfold copyN; rw [List.length_replicate]
  rw [e1, e2]
  refine ⟨?_, rfl⟩
  unfold copyL
  rw [e1, e2]
  unfold rep
  rw [List.take_replicate, show min (min c (m - c)) c = min c (m - c) by omega, List.replicate_append_replicate, List.drop_append, List.length_replicate, List.drop_replicate, List.drop_replicate, show c - (c + min c (m - c)) = 0 by omega]
  simp only [List.replicate_zero, List.nil_append]
  rw [show m - c - (c + min c (m - c) - c) = m - (c + min c (m - c)) by omega]
theorem repeat_loop (x : List Int × Int) (i : Int) (m : Nat) (hm : m ≤ 1000000000) : ∀ k c, c + k = m → (0 < c ∨ k = 0) → TR (repeatM_l0_step x) (repeatM_l0_pre x) (rep c m i, (c : Int)) fun r => r = List.replicate m i := by
  intro k
  induction k using Nat.strongRecOn with
  | ind k ih =>
    intro c hc h0
    have hl := rep_len (c := c) (m := m) (by omega) i
    by_cases hk : k = 0
    · subst hk
      have : c = m := by omega
      subst this
      refine TR.stop (r := rep c c i) ?_ ?_ (by simp [rep])
      · unfold repeatM_l0_pre
        intro q
        dsimp only at q; rw [hl] at q; omega
      · unfold repeatM_l0_step
        dsimp only
        rw [hl, if_neg (by omega)]
    · obtain ⟨q1, q2⟩ := rep_copy (c := c) (m := m) (by omega) i
      refine TR.go (s' := (rep (c + min c (m - c)) m i, ((c + min c (m - c) : Nat) : Int))) ?_ ?_ (ih (k - min c (m - c)) (by omega) _ (by omega) (by omega))
      · unfold repeatM_l0_pre
        intro _
        dsimp only
        rw [hl]; omega
      · unfold repeatM_l0_step letV
        dsimp only
        rw [hl, if_pos (by omega), Int.toNat_natCast, Nat.add_zero, q1, q2, w64_id (by omega) (by omega)]
        congr 2
theorem repeat_law (i : Int) {n : Nat} (hn : n ≤ 1000000000) : repeatM_pre ([i], (n : Int)) ∧ repeatM ([i], (n : Int)) = List.replicate n i := by
  have e1 : IntKind.wrap IntKind.u64 ((([i] : List Int).length : Nat) : Int) = 1 := wrap64 (by simp) (by simp)
  have e2 : IntKind.wrap IntKind.u64 ((n : Nat) : Int) = (n : Int) := wrap64 (by omega) (by omega)
  have e3 : w64 ((n : Nat) : Int) = (n : Int) := w64_id (by omega) (by omega)
  have e4 : copyL (List.replicate n (0 : Int)) 0 n [i] = rep (min 1 n) n i ∧ copyN n 1 = min 1 n := by
    refine ⟨?_, rfl⟩
    unfold copyL
    show _ ++ List.take (min 1 n) [i] ++ List.drop (0 + min 1 n) _ = _
    cases n with
    | zero => rfl
    | succ n => simp [rep, show min 1 (n + 1) = 1 by omega]
  have key := repeat_loop ([i], (n : Int)) i n hn (n - min 1 n) (min 1 n) (by omega) (by omega)
  unfold repeatM_pre repeatM letP letV
  dsimp only
  rw [e1, e2, bmul_law (by omega)]
  dsimp only
  rw [e3, Int.toNat_natCast, List.length_replicate]
  simp only [List.length_cons, List.length_nil, Nat.zero_add]
  rw [e4.1, e4.2]
  refine ⟨⟨fun q => absurd q (by omega), fun _ => ⟨fun q => absurd q (by omega), fun _ => ⟨fun q => absurd q (by omega), fun _ => ⟨⟨⟨by omega, by omega⟩, by omega⟩, key.1⟩⟩⟩⟩, ?_⟩
  rw [if_neg (by omega), if_neg (by omega), if_neg (by omega)]
  exact key.2
theorem index_law (l : List Int) (hl : l.length < 4611686018427387904) (t : Int) : indexI_pre (l, t) ∧ indexI (l, t) = match l.findIdx? (fun x => t == x) with | some i => (i : Int) | none => -1 :=
  index_loop l hl (fun x => t == x) (indexI_l0_step (l, t)) (indexI_l0_pre (l, t)) (fun i hi => by
      unfold indexI_l0_pre
      intro h
      simp only [Int.toNat_natCast]
      dsimp only at h ⊢; omega) (fun i x hx => by
      have hlt := lt_of_get hx
      unfold indexI_l0_step
      rw [if_pos (by dsimp only; omega), Int.toNat_natCast]
      dsimp only
      rw [getD_of hx]) (by
      unfold indexI_l0_step
      rw [if_neg (by dsimp only; omega)])
/-! ### All -/
def wayTo (R : List Rct) (pad : Int) (i : Nat) : Int × Int := (16 * ((R.getD i zR).1 + pad), 16 * ((R.getD i zR).2.1 + pad))
noncomputable def moved (l : Pts) (R : List Rct) (pad : Int) (i : Nat) : List T2 := (l.getD i zP).2.1.map (tmap fun p => movec (p, wayTo R pad i))
noncomputable def allT (l : Pts) (R : List Rct) (pad : Int) (k : Nat) : List T2 := (List.range k).flatMap (moved l R pad)
def allO (l : Pts) (k : Nat) : List Int := (List.range k).flatMap fun i => List.replicate (l.getD i zP).2.1.length (i : Int)
theorem allT_succ (l : Pts) (R : List Rct) (pad : Int) (k : Nat) : allT l R pad (k + 1) = allT l R pad k ++ moved l R pad k := by simp [allT, List.range_succ]
theorem allO_succ (l : Pts) (k : Nat) : allO l (k + 1) = allO l k ++ List.replicate (l.getD k zP).2.1.length (k : Int) := by simp [allO, List.range_succ]
theorem moved_len (l : Pts) (R : List Rct) (pad : Int) (i : Nat) : (moved l R pad i).length = (l.getD i zP).2.1.length := by simp [moved]
theorem allT_len {l : Pts} (hl : Rgt l) (R : List Rct) (pad : Int) : ∀ k, k ≤ l.length → (allT l R pad k).length = (Tris (l.take k)).length ∧ (allO l k).length = (Tris (l.take k)).length ∧ (allT l R pad k).length ≤ 500 * k := by
  intro k
  induction k with
  | zero => intro _; simp [allT, allO, Tris]
  | succ k ih =>
    intro hk
    have hp := hl.all _ (getD_in (show k < l.length by omega) zP)
    have h1 := hp.len
    have h2 := hp.same
    obtain ⟨i1, i2, i3⟩ := ih (by omega)
    rw [allT_succ, allO_succ, take_snoc (show k < l.length by omega) zP, tris_snoc]
    simp only [List.length_append, moved_len, List.length_replicate]
    omega
theorem IsAtl.rect {a : Atl} (h : IsAtl a) {i : Nat} (hi : i < a.2.2.2.1.length) : Inb a.1 a.2.1 (a.2.2.2.2.getD i zR) := (h.sh i (by rw [h.len]; exact hi)).1
theorem IsAtl.way {a : Atl} (h : IsAtl a) {i : Nat} (hi : i < a.2.2.2.1.length) : 0 ≤ (wayTo a.2.2.2.2 a.2.2.1 i).1 ∧ (wayTo a.2.2.2.2 a.2.2.1 i).1 ≤ 65536 ∧ 0 ≤ (wayTo a.2.2.2.2 a.2.2.1 i).2 ∧ (wayTo a.2.2.2.2 a.2.2.1 i).2 ≤ 65536 := by
  obtain ⟨⟨r1, r2⟩, ⟨r3, r4⟩, r5, r6⟩ := h.rect hi
  obtain ⟨⟨w1, w2⟩, ⟨h1, h2⟩, p1, p2⟩ := h.num
  unfold wayTo
  dsimp only
  omega
theorem all_law (a : Atl) (hl : a.2.2.2.1.length ≤ 1000000) (hl2 : a.2.2.2.2.length < 1099511627776) : allM_pre a ∧ ((¬ IsAtl a ∧ allM a = ([], ([], 1))) ∨
    (IsAtl a ∧ allM a = (allT a.2.2.2.1 a.2.2.2.2 a.2.2.1 a.2.2.2.1.length, (allO a.2.2.2.1 a.2.2.2.1.length, 0)))) := by
  obtain ⟨i1, i2⟩ := is_law a (by omega) hl2
  unfold allM_pre allM letP letV
  cases hb : isM a with
  | false =>
    refine ⟨⟨i1, fun q => absurd rfl q⟩, .inl ⟨fun q => ?_, rfl⟩⟩
    rw [i2.2 q] at hb; cases hb
  | true =>
    have hA := i2.1 hb
    have hR := hA.rgt
    have key : TR (allM_l0_step a) (allM_l0_pre a) ([], ([], 0)) fun r => r = .inr (allT a.2.2.2.1 a.2.2.2.2 a.2.2.1 a.2.2.2.1.length, allO a.2.2.2.1 a.2.2.2.1.length) := by
      refine for_loop a.2.2.2.1.length (fun i st => st = (allT a.2.2.2.1 a.2.2.2.2 a.2.2.1 i, (allO a.2.2.2.1 i, (i : Int)))) _ (fun i st hi hj => ?_) (fun st hj => ?_) rfl
      · subst hj
        have hp := hR.all _ (getD_in hi zP)
        have hlen := hA.len
        obtain ⟨⟨r1, r2⟩, ⟨r3, r4⟩, r5, r6⟩ := hA.rect hi
        obtain ⟨⟨w1, w2⟩, ⟨h1, h2⟩, p1, p2⟩ := hA.num
        have hway := hA.way hi
        have e1 : w64 ((a.2.2.2.2.getD i zR).1 + a.2.2.1) = (a.2.2.2.2.getD i zR).1 + a.2.2.1 := w64_id (by omega) (by omega)
        have e2 : w64 ((a.2.2.2.2.getD i zR).2.1 + a.2.2.1) = (a.2.2.2.2.getD i zR).2.1 + a.2.2.1 := w64_id (by omega) (by omega)
        have e3 : w64 (16 * ((a.2.2.2.2.getD i zR).1 + a.2.2.1)) = 16 * ((a.2.2.2.2.getD i zR).1 + a.2.2.1) := w64_id (by omega) (by omega)
        have e4 : w64 (16 * ((a.2.2.2.2.getD i zR).2.1 + a.2.2.1)) = 16 * ((a.2.2.2.2.getD i zR).2.1 + a.2.2.1) := w64_id (by omega) (by omega)
        have hm := fmove_law (a.2.2.2.1.getD i zP) (wayTo a.2.2.2.2 a.2.2.1 i)
        have hmv : fmove (a.2.2.2.1.getD i zP, wayTo a.2.2.2.2 a.2.2.1 i) = (moved a.2.2.2.1 a.2.2.2.2 a.2.2.1 i, 0) := by
          rcases hm.2 with ⟨q, _⟩ | ⟨_, q, _⟩ | ⟨_, _, q⟩
          · exact absurd hp q
          · exact absurd hway q
          · exact q
        have earg : (a.2.2.2.1.getD i zP, (w64 ((16 : Int) * (w64 ((a.2.2.2.2.getD i zR).1 + a.2.2.1))), w64 ((16 : Int) * (w64 ((a.2.2.2.2.getD i zR).2.1 + a.2.2.1))))) = (a.2.2.2.1.getD i zP, wayTo a.2.2.2.2 a.2.2.1 i) := by rw [e1, e2, e3, e4]; rfl
        have hml := moved_len a.2.2.2.1 a.2.2.2.2 a.2.2.1 i
        have hps := hp.same
        have hpl := hp.len
        obtain ⟨t1, t2, t3⟩ := allT_len hR a.2.2.2.2 a.2.2.1 i (by omega)
        obtain ⟨q1, q2⟩ := repeat_law (i : Int) (n := (moved a.2.2.2.1 a.2.2.2.2 a.2.2.1 i).length) (by omega)
        refine ⟨?_, .inl ⟨_, ?_, rfl⟩⟩
        · unfold allM_l0_pre letP
          intro _
          dsimp only
          rw [Int.toNat_natCast, show (a.2.2.2.1.getD i ([], ([], (0, 0))), (w64 ((16 : Int) * (w64 ((a.2.2.2.2.getD i (0, (0, (0, 0)))).1 + a.2.2.1))), w64 ((16 : Int) * (w64 ((a.2.2.2.2.getD i (0, (0, (0, 0)))).2.1 + a.2.2.1))))) = _ from earg, hmv]
          exact ⟨by omega, hi, hi, by omega, by omega, by omega, by omega, by omega, by omega, by omega, by omega, hm.1, fun _ => ⟨by dsimp only; omega, q1, by dsimp only; rw [q2, List.length_replicate]; omega⟩⟩
        · unfold allM_l0_step letV
          dsimp only
          rw [if_pos (by omega), Int.toNat_natCast, show (a.2.2.2.1.getD i ([], ([], (0, 0))), (w64 ((16 : Int) * (w64 ((a.2.2.2.2.getD i (0, (0, (0, 0)))).1 + a.2.2.1))), w64 ((16 : Int) * (w64 ((a.2.2.2.2.getD i (0, (0, (0, 0)))).2.1 + a.2.2.1))))) = _ from earg, hmv]
          dsimp only
          rw [if_neg (by decide), q2, cntI hi (by omega), allT_succ, allO_succ, hml]
      · subst hj
        refine ⟨?_, _, ?_, rfl⟩
        · unfold allM_l0_pre
          intro q
          dsimp only at q; omega
        · unfold allM_l0_step
          dsimp only
          rw [if_neg (by omega)]
    refine ⟨⟨i1, fun _ => key.1⟩, .inr ⟨hA, ?_⟩⟩
    dsimp only
    rw [if_neg (by decide), key.2]; rfl
/-! ### Find -/
theorem findIdx_some {l : List Int} {t : Int} {k : Nat} (h : l.findIdx? (fun x => t == x) = some k) : k < l.length ∧ l.getD k 0 = t := by
  rw [List.findIdx?_eq_some_iff_getElem] at h
  obtain ⟨h1, h2, _⟩ := h
  refine ⟨h1, ?_⟩
  rw [List.getD_eq_getElem?_getD, List.getElem?_eq_getElem h1]
  exact (by simpa using h2 : t = l[k]).symm
theorem findIdx_none {l : List Int} {t : Int} (h : l.findIdx? (fun x => t == x) = none) : t ∉ l := fun hm => by
  rw [List.findIdx?_eq_none_iff] at h
  have := h t hm
  simp at this
def FOut (a : Atl) (T : List T2) (t : Int) (r : T2 × Bool) : Prop :=
  (∃ k, k < (Tris a.2.2.2.1).length ∧ (Tris a.2.2.2.1).getD k 0 = t ∧ r = (T.getD k zT, true)) ∨ (t ∉ Tris a.2.2.2.1 ∧ r = (zT, false))
theorem afind_law (a : Atl) (t : Int) (hl : a.2.2.2.1.length ≤ 1000000) (hl2 : a.2.2.2.2.length < 1099511627776) : findM_pre (a, t) ∧ ((¬ IsAtl a ∧ findM (a, t) = (zT, false)) ∨
    (IsAtl a ∧ FOut a (allT a.2.2.2.1 a.2.2.2.2 a.2.2.1 a.2.2.2.1.length) t (findM (a, t)))) := by
  obtain ⟨i1, i2⟩ := all_law a hl hl2
  unfold findM_pre findM letP letV
  dsimp only
  rcases i2 with ⟨hn, e⟩ | ⟨hA, e⟩
  · rw [e]
    exact ⟨⟨i1, fun q => absurd rfl q⟩, .inl ⟨hn, rfl⟩⟩
  · rw [e]
    have hR := hA.rgt
    generalize hT : allT a.2.2.2.1 a.2.2.2.2 a.2.2.1 a.2.2.2.1.length = T
    have hTl : T.length = (Tris a.2.2.2.1).length ∧ T.length ≤ 500 * a.2.2.2.1.length := by
      obtain ⟨t1, t2, t3⟩ := allT_len hR a.2.2.2.2 a.2.2.1 a.2.2.2.1.length (Nat.le_refl _)
      rw [hT] at t1 t3
      rw [List.take_length] at t1
      exact ⟨t1, t3⟩
    have key : TR (findM_l0_step (a, t)) (findM_l0_pre (a, t)) (T, (0, 0)) fun r => (∃ k, k < (Tris a.2.2.2.1).length ∧ (Tris a.2.2.2.1).getD k 0 = t ∧ r = .inl ((T.getD k zT).1.1, ((T.getD k zT).1.2, ((T.getD k zT).2.1.1, ((T.getD k zT).2.1.2, ((T.getD k zT).2.2.1, (T.getD k zT).2.2.2)))))) ∨ (t ∉ Tris a.2.2.2.1 ∧ r = .inr ()) := by
      refine for_loop a.2.2.2.1.length (fun i st => st = (T, (((Tris (a.2.2.2.1.take i)).length : Int), (i : Int))) ∧ t ∉ Tris (a.2.2.2.1.take i)) _ (fun i st hi hj => ?_) (fun st hj => ?_) ⟨rfl, by simp [Tris]⟩
      · obtain ⟨rfl, hN⟩ := hj
        have hp := hR.all _ (getD_in hi zP)
        have hpl := hp.len
        obtain ⟨x1, x2⟩ := index_law (a.2.2.2.1.getD i zP).1 (by omega) t
        have hsplit : Tris a.2.2.2.1 = Tris (a.2.2.2.1.take i) ++ ((a.2.2.2.1.getD i zP).1 ++ Tris (a.2.2.2.1.drop (i + 1))) := by
          have h := List.take_append_drop i a.2.2.2.1
          rw [List.drop_eq_getElem_cons hi] at h
          have h2 := (congrArg Tris h).symm
          rw [List.getD_eq_getElem?_getD, List.getElem?_eq_getElem hi]
          rw [h2]
          simp only [Tris, List.flatMap_append, List.flatMap_cons, Option.getD_some]
        have hlen := congrArg List.length hsplit
        simp only [List.length_append] at hlen
        cases hx : (a.2.2.2.1.getD i zP).1.findIdx? (fun x => t == x) with
        | some k =>
          rw [hx] at x2
          have x2 : indexI ((a.2.2.2.1.getD i zP).1, t) = (k : Int) := x2
          obtain ⟨k1, k2⟩ := findIdx_some hx
          have ew : w64 (((Tris (a.2.2.2.1.take i)).length : Int) + (k : Int)) = (((Tris (a.2.2.2.1.take i)).length + k : Nat) : Int) := by rw [w64_id (by omega) (by omega)]; omega
          refine ⟨?_, .inr ⟨_, ?_, .inl ⟨(Tris (a.2.2.2.1.take i)).length + k, by omega, ?_, rfl⟩⟩⟩
          · unfold findM_l0_pre letP
            intro _
            dsimp only
            rw [Int.toNat_natCast, show indexI ((a.2.2.2.1.getD i ([], ([], (0, 0)))).1, t) = _ from x2, ew, Int.toNat_natCast]
            exact ⟨by omega, hi, hi, x1, fun _ => by omega⟩
          · unfold findM_l0_step letV
            dsimp only
            rw [if_pos (by omega), Int.toNat_natCast, show indexI ((a.2.2.2.1.getD i ([], ([], (0, 0)))).1, t) = _ from x2, if_pos (by omega), ew, Int.toNat_natCast]
          · rw [hsplit, List.getD_eq_getElem?_getD, List.getElem?_append_right (by omega), Nat.add_sub_cancel_left, List.getElem?_append_left k1, ← List.getD_eq_getElem?_getD]
            exact k2
        | none =>
          rw [hx] at x2
          have x2 : indexI ((a.2.2.2.1.getD i zP).1, t) = -1 := x2
          have hnm := findIdx_none hx
          refine ⟨?_, .inl ⟨_, ?_, rfl, ?_⟩⟩
          · unfold findM_l0_pre letP
            intro _
            dsimp only
            rw [Int.toNat_natCast, show indexI ((a.2.2.2.1.getD i ([], ([], (0, 0)))).1, t) = _ from x2]
            exact ⟨by omega, hi, hi, x1, fun q => absurd q (by omega)⟩
          · unfold findM_l0_step letV
            dsimp only
            have ew2 : w64 (((Tris (a.2.2.2.1.take i)).length : Int) + (((a.2.2.2.1.getD i zP).1.length : Nat) : Int)) = (((Tris (a.2.2.2.1.take (i + 1))).length : Nat) : Int) := by
              rw [take_snoc hi zP, tris_snoc, List.length_append, w64_id (n := ((Tris (a.2.2.2.1.take i)).length : Int) + (((a.2.2.2.1.getD i zP).1.length : Nat) : Int)) (by omega) (by omega)]; omega
            rw [if_pos (by omega), Int.toNat_natCast, show indexI ((a.2.2.2.1.getD i ([], ([], (0, 0)))).1, t) = _ from x2, if_neg (by omega), cntI hi (by omega)]
            rw [show w64 (((Tris (a.2.2.2.1.take i)).length : Int) + (((a.2.2.2.1.getD i ([], ([], (0, 0)))).1.length : Nat) : Int)) = _ from ew2]
          · rw [take_snoc hi zP, tris_snoc, List.mem_append]
            exact fun q => q.elim hN hnm
      · obtain ⟨rfl, hN⟩ := hj
        rw [List.take_length] at hN
        refine ⟨?_, .inr (), ?_, .inr ⟨hN, rfl⟩⟩
        · unfold findM_l0_pre
          intro q
          dsimp only at q; omega
        · unfold findM_l0_step
          dsimp only
          rw [if_neg (by omega)]
    refine ⟨⟨i1, fun _ => key.1⟩, .inr ⟨hA, ?_⟩⟩
    dsimp only
    rw [if_neg (by decide)]
    rcases key.2 with ⟨k, k1, k2, e⟩ | ⟨k1, e⟩
    · rw [e]; exact .inl ⟨k, k1, k2, rfl⟩
    · rw [e]; exact .inr ⟨k1, rfl⟩
end Go.Proofs.YtfgdjlhilladhaaGreat
