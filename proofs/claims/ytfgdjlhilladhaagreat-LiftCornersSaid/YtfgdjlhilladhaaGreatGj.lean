/- LiftCorners' function answers true, whatever its input. -/
import Derived.Test.YtfgdjlhilladhaaGreatGi
namespace Go.Proofs.YtfgdjlhilladhaaGreat
open Go Go.Ev Go.Proofs
set_option linter.unusedVariables false
set_option linter.unusedSimpArgs false
theorem inl_law (l : List Int) (hl : l.length < 4611686018427387904) (n : Int) : inl_pre (l, n) ∧ (inl (l, n) = true ↔ n ∈ l) := by
  have key : TR (inl_l0_step (l, n)) (inl_l0_pre (l, n)) 0 fun r => (r = .inl () ∧ n ∈ l) ∨ (r = .inr () ∧ n ∉ l) := by
    refine for_loop l.length (fun i s => s = (i : Int) ∧ n ∉ l.take i) _ (fun i s hi hj => ?_) (fun s hj => ?_) ⟨rfl, by simp⟩
    · obtain ⟨rfl, hN⟩ := hj
      refine ⟨?_, ?_⟩
      · unfold inl_l0_pre
        intro _
        dsimp only
        rw [Int.toNat_natCast]; omega
      · unfold inl_l0_step
        dsimp only
        rw [if_pos (by omega), Int.toNat_natCast]
        by_cases c : l.getD i 0 = n
        · rw [if_pos (by simpa using c)]
          exact .inr ⟨_, rfl, .inl ⟨rfl, by rw [← c]; exact getD_in hi 0⟩⟩
        · rw [if_neg (by simpa using c)]
          refine .inl ⟨_, rfl, cntI hi hl, ?_⟩
          rw [take_snoc hi 0, List.mem_append, List.mem_singleton]
          exact fun q => q.elim hN fun q => c q.symm
    · obtain ⟨rfl, hN⟩ := hj
      rw [List.take_length] at hN
      refine ⟨?_, .inr (), ?_, .inr ⟨rfl, hN⟩⟩
      · unfold inl_l0_pre
        intro q
        dsimp only at q; omega
      · unfold inl_l0_step
        dsimp only
        rw [if_neg (by omega)]
  refine ⟨key.1, ?_⟩
  unfold inl letV
  rcases key.2 with ⟨e, h⟩ | ⟨e, h⟩
  · rw [e]; exact ⟨fun _ => h, fun _ => rfl⟩
  · rw [e]; exact ⟨fun q => (by cases q), fun q => absurd q h⟩
theorem six (t : T2) {k : Nat} (h : k < 3) : List.getD [t.1.1, t.1.2, t.2.1.1, t.2.1.2, t.2.2.1, t.2.2.2] (0 + k * 2) 0 = (pk t k).1 ∧ List.getD [t.1.1, t.1.2, t.2.1.1, t.2.1.2, t.2.2.1, t.2.2.2] (0 + k * 2 + 1) 0 = (pk t k).2 := by
  have : k = 0 ∨ k = 1 ∨ k = 2 := by omega
  rcases this with rfl | rfl | rfl <;> exact ⟨rfl, rfl⟩
theorem rtexel_law {p : P2} (h : (0 ≤ p.1 ∧ p.1 < 4096) ∧ 0 ≤ p.2 ∧ p.2 < 4096) : rtexel p = ((((p.1 / 16).toNat : Nat) : Int), ((((p.2 / 16).toNat : Nat) : Int), 0)) := by
  have m1 := minI_le p.1 p.2
  have m2 := maxI_le p.1 p.2
  unfold rtexel
  rw [if_neg (by omega), if_neg (by omega), Int.tdiv_eq_ediv_of_nonneg h.1.1, Int.tdiv_eq_ediv_of_nonneg h.2.1, w64_id (n := p.1 / 16) (by omega) (by omega), w64_id (n := p.2 / 16) (by omega) (by omega)]
  congr 1
  · omega
  · congr 1; omega
theorem Fine.rt {m : Msh} {a : Atl} {o : List Int} (f : Fine m a o) (hl : a.2.2.2.1.length ≤ 1000) : Rt a.1.toNat a.2.1.toNat (TT a) := by
  obtain ⟨e1, e2, w1, w2, h1, h2, hm⟩ := f.size
  have hTl : (TT a).length ≤ 500 * a.2.2.2.1.length := (allT_len f.atl.rgt a.2.2.2.2 a.2.2.1 a.2.2.2.1.length (Nat.le_refl _)).2.2
  have ow := rowners_law a.1.toNat a.2.1.toNat f.gd.w f.gd.h (TT a) (by omega)
  rw [e1, e2, f.own] at ow
  rcases ow.2 with ⟨_, q⟩ | ⟨q, _⟩
  · exact absurd (congrArg Prod.snd q) (show ¬ (0 : Int) = 1 by decide)
  · rw [e1, e2]; exact q
theorem pk_in (t : T2) {k : Nat} (hk : k < 3) : (pk t k).1 = t.1.1 ∧ (pk t k).2 = t.1.2 ∨ (pk t k).1 = t.2.1.1 ∧ (pk t k).2 = t.2.1.2 ∨ (pk t k).1 = t.2.2.1 ∧ (pk t k).2 = t.2.2.2 := by
  have : k = 0 ∨ k = 1 ∨ k = 2 := by omega
  rcases this with rfl | rfl | rfl
  · exact .inl ⟨rfl, rfl⟩
  · exact .inr (.inl ⟨rfl, rfl⟩)
  · exact .inr (.inr ⟨rfl, rfl⟩)
theorem pk_inP {w h : Int} {t : T2} (hT : InTri w h t) {k : Nat} (hk : k < 3) : InP w h (pk t k) := by
  have : k = 0 ∨ k = 1 ∨ k = 2 := by omega
  rcases this with rfl | rfl | rfl
  · exact hT.1
  · exact hT.2.1
  · exact hT.2.2
theorem corner_box {w h : Int} (hw : In1 w) (hh : In1 h) {t : T2} (hT : InTri w h t) {k : Nat} (hk : k < 3) {x y : Nat}
    (hu : 16 * (x : Int) ≤ (pk t k).1 ∧ (pk t k).1 < 16 * (x : Int) + 16) (hv : 16 * (y : Int) ≤ (pk t k).2 ∧ (pk t k).2 < 16 * (y : Int) + 16) : BoxT t x y := by
  obtain ⟨q1, q2, q3⟩ := hT
  have hin := pk_in t hk
  obtain ⟨⟨b1, b2, b3, b4, b5⟩, b6, b7, b8, b9, b10⟩ := one_box hw q1.1 q2.1 q3.1
  obtain ⟨⟨c1, c2, c3, c4, c5⟩, c6, c7, c8, c9, c10⟩ := one_box hh q1.2 q2.2 q3.2
  have d1 : lox t = _ := b1
  have d2 : hix t = _ := b6
  have d3 : loy t = _ := c1
  have d4 : hiy t = _ := c6
  have m1 := maxI_le (w64 (lox t - 1)) 0
  have m2 := maxI_le (w64 (loy t - 1)) 0
  obtain ⟨w1, w2⟩ := hw
  obtain ⟨h1, h2⟩ := hh
  have r1 := q1.1
  have r2 := q1.2
  have e1 : w64 (lox t - 1) = lox t - 1 := w64_id (by rw [d1]; omega) (by rw [d1]; omega)
  have e2 : w64 (loy t - 1) = loy t - 1 := w64_id (by rw [d3]; omega) (by rw [d3]; omega)
  rw [e1] at m1
  rw [e2] at m2
  unfold BoxT
  rw [e1, e2]
  clear b1 b6 c1 c6 e1 e2
  refine ⟨⟨?_, ?_⟩, ?_, ?_⟩
  · rw [d1] at m1 ⊢; omega
  · rw [d2]; omega
  · rw [d3] at m2 ⊢; omega
  · rw [d4]; omega
/-- What a corner's texel has. -/
theorem corner_at {m : Msh} {a : Atl} {o : List Int} (f : Fine m a o) (hl : a.2.2.2.1.length ≤ 1000) {i : Nat} (hi : i < (TT a).length) {k : Nat} (hk : k < 3) :
    ∃ x y : Nat, ∃ s : Smp, ∃ j : Nat, rtexel (pk ((TT a).getD i zT) k) = ((x : Int), ((y : Int), 0)) ∧
      Go.Proofs.YtfgdjlhilladhaaGreat.lat (smps m a.1.toNat (TT a) (Tris a.2.2.2.1) o (a.1.toNat * a.2.1.toNat), ((x : Int), (y : Int))) = (s, true) ∧
      j < a.2.2.2.1.length ∧ (allO a.2.2.2.1 a.2.2.2.1.length).getD i 0 = (j : Int) ∧ s.2.2.1 ∈ (a.2.2.2.1.getD j zP).1 := by
  obtain ⟨e1, e2, w1, w2, h1, h2, hm⟩ := f.size
  have g := f.gd
  obtain ⟨hT, hr⟩ := f.rt hl _ (getD_in hi zT)
  have hall := all_at f.atl.rgt a.2.2.2.2 a.2.2.1 a.2.2.2.1.length (Nat.le_refl _)
  rw [List.take_length] at hall
  have hall : ∀ i, i < (TT a).length → ∃ j, j < a.2.2.2.1.length ∧ (allO a.2.2.2.1 a.2.2.2.1.length).getD i 0 = (j : Int) ∧ (TT a).getD i zT ∈ moved a.2.2.2.1 a.2.2.2.2 a.2.2.1 j ∧ (Tris a.2.2.2.1).getD i 0 ∈ (a.2.2.2.1.getD j zP).1 := hall
  obtain ⟨j1, p1, p2, p3, p4⟩ := hall i hi
  have hi1 := fun k hk => inn_of f.atl p1 p3 (k := k) hk
  generalize ht : (TT a).getD i zT = t at *
  have hP := pk_inP hT hk
  obtain ⟨⟨u1, u2⟩, v1, v2⟩ := hP
  obtain ⟨x, hx⟩ : ∃ x : Nat, x = ((pk t k).1 / 16).toNat := ⟨_, rfl⟩
  obtain ⟨y, hy⟩ : ∃ y : Nat, y = ((pk t k).2 / 16).toNat := ⟨_, rfl⟩
  have hrt := rtexel_law (p := pk t k) ⟨⟨u1, by omega⟩, v1, by omega⟩
  rw [← hx, ← hy] at hrt
  have hxw : x < a.1.toNat := by omega
  have hyh : y < a.2.1.toNat := by omega
  have hu : 16 * (x : Int) ≤ (pk t k).1 ∧ (pk t k).1 < 16 * (x : Int) + 16 := by omega
  have hv : 16 * (y : Int) ≤ (pk t k).2 ∧ (pk t k).2 < 16 * (y : Int) + 16 := by omega
  have hn := idx_lt hxw hyh
  have hcov := corner_cov (x := x) (y := y) (by omega) (by omega) hr hk hu hv
  have hbox : BoxT t x y := corner_box g.w g.h hT hk hu hv
  have hne := g.own.all (y * a.1.toNat + x) hn i hi (by rw [idx_row hxw, idx_col hxw, ht]; exact hbox) (by rw [idx_row hxw, idx_col hxw, ht]; exact hcov)
  rcases g.own.has (y * a.1.toNat + x) hn with q | ⟨j, k1, k2, k3⟩
  · exact absurd q hne
  rw [idx_row hxw, idx_col hxw] at k3
  obtain ⟨j2, r1, r2, r3, r4⟩ := hall j k1
  have hjj : j1 = j2 := by
    refine Classical.byContradiction fun hne => ?_
    have hr2 := (f.rt hl _ (getD_in k1 zT)).2
    exact far_cov f.atl.num.2.2.1 (ap_of f.atl p1 r1 hne) (hi1 k hk) (fun k hk => inn_of f.atl r1 r3 hk) hu hv ((cov_law (by omega) (by omega) hr2).1 k3).1
  subst hjj
  have hs : smp m a.1.toNat (TT a) (Tris a.2.2.2.1) o (y * a.1.toNat + x) = some ((x : Int), ((y : Int), ((Tris a.2.2.2.1).getD j 0, (lpt m a.1.toNat (TT a) (Tris a.2.2.2.1) o (y * a.1.toNat + x)).1))) := by
    unfold smp
    rw [if_neg (by omega), idx_row hxw, idx_col hxw, k2, Int.toNat_natCast]
  generalize hS : ((x : Int), ((y : Int), ((Tris a.2.2.2.1).getD j 0, (lpt m a.1.toNat (TT a) (Tris a.2.2.2.1) o (y * a.1.toNat + x)).1))) = s at hs
  have hlat := f.lat hn hs
  have t1 : s.1 = (x : Int) := by rw [← hS]
  have t2 : s.2.1 = (y : Int) := by rw [← hS]
  have t3 : s.2.2.1 = (Tris a.2.2.2.1).getD j 0 := by rw [← hS]
  rw [t1, t2] at hlat
  exact ⟨x, y, s, j1, hrt, hlat, p1, p2, by rw [t3]; exact r4⟩
section
variable {m : Msh} {a : Atl} {o : List Int} (f : Fine m a o) (hl : a.2.2.2.1.length ≤ 1000)
include f hl
theorem corners_k {i : Nat} (hi : i < (TT a).length) : TR (l20corners_l2_step (m, a)) (l20corners_l2_pre (m, a)) (smps m a.1.toNat (TT a) (Tris a.2.2.2.1) o (a.1.toNat * a.2.1.toNat), (TT a, (allO a.2.2.2.1 a.2.2.2.1.length, ((i : Int), 0)))) fun r => r = .inr (smps m a.1.toNat (TT a) (Tris a.2.2.2.1) o (a.1.toNat * a.2.1.toNat), (TT a, (allO a.2.2.2.1 a.2.2.2.1.length, (i : Int)))) := by
  obtain ⟨e1, e2, w1, w2, h1, h2, hm⟩ := f.size
  have hle := smps_le m a.1.toNat (TT a) (Tris a.2.2.2.1) o (a.1.toNat * a.2.1.toNat)
  have hca := fun k hk => corner_at f hl hi (k := k) hk
  have hOl : (allO a.2.2.2.1 a.2.2.2.1.length).length = (TT a).length := by
    obtain ⟨t1, t2, _⟩ := allT_len f.atl.rgt a.2.2.2.2 a.2.2.1 a.2.2.2.1.length (Nat.le_refl _)
    have : (TT a).length = (allT a.2.2.2.1 a.2.2.2.2 a.2.2.1 a.2.2.2.1.length).length := rfl
    omega
  generalize smps m a.1.toNat (TT a) (Tris a.2.2.2.1) o (a.1.toNat * a.2.1.toNat) = L at *
  generalize allO a.2.2.2.1 a.2.2.2.1.length = O at *
  refine for_loop 3 (fun k s => s = (L, (TT a, (O, ((i : Int), (k : Int)))))) _ (fun k s hk hj => ?_) (fun s hj => ?_) rfl
  · subst hj
    obtain ⟨x, y, s, j, c1, c2, c3, c4, c5⟩ := hca k hk
    obtain ⟨x1, x2⟩ := six ((TT a).getD i zT) hk
    have hp := (lat_law L (by omega) ((x : Int), (y : Int))).1
    have hlen := (f.atl.rgt.all _ (getD_in c3 zP)).len
    obtain ⟨n1, n2⟩ := inl_law (a.2.2.2.1.getD j zP).1 (by omega) s.2.2.1
    have hpk : rtexel ((pk ((TT a).getD i zT) k).1, (pk ((TT a).getD i zT) k).2) = ((x : Int), ((y : Int), 0)) := c1
    refine ⟨?_, .inl ⟨_, ?_, rfl⟩⟩
    · unfold l20corners_l2_pre letP
      dsimp only
      rw [Int.toNat_natCast, Int.toNat_natCast, show List.getD [((TT a).getD i ((0, 0), ((0, 0), (0, 0)))).1.1, _, _, _, _, _] (0 + k * 2) 0 = _ from x1, show List.getD [((TT a).getD i ((0, 0), ((0, 0), (0, 0)))).1.1, _, _, _, _, _] (0 + k * 2 + 1) 0 = _ from x2, hpk]
      dsimp only
      rw [c2, c4, Int.toNat_natCast]
      have z1 : (0 : Int) ≤ (i : Int) ∧ (i : Int) < (((TT a).length : Nat) : Int) := by omega
      have z2 : (0 : Int) ≤ (i : Int) ∧ (i : Int) < ((O.length : Nat) : Int) := by omega
      have z3 : i < O.length := by omega
      exact fun _ => ⟨z1, hi, by omega, hi, by omega, hi, hp, fun _ _ => ⟨z2, z3, z3, fun _ => ⟨z2, z3, z3, fun _ => ⟨z2, z3, z3, by omega, c3, c3, c3, n1⟩⟩⟩⟩
    · unfold l20corners_l2_step letV
      dsimp only
      rw [if_pos (by omega), Int.toNat_natCast, Int.toNat_natCast, show List.getD [((TT a).getD i ((0, 0), ((0, 0), (0, 0)))).1.1, _, _, _, _, _] (0 + k * 2) 0 = _ from x1, show List.getD [((TT a).getD i ((0, 0), ((0, 0), (0, 0)))).1.1, _, _, _, _, _] (0 + k * 2 + 1) 0 = _ from x2, hpk]
      dsimp only
      rw [c2, c4, Int.toNat_natCast, if_neg (by decide), if_neg (show ¬ (!true) = true by decide), if_neg (by omega), if_neg (by omega)]
      have n3 : inl ((a.2.2.2.1.getD j ([], ([], (0, 0)))).1, s.2.2.1) = true := n2.2 c5
      rw [n3, if_neg (by decide), w64_id (n := (k : Int) + 1) (by omega) (by omega)]
      rfl
  · subst hj
    refine ⟨?_, _, ?_, rfl⟩
    · unfold l20corners_l2_pre
      intro q
      dsimp only at q; omega
    · unfold l20corners_l2_step
      dsimp only
      rw [if_neg (by omega)]
theorem corners_i : TR (l20corners_l0_step (m, a)) (l20corners_l0_pre (m, a)) (smps m a.1.toNat (TT a) (Tris a.2.2.2.1) o (a.1.toNat * a.2.1.toNat), (TT a, (allO a.2.2.2.1 a.2.2.2.1.length, 0))) fun r => r = .inr () := by
  have hTl : (TT a).length ≤ 500 * a.2.2.2.1.length := (allT_len f.atl.rgt a.2.2.2.2 a.2.2.1 a.2.2.2.1.length (Nat.le_refl _)).2.2
  have key := fun i hi => corners_k f hl (i := i) hi
  generalize smps m a.1.toNat (TT a) (Tris a.2.2.2.1) o (a.1.toNat * a.2.1.toNat) = L at *
  generalize allO a.2.2.2.1 a.2.2.2.1.length = O at *
  refine for_loop (TT a).length (fun i s => s = (L, (TT a, (O, (i : Int))))) _ (fun i s hi hj => ?_) (fun s hj => ?_) rfl
  · subst hj
    refine ⟨?_, .inl ⟨_, ?_, rfl⟩⟩
    · unfold l20corners_l0_pre
      intro _
      exact (key i hi).1
    · unfold l20corners_l0_step letV
      dsimp only
      rw [if_pos (by omega), (key i hi).2]
      show Sum.inl (L, (TT a, (O, w64 ((i : Int) + 1)))) = _
      rw [cntI hi (by omega)]
  · subst hj
    refine ⟨?_, _, ?_, rfl⟩
    · unfold l20corners_l0_pre
      intro q
      dsimp only at q; omega
    · unfold l20corners_l0_step
      dsimp only
      rw [if_neg (by omega)]
end
theorem corners_law (x : Arg) : l20corners_pre x ∧ l20corners x = true := by
  obtain ⟨m, a⟩ := x
  obtain ⟨f1, f2⟩ := few20_law m a
  unfold l20corners_pre l20corners letP letV
  cases hf : few20 (m, a) with
  | false => exact ⟨⟨f1, fun q => absurd rfl q⟩, rfl⟩
  | true =>
    obtain ⟨b1, b2, b3⟩ := f2 hf
    obtain ⟨s1, s2⟩ := lsamples_law m a (by omega) (by omega) (fun p hp => by have := b2 p hp; omega)
    dsimp only
    rw [if_neg (by decide)]
    rcases s2 with ⟨e, he, s2⟩ | ⟨o, f, s2⟩
    · rw [s2]
      dsimp only
      have hb : (e != 0) = true := by simpa using he
      rw [if_pos hb, lifted_law]
      exact ⟨⟨f1, fun _ => ⟨s1, fun _ => lifted_tm _, fun q => absurd hb q⟩⟩, rfl⟩
    · rw [s2, f.all, lifted_law]
      obtain ⟨i1, _⟩ := all_law a (by omega) (by omega)
      have k := corners_i f (by omega)
      have hn : ¬ (((((TT a).length : Nat) : Int) != (((allO a.2.2.2.1 a.2.2.2.1.length).length : Nat) : Int)) = true) := by
        obtain ⟨t1, t2, _⟩ := allT_len f.atl.rgt a.2.2.2.2 a.2.2.1 a.2.2.2.1.length (Nat.le_refl _)
        have : (TT a).length = (allT a.2.2.2.1 a.2.2.2.2 a.2.2.1 a.2.2.2.1.length).length := rfl
        rw [show (TT a).length = (allO a.2.2.2.1 a.2.2.2.1.length).length by omega]; simp
      dsimp only
      rw [if_neg (by decide), if_neg (by decide), if_neg hn, k.2]
      exact ⟨⟨f1, fun _ => ⟨s1, fun q => absurd q (by decide), fun _ => ⟨i1, fun _ _ => ⟨k.1, lifted_tm false⟩⟩⟩⟩, rfl⟩
end Go.Proofs.YtfgdjlhilladhaaGreat
