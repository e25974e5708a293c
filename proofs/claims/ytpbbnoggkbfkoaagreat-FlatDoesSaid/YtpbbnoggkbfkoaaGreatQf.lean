/- Plain laws: the document's rows of layer 16; what is laid is a patch. -/
import Derived.Test.YtpbbnoggkbfkoaaGreatQe
namespace Go.Proofs.YtpbbnoggkbfkoaaGreat
open Go Go.Ev Go.Proofs
abbrev m0 : Msh := ([(5, (5, 0)), (25, (5, 0)), (5, (21, 0))], ([], ([], [((0, (-1, -1)), ((1, (-1, -1)), (2, (-1, -1))))])))
theorem m0_tame : tameB m0 = true := by kernel_rfl
theorem m0_facing : facing (m0, 0) = (2, (1, true)) := by
  rw [(facing_law m0 0).2, if_pos ⟨m0_tame, by decide⟩]
  kernel_rfl
theorem m0_shadow : shadow (m0, (0, 2)) = (((5, 5), ((25, 5), (5, 21))), 0) := by
  rw [(shadow_law m0 0 2).2, if_pos ⟨m0_tame, by decide⟩]
  kernel_rfl
theorem box_of {l : List T2} {lo hi : P2} (hl : l.length < 4611686018427387904) (h0 : l ≠ []) (hs : ∀ p ∈ pts l, Sm p) (hB : IsBox (pts l) lo hi) : fbox l = (lo, (hi, 0)) := by
  rcases (fbox_law l hl).2 with ⟨h, _⟩ | ⟨⟨p, hp, hn⟩, _⟩ | ⟨_, _, lo', hi', hB', e⟩
  · exact absurd h h0
  · exact absurd (hs p hp) hn
  · obtain ⟨rfl, rfl⟩ := hB.uniq hB'; exact e
theorem m0_raw : Raw m0 (2, (1, [0])) = [((5, 5), ((25, 5), (5, 21)))] := by
  unfold Raw
  simp only [List.map_cons, List.map_nil, m0_shadow]
theorem m0_box : fbox [((5, 5), ((25, 5), (5, 21)))] = ((5, 5), ((25, 21), 0)) :=
  box_of (by simp) (by simp) (by decide) ⟨by decide, by decide, ⟨(5, 5), by decide, rfl⟩, ⟨(5, 5), by decide, rfl⟩, ⟨(25, 5), by decide, rfl⟩, ⟨(5, 21), by decide, rfl⟩⟩
abbrev t0 : T2 := ((0, 0), ((40, 0), (0, 32)))
theorem one_free (t : T2) : fapart [t] = true := (fapart_law [t] (by simp)).2.2 fun i k h1 h2 => by simp at h1; omega
theorem m0_turn : Turn m0 (2, (1, [0])) 2 = [t0] := by
  unfold Turn
  rw [m0_raw, m0_box]
  kernel_rfl
theorem m0_high : High m0 (2, (1, [0])) 2 = (40, 32) := by
  unfold High
  rw [m0_raw, m0_box]
  kernel_rfl
theorem m0_fits : ∀ j ∈ [(0 : Int)], Fits m0 (2, (1, [0])) j := by
  intro j hj
  simp only [List.mem_singleton] at hj
  subst hj
  exact ⟨m0_facing, by rw [m0_shadow]⟩
theorem m0_laid : flay (m0, ((2, (1, [0])), 2)) = (([0], ([t0], (3, 3))), 0) := by
  have hL : Laid m0 (2, (1, [0])) 2 := ⟨by decide, m0_fits, by rw [m0_raw, m0_box], by rw [m0_high]; decide, by rw [m0_turn]; exact one_free t0⟩
  rcases (flay_law m0 (2, (1, [0])) 2 (by simp)).2 with ⟨h, _⟩ | ⟨_, e⟩
  · exact absurd hL h
  · rw [e, m0_turn, m0_high]; rfl
theorem m0_not : (flay (m0, ((1, (1, [0])), 2))).2 = 1 := by
  have hn : ¬ ∀ j ∈ [(0 : Int)], Fits m0 (1, (1, [0])) j := fun h => by
    have := (h 0 (by simp)).1
    rw [m0_facing] at this
    cases this
  rcases (flay_law m0 (1, (1, [0])) 2 (by simp)).2 with ⟨_, e, _, h, h1⟩ | ⟨hL, _⟩
  · rw [h]; exact h1 hn
  · exact absurd hL.fits hn
theorem t0_box : fbox [t0] = (z2, ((40, 32), 0)) :=
  box_of (by simp) (by simp) (by decide) ⟨by decide, by decide, ⟨(0, 0), by decide, rfl⟩, ⟨(0, 0), by decide, rfl⟩, ⟨(40, 0), by decide, rfl⟩, ⟨(0, 32), by decide, rfl⟩⟩
theorem t0_patch : IsPatch ([0], ([t0], (3, 3))) := by
  refine ⟨by simp, by simp, by decide, ?_, ?_, ?_, ?_, one_free t0⟩ <;> dsimp only <;> rw [t0_box] <;> first | rfl | decide
theorem m0_move : fmove (([0], ([t0], (3, 3))), (3, 0)) = ([((3, 0), ((43, 0), (3, 32)))], 0) := by
  rcases (fmove_law ([0], ([t0], (3, 3))) (3, 0)).2 with ⟨h, _⟩ | ⟨_, h, _⟩ | ⟨_, _, e⟩
  · exact absurd t0_patch h
  · exact absurd (by decide) h
  · rw [e]; kernel_rfl
theorem laid_law (x : Bool) : l16laid_pre x ∧ l16laid x = true := by
  have h1 := m0_laid
  have h2 := m0_not
  have h3 := m0_move
  have h4 : fis ([0], ([t0], (3, 3))) = true := (fis_law _).2.2 t0_patch
  have h5 : fsize 16 = (2, 0) := by rw [fsize_law]; decide
  unfold l16laid_pre l16laid
  dsimp only [letP, letV]
  rw [h1]
  dsimp only
  rw [h3, h2, h5, h4]
  refine ⟨⟨(flay_law _ _ _ (by simp)).1, (flay_law _ _ _ (by simp)).1, (fmove_law _ _).1, fun _ _ _ _ => ⟨by decide, by decide, by decide, fun _ _ _ _ => ⟨by decide, by decide, by decide, by decide, fun _ _ _ => (fis_law _).1⟩⟩⟩, by decide⟩
/-! ### Gates -/
theorem r15few_law (m : Msh) (l : List Chr) : r15few_pre (m, l) ∧ (r15few (m, l) = true ↔ l.length ≤ 20 ∧ (∀ c ∈ l, c.2.2.length ≤ 20) ∧ (m.1.length ≤ 20 ∧ m.2.1.length ≤ 60 ∧ m.2.2.1.length ≤ 60 ∧ m.2.2.2.length ≤ 20) ∧ m.2.2.2.length ≤ 12) := by
  obtain ⟨h1, h2⟩ := loop_inv (step := r15few_l0_step (m, l)) (pre := r15few_l0_pre (m, l)) (fun s => ∃ i : Nat, s = (i : Int) ∧ i ≤ l.length ∧ ∀ c ∈ l.take i, c.2.2.length ≤ 20) (fun s => l.length - s.toNat)
    (fun r => (r = .inl () ∧ ∃ c ∈ l, ¬ c.2.2.length ≤ 20) ∨ (r = .inr () ∧ (l.length ≤ 20 → ∀ c ∈ l, c.2.2.length ≤ 20))) (fun s ⟨i, e, hi, hf⟩ => by
      subst e
      unfold r15few_l0_step r15few_l0_pre
      dsimp only
      simp only [Int.toNat_natCast]
      refine ⟨fun h _ => ⟨by omega, by omega, by omega, by omega⟩, fun s' h => ?_, fun r h => ?_⟩
      · split at h
        · rename_i hlt
          have hlt : i < l.length := by omega
          split at h
          · rename_i h20
            split at h
            · cases h
            · rename_i hn
              cases h
              refine ⟨⟨i + 1, cnt hlt (by omega), hlt, fun c hc => ?_⟩, ?_⟩
              · rw [List.take_succ_eq_append_getElem hlt] at hc
                rcases List.mem_append.1 hc with hc | hc
                · exact hf c hc
                · simp only [List.mem_singleton] at hc
                  subst hc
                  rw [List.getD_eq_getElem?_getD, List.getElem?_eq_getElem hlt] at hn
                  simp only [Option.getD_some] at hn
                  omega
              · rw [cnt hlt (by omega)]
                simp only [Int.toNat_natCast]; omega
          · cases h
        · cases h
      · split at h
        · rename_i hlt
          have hlt : i < l.length := by omega
          split at h
          · rename_i h20
            split at h
            · rename_i hn
              cases h
              refine .inl ⟨rfl, l.getD i (0, (0, [])), ?_, ?_⟩
              · rw [List.getD_eq_getElem?_getD, List.getElem?_eq_getElem hlt]; exact List.getElem_mem _
              · omega
            · cases h
          · cases h; exact .inr ⟨rfl, fun q => absurd q (by omega)⟩
        · cases h
          have : i = l.length := by omega
          subst this
          rw [List.take_length] at hf
          exact .inr ⟨rfl, fun _ => hf⟩) 0 ⟨0, rfl, Nat.zero_le _, fun c hc => (by simp at hc)⟩
  refine ⟨h1, ?_⟩
  have h14 : r14few m = true ↔ (m.1.length ≤ 20 ∧ m.2.1.length ≤ 60 ∧ m.2.2.1.length ≤ 60 ∧ m.2.2.2.length ≤ 20) := by
    unfold r14few
    split
    · split
      · split
        · rw [decide_eq_true_iff]; omega
        · exact ⟨fun q => (by cases q), fun q => absurd q.2.2.1 (by omega)⟩
      · exact ⟨fun q => (by cases q), fun q => absurd q.2.1 (by omega)⟩
    · exact ⟨fun q => (by cases q), fun q => absurd q.1 (by omega)⟩
  unfold r15few
  dsimp only [letV]
  rcases h2 with ⟨e, c, hc, hn⟩ | ⟨e, hf⟩
  · rw [e]; exact ⟨fun q => (by cases q), fun q => absurd (q.2.1 c hc) hn⟩
  · rw [e]
    dsimp only [Sum.elim_inr]
    split
    · rename_i h20
      split
      · rename_i q14
        rw [decide_eq_true_iff]
        exact ⟨fun q => ⟨by omega, hf (by omega), h14.1 q14, by omega⟩, fun q => by omega⟩
      · rename_i q14
        exact ⟨fun q => (by cases q), fun q => absurd (h14.2 q.2.2.1) q14⟩
    · exact ⟨fun q => (by cases q), fun q => absurd q.1 (by omega)⟩
theorem r1same_law (a b : List Int) (hl : a.length < 4611686018427387904) : r1same_pre (a, b) ∧ (r1same (a, b) = true ↔ a = b) := by
  unfold r1same_pre r1same
  dsimp only [letP, letV]
  by_cases h : a.length = b.length
  · have hn : ¬ ((((a.length : Nat) : Int) != ((b.length : Nat) : Int)) = true) := by simp [h]
    obtain ⟨h1, h2⟩ := loop_inv (step := r1same_l0_step (a, b)) (pre := r1same_l0_pre (a, b)) (fun s => ∃ i : Nat, s = (i : Int) ∧ i ≤ a.length ∧ a.take i = b.take i) (fun s => a.length - s.toNat)
      (fun r => (r = .inl () ∧ a ≠ b) ∨ (r = .inr () ∧ a = b)) (fun s ⟨i, e, hi, hf⟩ => by
        subst e
        unfold r1same_l0_step r1same_l0_pre
        dsimp only
        simp only [Int.toNat_natCast]
        refine ⟨fun q => ⟨by omega, by omega, by omega, by omega, by omega, by omega⟩, fun s' q => ?_, fun r q => ?_⟩
        · split at q
          · rename_i hlt
            have hlt : i < a.length := by omega
            split at q
            · cases q
            · rename_i hne
              cases q
              refine ⟨⟨i + 1, cnt hlt (by omega), hlt, ?_⟩, ?_⟩
              · rw [List.take_succ_eq_append_getElem hlt, List.take_succ_eq_append_getElem (show i < b.length by omega), hf]
                congr 2
                simpa [List.getD_eq_getElem?_getD, List.getElem?_eq_getElem hlt, List.getElem?_eq_getElem (show i < b.length by omega)] using hne
              · rw [cnt hlt (by omega)]
                simp only [Int.toNat_natCast]; omega
          · cases q
        · split at q
          · split at q
            · rename_i hne
              cases q
              refine .inl ⟨rfl, fun e => ?_⟩
              rw [e] at hne; simp at hne
            · cases q
          · cases q
            have : i = a.length := by omega
            subst this
            rw [List.take_length, h, List.take_length] at hf
            exact .inr ⟨rfl, hf⟩) 0 ⟨0, rfl, Nat.zero_le _, rfl⟩
    refine ⟨fun _ => h1, ?_⟩
    rw [if_neg hn]
    rcases h2 with ⟨e, q⟩ | ⟨e, q⟩
    · rw [e]; exact ⟨fun z => (by cases z), fun z => absurd z q⟩
    · rw [e]; exact ⟨fun _ => q, fun _ => rfl⟩
  · have hn : (((a.length : Nat) : Int) != ((b.length : Nat) : Int)) = true := by simp; omega
    refine ⟨fun q => absurd hn q, ?_⟩
    rw [if_pos hn]
    exact ⟨fun q => (by cases q), fun q => absurd (by rw [q]) h⟩
theorem r16big_law (x : Ptc) : (r16big x = true) ↔ ¬ (x.1.length ≤ 15 ∧ x.2.1.length ≤ 15) := by
  unfold r16big
  split
  · exact ⟨fun _ => by omega, fun _ => rfl⟩
  · rw [decide_eq_true_iff]; omega
/-! ### Corners by their numbers -/
def pk (t : T2) (k : Nat) : P2 := if k = 0 then t.1 else if k = 1 then t.2.1 else t.2.2
theorem six (t : T2) {k : Nat} (h : k < 3) : List.getD [t.1.1, t.1.2, t.2.1.1, t.2.1.2, t.2.2.1, t.2.2.2] (0 + k * 2) 0 = (pk t k).1 ∧ List.getD [t.1.1, t.1.2, t.2.1.1, t.2.1.2, t.2.2.1, t.2.2.2] (0 + k * 2 + 1) 0 = (pk t k).2 := by
  have : k = 0 ∨ k = 1 ∨ k = 2 := by omega
  rcases this with rfl | rfl | rfl <;> exact ⟨rfl, rfl⟩
theorem tp_succ (t : T2) {k : Nat} (h : k < 3) : (tp t).take (k + 1) = (tp t).take k ++ [pk t k] := by
  have : k = 0 ∨ k = 1 ∨ k = 2 := by omega
  rcases this with rfl | rfl | rfl <;> rfl
theorem pk_mem (t : T2) {k : Nat} (h : k < 3) : pk t k ∈ tp t := by
  have : k = 0 ∨ k = 1 ∨ k = 2 := by omega
  rcases this with rfl | rfl | rfl <;> simp [pk, tp]
/-- None has been counted: there was none. -/
def Sn (n : Int) (l : List P2) (P : P2 → Prop) : Prop := n = 0 → ∀ p ∈ l, ¬ P p
theorem Sn.nil {n : Int} {P : P2 → Prop} : Sn n [] P := fun _ p hp => (by simp at hp)
theorem Sn.yes {n : Int} {l : List P2} {p : P2} {P : P2 → Prop} (h : 0 ≤ n) : Sn (n + 1) (l ++ [p]) P := fun q => absurd q (by omega)
theorem Sn.no {n : Int} {l : List P2} {p : P2} {P : P2 → Prop} (h : Sn n l P) (hp : ¬ P p) : Sn n (l ++ [p]) P := fun q x hx => by
  rcases List.mem_append.1 hx with hx | hx
  · exact h q x hx
  · simp only [List.mem_singleton] at hx
    subst hx; exact hp
end Go.Proofs.YtpbbnoggkbfkoaaGreat
