/- LiftOwners' function answers true, whatever its input. -/
import Derived.Test.YtfgdjlhilladhaaGreatGe
import Derived.Test.YtfgdjlhilladhaaGreatGc
namespace Go.Proofs.YtfgdjlhilladhaaGreat
open Go Go.Ev Go.Proofs
set_option linter.unusedVariables false
set_option linter.unusedSimpArgs false
theorem big18_law (l : Pts) : big18_pre l ∧ (big18 l = false → l.length ≤ 12 ∧ ∀ p ∈ l, p.1.length ≤ 15) := by
  have key : TR (big18_l0_step l) (big18_l0_pre l) (0, 0) fun r => l.length ≤ 12 → r = .inl () ∨ ∀ p ∈ l, p.1.length ≤ 15 := by
    by_cases h12 : l.length ≤ 12
    · refine for_loop l.length (fun i s => s.2 = (i : Int) ∧ ∀ p ∈ l.take i, p.1.length ≤ 15) _ (fun i s hi hj => ?_) (fun s hj => ?_) ⟨rfl, by simp⟩
      · obtain ⟨n, z⟩ := s
        obtain ⟨hj, hp⟩ := hj
        dsimp only at hj; subst hj
        refine ⟨?_, ?_⟩
        · unfold big18_l0_pre letP
          intro _ _
          dsimp only
          rw [Int.toNat_natCast]
          exact ⟨by omega, hi, hi, fun _ => ⟨by omega, hi, hi, hi⟩⟩
        · unfold big18_l0_step letV
          dsimp only
          rw [if_pos (by omega), if_pos (by omega), Int.toNat_natCast]
          by_cases c : big16 (l.getD i zP) = true
          · rw [if_pos c]
            exact .inr ⟨_, rfl, fun _ => .inl rfl⟩
          · rw [if_neg c]
            refine .inl ⟨_, rfl, cntI hi (by omega), fun p hp' => ?_⟩
            rw [take_snoc hi zP, List.mem_append, List.mem_singleton] at hp'
            rcases hp' with hp' | rfl
            · exact hp p hp'
            · unfold big16 at c
              refine Classical.byContradiction fun q => c ?_
              rw [if_pos (by omega)]
      · obtain ⟨n, z⟩ := s
        obtain ⟨hj, hp⟩ := hj
        dsimp only at hj; subst hj
        rw [List.take_length] at hp
        refine ⟨?_, .inr n, ?_, fun _ => .inr hp⟩
        · unfold big18_l0_pre
          intro q
          dsimp only at q; omega
        · unfold big18_l0_step
          dsimp only
          rw [if_neg (by omega)]
    · refine TR.stop (r := .inr 0) ?_ ?_ (fun q => absurd q h12)
      · unfold big18_l0_pre
        intro _ q
        omega
      · unfold big18_l0_step
        dsimp only
        rw [if_pos (by omega), if_neg (by omega)]
  refine ⟨key.1, ?_⟩
  have k2 := key.2
  unfold big18 letV
  dsimp only
  generalize run (big18_l0_step l) (0, 0) = r at k2 ⊢
  cases r with
  | inl a => intro q; cases q
  | inr b =>
    intro q
    have q : (if ((l.length : Nat) : Int) > 12 then true else decide (b > 30)) = false := q
    by_cases c : ((l.length : Nat) : Int) > 12
    · rw [if_pos c] at q; cases q
    · have h12 : l.length ≤ 12 := by omega
      rcases k2 h12 with k | k
      · cases k
      · exact ⟨h12, k⟩
theorem few15_tm (m : Msh) : few15_pre (m, []) := by
  refine .mk _ (fun q => ?_) (fun s' e => ?_)
  · exact absurd q (by simp)
  · cases e
theorem few20_law (m : Msh) (a : Atl) : few20_pre (m, a) ∧ (few20 (m, a) = true → a.2.2.2.1.length ≤ 12 ∧ (∀ p ∈ a.2.2.2.1, p.1.length ≤ 15) ∧ a.2.2.2.2.length ≤ 30) := by
  obtain ⟨b1, b2⟩ := big18_law a.2.2.2.1
  unfold few20_pre few20 letP letV
  dsimp only
  refine ⟨⟨few15_tm m, fun _ => b1⟩, ?_⟩
  cases few15 (m, []) with
  | false => intro q; cases q
  | true =>
    rw [if_pos rfl]
    cases hb : big18 a.2.2.2.1 with
    | true => intro q; cases q
    | false =>
      rw [if_pos (by decide)]
      by_cases c : ((a.2.2.2.2.length : Nat) : Int) ≤ 30
      · intro _
        obtain ⟨b3, b4⟩ := b2 hb
        exact ⟨b3, b4, by omega⟩
      · rw [if_neg c]
        intro q; cases q
section
variable {m : Msh} {a : Atl} {o : List Int} (f : Fine m a o)
include f
theorem Fine.size : ((a.1.toNat : Nat) : Int) = a.1 ∧ ((a.2.1.toNat : Nat) : Int) = a.2.1 ∧ 1 ≤ a.1.toNat ∧ a.1.toNat ≤ 256 ∧ 1 ≤ a.2.1.toNat ∧ a.2.1.toNat ≤ 256 ∧ a.1.toNat * a.2.1.toNat ≤ 65536 := by
  have hwn : In1 a.1 := f.atl.num.1
  have hhn : In1 a.2.1 := f.atl.num.2.1
  obtain ⟨w1, w2⟩ := hwn
  obtain ⟨h1, h2⟩ := hhn
  have : a.1.toNat * a.2.1.toNat ≤ 256 * 256 := Nat.mul_le_mul (by omega) (by omega)
  omega
/-- A sample is sought where it is. -/
theorem Fine.lat {n : Nat} (hn : n < a.1.toNat * a.2.1.toNat) {s : Smp} (hs : smp m a.1.toNat (TT a) (Tris a.2.2.2.1) o n = some s) :
    Go.Proofs.YtfgdjlhilladhaaGreat.lat (smps m a.1.toNat (TT a) (Tris a.2.2.2.1) o (a.1.toNat * a.2.1.toNat), (s.1, s.2.1)) = (s, true) := by
  obtain ⟨e1, e2, w1, w2, h1, h2, hm⟩ := f.size
  have hle := smps_le m a.1.toNat (TT a) (Tris a.2.2.2.1) o (a.1.toNat * a.2.1.toNat)
  obtain ⟨_, k⟩ := lat_law (smps m a.1.toNat (TT a) (Tris a.2.2.2.1) o (a.1.toNat * a.2.1.toNat)) (by omega) (s.1, s.2.1)
  obtain ⟨g1, g2⟩ := smps_get m a.1.toNat (TT a) (Tris a.2.2.2.1) o hn hs
  have hin : s ∈ smps m a.1.toNat (TT a) (Tris a.2.2.2.1) o (a.1.toNat * a.2.1.toNat) := by rw [← g2]; exact getD_in g1 zS
  have hxy : ∀ n' s', smp m a.1.toNat (TT a) (Tris a.2.2.2.1) o n' = some s' → s'.1 = ((n' % a.1.toNat : Nat) : Int) ∧ s'.2.1 = ((n' / a.1.toNat : Nat) : Int) := fun n' s' h => by
    unfold smp at h
    split at h
    · cases h
    · cases h; exact ⟨rfl, rfl⟩
  rcases k with ⟨s', k1, k2, k3⟩ | ⟨k1, _⟩
  · obtain ⟨n', n1, n2⟩ := smps_mem m a.1.toNat (TT a) (Tris a.2.2.2.1) o k1
    obtain ⟨x1, x2⟩ := hxy n' s' n2
    obtain ⟨y1, y2⟩ := hxy n s hs
    obtain ⟨z1, z2⟩ := k2
    have z1 : s'.1 = s.1 := z1
    have z2 : s'.2.1 = s.2.1 := z2
    have q1 : n' % a.1.toNat = n % a.1.toNat := by omega
    have q2 : n' / a.1.toNat = n / a.1.toNat := by omega
    have : n' = n := by rw [idx_of q2 q1, ← idx_of (W := a.1.toNat) (n := n) rfl rfl]
    subst this
    rw [hs] at n2
    cases n2
    exact k3
  · exact absurd ⟨rfl, rfl⟩ (k1 s hin)
/-- Its triangle is found. -/
theorem Fine.find (hl : a.2.2.2.1.length ≤ 1000) (hl2 : a.2.2.2.2.length ≤ 1000) {k : Nat} (hk : k < (Tris a.2.2.2.1).length) :
    findM_pre (a, (Tris a.2.2.2.1).getD k 0) ∧ findM (a, (Tris a.2.2.2.1).getD k 0) = ((TT a).getD k zT, true) := by
  obtain ⟨p, q⟩ := afind_law a ((Tris a.2.2.2.1).getD k 0) (by omega) (by omega)
  refine ⟨p, ?_⟩
  rcases q with ⟨q, _⟩ | ⟨_, q⟩
  · exact absurd f.atl q
  · rcases q with ⟨k', k1, k2, k3⟩ | ⟨k1, _⟩
    · have : k' = k := nodup_getD f.atl.rgt.once k1 hk k2
      subst this
      exact k3
    · exact absurd (getD_in hk 0) k1
end
theorem tmod_nat (i w : Nat) : Int.tmod (i : Int) (w : Int) = ((i % w : Nat) : Int) := by
  rw [Int.tmod_eq_emod_of_nonneg (by omega)]; exact (Int.natCast_emod i w).symm
theorem tdiv_nat (i w : Nat) : Int.tdiv (i : Int) (w : Int) = ((i / w : Nat) : Int) := by
  rw [Int.tdiv_eq_ediv_of_nonneg (by omega)]; exact (Int.natCast_ediv i w).symm
theorem same_t (t : T2) : ((((t.1.1 == t.1.1) && ((t.1.2 == t.1.2) && true)) && (((t.2.1.1 == t.2.1.1) && ((t.2.1.2 == t.2.1.2) && true)) && (((t.2.2.1 == t.2.2.1) && ((t.2.2.2 == t.2.2.2) && true)) && true)))) = true := by simp
theorem same_s (s : Smp) : ((s.1 == s.1) && ((s.2.1 == s.2.1) && ((s.2.2.1 == s.2.2.1) && (((s.2.2.2.1 == s.2.2.2.1) && ((s.2.2.2.2.1 == s.2.2.2.2.1) && ((s.2.2.2.2.2 == s.2.2.2.2.2) && true))) && true)))) = true := by simp
theorem owners_loop {m : Msh} {a : Atl} {o : List Int} (f : Fine m a o) (hl : a.2.2.2.1.length ≤ 1000) (hl2 : a.2.2.2.2.length ≤ 1000) :
    TR (l20owners_l0_step (m, a)) (l20owners_l0_pre (m, a)) (smps m a.1.toNat (TT a) (Tris a.2.2.2.1) o (a.1.toNat * a.2.1.toNat), (TT a, (o, (0, 0)))) fun r => ∃ b, r = .inr b ∧ b.2 = ((b.1.length : Nat) : Int) := by
  obtain ⟨e1, e2, w1, w2, h1, h2, hm⟩ := f.size
  have g := f.gd
  have hN := g.own.len
  have hle := smps_le m a.1.toNat (TT a) (Tris a.2.2.2.1) o
  generalize hL : smps m a.1.toNat (TT a) (Tris a.2.2.2.1) o (a.1.toNat * a.2.1.toNat) = L
  refine for_loop (a.1.toNat * a.2.1.toNat) (fun i s => s = (L, (TT a, (o, (((smps m a.1.toNat (TT a) (Tris a.2.2.2.1) o i).length : Int), (i : Int)))))) _ (fun i s hi hj => ?_) (fun s hj => ?_) rfl
  · subst hj
    have hli := hle i
    by_cases c : o.getD i 0 < 0
    · refine ⟨?_, .inl ⟨_, ?_, rfl⟩⟩
      · unfold l20owners_l0_pre
        intro _
        dsimp only
        rw [Int.toNat_natCast]
        exact ⟨by omega, by omega, by omega, fun q => absurd c q⟩
      · have hs : smps m a.1.toNat (TT a) (Tris a.2.2.2.1) o (i + 1) = smps m a.1.toNat (TT a) (Tris a.2.2.2.1) o i := by
          rw [smps]
          unfold smp
          rw [if_pos c]; simp
        unfold l20owners_l0_step
        dsimp only
        rw [if_pos (by omega), Int.toNat_natCast, if_pos c, hs, cntI hi (by omega)]
    · obtain ⟨k1, k2, k3, k4, k5, k6⟩ := g.at_ hi c
      have hs : smp m a.1.toNat (TT a) (Tris a.2.2.2.1) o i = some (((i % a.1.toNat : Nat) : Int), (((i / a.1.toNat : Nat) : Int), ((Tris a.2.2.2.1).getD (o.getD i 0).toNat 0, (lpt m a.1.toNat (TT a) (Tris a.2.2.2.1) o i).1))) := by
        unfold smp
        rw [if_neg c]
      obtain ⟨s1, s2⟩ := smps_get m a.1.toNat (TT a) (Tris a.2.2.2.1) o hi hs
      rw [hL] at s1 s2
      have hlat := f.lat hi hs
      rw [hL] at hlat
      have hlp := (lat_law L (by rw [← hL]; have := hle (a.1.toNat * a.2.1.toNat); omega) (((i % a.1.toNat : Nat) : Int), ((i / a.1.toNat : Nat) : Int))).1
      obtain ⟨f1, f2⟩ := f.find hl hl2 k3
      have hsu : (smps m a.1.toNat (TT a) (Tris a.2.2.2.1) o (i + 1)).length = (smps m a.1.toNat (TT a) (Tris a.2.2.2.1) o i).length + 1 := by
        rw [smps, hs]; simp
      have d1 : Int.tmod (i : Int) a.1 = ((i % a.1.toNat : Nat) : Int) := by
        have := tmod_nat i a.1.toNat
        rwa [e1] at this
      have d2 : w64 (Int.tdiv (i : Int) a.1) = ((i / a.1.toNat : Nat) : Int) := by
        have h3 : i / a.1.toNat ≤ i := Nat.div_le_self _ _
        have := tdiv_nat i a.1.toNat
        rw [e1] at this
        rw [this]
        generalize i / a.1.toNat = q at h3
        exact w64_id (by omega) (by omega)
      have ha : a.1 ≠ 0 := by omega
      obtain ⟨k61, k62⟩ := k6
      generalize hS : (((i % a.1.toNat : Nat) : Int), (((i / a.1.toNat : Nat) : Int), ((Tris a.2.2.2.1).getD (o.getD i 0).toNat 0, (lpt m a.1.toNat (TT a) (Tris a.2.2.2.1) o i).1))) = S at s2 hlat
      have t1 : S.1 = ((i % a.1.toNat : Nat) : Int) := by rw [← hS]
      have t2 : S.2.1 = ((i / a.1.toNat : Nat) : Int) := by rw [← hS]
      have t3 : S.2.2.1 = (Tris a.2.2.2.1).getD (o.getD i 0).toNat 0 := by rw [← hS]
      have s3 : (L.getD (smps m a.1.toNat (TT a) (Tris a.2.2.2.1) o i).length ((0 : Int), ((0 : Int), ((0 : Int), ((0 : Int), ((0 : Int), (0 : Int))))))) = S := s2
      rw [← t3] at f1 f2 k61 k62
      rw [← t1, ← t2] at hlp
      refine ⟨?_, .inl ⟨_, ?_, rfl⟩⟩
      · unfold l20owners_l0_pre letP
        dsimp only
        rw [Int.toNat_natCast, Int.toNat_natCast, s3, f2, hlat]
        dsimp only
        have z1 : (0 : Int) ≤ (i : Int) ∧ (i : Int) < ((o.length : Nat) : Int) := by omega
        have z2 : i < o.length := by omega
        have z3 : (0 : Int) ≤ (((smps m a.1.toNat (TT a) (Tris a.2.2.2.1) o i).length : Nat) : Int) ∧ (((smps m a.1.toNat (TT a) (Tris a.2.2.2.1) o i).length : Nat) : Int) < ((L.length : Nat) : Int) := by omega
        exact fun _ => ⟨z1, z2, z2, fun _ _ => ⟨z3, s1, s1, s1, ha, fun _ => ⟨z3, s1, s1, s1, ha, fun _ => ⟨z3, s1, s1, s1, fun _ => ⟨z3, s1, s1, s1, fun _ => ⟨z3, s1, s1, s1, f1, z3, s1, s1, s1, z3, s1, s1, s1, hlp, fun _ => ⟨z1, z2, z2, ⟨k1, k4⟩, k2, k2, fun _ _ => ⟨z3, s1, s1⟩⟩⟩⟩⟩⟩⟩⟩
      · unfold l20owners_l0_step letV
        dsimp only
        rw [if_pos (by omega), Int.toNat_natCast, Int.toNat_natCast, if_neg c, if_neg (by omega), s3, f2, hlat]
        dsimp only
        rw [d1, d2, if_neg (by rw [t1]; simp), if_neg (by rw [t2]; simp), if_neg (by omega), if_neg (by omega), if_neg (by decide)]
        rw [if_neg (by rw [show (TT a).getD (o.getD i 0).toNat ((0, 0), ((0, 0), (0, 0))) = (TT a).getD (o.getD i 0).toNat zT from rfl, same_t]; decide), if_neg (by decide), if_neg (by rw [same_s]; decide)]
        rw [cntI hi (by omega), hsu, w64_id (n := (((smps m a.1.toNat (TT a) (Tris a.2.2.2.1) o i).length : Nat) : Int) + 1) (by omega) (by omega)]
        rfl
  · subst hj
    refine ⟨?_, .inr (L, ((L.length : Nat) : Int)), ?_, _, rfl, rfl⟩
    · unfold l20owners_l0_pre
      intro q
      dsimp only at q; omega
    · unfold l20owners_l0_step
      dsimp only
      rw [if_neg (by omega), hL]
theorem owners_law (x : Arg) : l20owners_pre x ∧ l20owners x = true := by
  obtain ⟨m, a⟩ := x
  obtain ⟨f1, f2⟩ := few20_law m a
  unfold l20owners_pre l20owners letP letV
  cases hf : few20 (m, a) with
  | false => exact ⟨⟨f1, fun q => absurd rfl q⟩, rfl⟩
  | true =>
    obtain ⟨b1, b2, b3⟩ := f2 hf
    obtain ⟨s1, s2⟩ := lsamples_law m a (by omega) (by omega) (fun p hp => by have := b2 p hp; omega)
    dsimp only
    rw [if_neg (by decide)]
    rcases s2 with ⟨e, he, s2⟩ | ⟨o, f, s2⟩
    · rw [s2]
      dsimp only
      have hb : (e != 0) = true := by simpa using he
      rw [if_pos hb, lifted_law]
      exact ⟨⟨f1, fun _ => ⟨s1, fun _ => lifted_tm false, fun q => absurd hb q⟩⟩, rfl⟩
    · rw [s2, f.all, lifted_law]
      obtain ⟨i1, _⟩ := all_law a (by omega) (by omega)
      obtain ⟨e1, e2, w1, w2, h1, h2, hm⟩ := f.size
      have g := f.gd
      have hN := g.own.len
      have ow := rowners_law a.1.toNat a.2.1.toNat g.w g.h (TT a) (by
        have := allT_len f.atl.rgt a.2.2.2.2 a.2.2.1 a.2.2.2.1.length (Nat.le_refl _)
        unfold TT; omega)
      rw [e1, e2] at ow
      have k := owners_loop f (by omega) (by omega)
      have hn : ¬ ((((o.length : Nat) : Int) != w64 (a.1 * a.2.1)) = true) := by
        have : a.1 * a.2.1 = ((a.1.toNat * a.2.1.toNat : Nat) : Int) := by rw [Int.natCast_mul, e1, e2]
        rw [this, w64_id (by omega) (by omega), hN]; simp
      dsimp only
      rw [f.own]
      dsimp only
      rw [if_neg (by decide), if_neg (by decide), if_neg (by decide), if_neg hn]
      obtain ⟨b, k1, k2⟩ := k.2
      rw [k1]
      refine ⟨⟨f1, fun _ => ⟨s1, fun q => absurd q (by decide), fun _ => ⟨i1, ow.1, fun _ _ _ => ⟨k.1, lifted_tm false⟩⟩⟩⟩, ?_⟩
      show (if true = true then (b.2 == ((b.1.length : Nat) : Int)) else false) = true
      rw [k2]; simp
end Go.Proofs.YtfgdjlhilladhaaGreat
