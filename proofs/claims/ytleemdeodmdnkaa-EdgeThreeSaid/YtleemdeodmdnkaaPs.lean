/- Plain laws: neighbours. -/
import Derived.Test.YtleemdeodmdnkaaPe
noncomputable section
set_option linter.unusedSectionVars false
set_option linter.unusedVariables false
set_option linter.unusedSimpArgs false
namespace Go.Proofs.Ytleemdeodmdnkaa
open Go Go.Ev Go.Proofs
theorem mem_sortZ (l : List Int) (z:Int) : z ∈ sortZ l ↔ z ∈ l := List.mem_mergeSort
theorem mem_compZ (l : List Int) (z:Int) : z ∈ compZ l ↔ z ∈ l := by
 unfold compZ Lib.compact Lib.compactUpTo
 have hb : ∀ j,j < l.length → l.toArray[j]! = l.getD j 0 := fun j hj => by
  rw [getElem!_pos l.toArray j (by simpa using hj),List.getD_eq_getElem?_getD,List.getElem?_eq_getElem hj]; rfl
 rw [List.mem_map]
 constructor
 ·rintro ⟨j,hj,rfl⟩
  have hj : j < l.length := List.mem_range.1 (List.mem_filter.1 hj).1
  rw [hb j hj]; exact getD_in hj 0
 ·intro hz
  obtain ⟨j,hj,rfl⟩ := mem_getD hz 0
  induction j with
  | zero => exact ⟨0,List.mem_filter.2 ⟨List.mem_range.2 hj,by simp [Lib.keeps]⟩,hb 0 hj⟩
  | succ j ih =>
   by_cases hk : Lib.keeps l.toArray (j + 1) = true
   ·exact ⟨j + 1,List.mem_filter.2 ⟨List.mem_range.2 hj,hk⟩,hb _ hj⟩
   ·have e : l.toArray[j + 1]! = l.toArray[j]! := by
     simp only [Lib.keeps,decide_eq_true_eq,not_or,Decidable.not_not] at hk
     exact hk.2
    rw [hb _ hj,hb _ (by omega)] at e
    rw [e]
    exact ih (by omega) (getD_in (by omega) 0)
abbrev NX : Type := Mp × (Msh × Int)
theorem enear_in (x : NX) (ps : List P2) (i:Nat) (p : P2) (y : List Int) (hy : y.length ≤ 1500) (out : List Int) (ho : out.length ≤ 5000) :
  TR (enear_l2_7_step x) (enear_l2_7_pre x) (out,(ps,((ps.length:Int),((i:Int),(p,(y,((y.length:Int),0))))))) (fun r => ∃ o,r = (o,(ps,((ps.length:Int),(i:Int)))) ∧ o.length ≤ out.length + 1500 ∧ ∀ k,k ∈ o ↔ k ∈ out ∨ (k ≠ x.2.2 ∧ k ∈ y)) := by
 refine for_loop y.length (fun j s => ∃ o,s = (o,(ps,((ps.length:Int),((i:Int),(p,(y,((y.length:Int),(j:Int)))))))) ∧ o.length ≤ out.length + j ∧ ∀ k,k ∈ o ↔ k ∈ out ∨ (k ≠ x.2.2 ∧ k ∈ y.take j)) _ (fun j s hj ⟨o,e,h1,h2⟩ => ?_) (fun s ⟨o,e,h1,h2⟩ => ?_) ⟨out,rfl,Nat.le_refl _,fun k => by simp⟩
 ·subst e
  constructor
  ·unfold enear_l2_7_pre
   dsimp only
   intro _
   rw [Int.toNat_natCast]
   exact ⟨⟨by omega,by omega⟩,hj,hj,fun _ => by omega⟩
  ·refine .inl ?_
   unfold enear_l2_7_step
   dsimp only
   rw [if_pos (by omega),Int.toNat_natCast,cnt (n := 1500) (by omega) (by omega)]
   by_cases hk : y.getD j 0 = x.2.2
   ·rw [if_neg (by simpa using hk)]
    refine ⟨_,rfl,o,rfl,by omega,fun k => ?_⟩
    rw [h2 k,take_snoc hj 0,List.mem_append,List.mem_singleton]
    constructor
    ·rintro (h | ⟨h,h'⟩)
     ·exact .inl h
     ·exact .inr ⟨h,.inl h'⟩
    ·rintro (h | ⟨h,h' | h'⟩)
     ·exact .inl h
     ·exact .inr ⟨h,h'⟩
     ·exact absurd (h'.trans hk) h
   ·rw [if_pos (by simpa using hk)]
    refine ⟨_,rfl,_,rfl,by rw [List.length_append,List.length_singleton]; omega,fun k => ?_⟩
    rw [List.mem_append,List.mem_singleton,h2 k,take_snoc hj 0,List.mem_append,List.mem_singleton]
    constructor
    ·rintro ((h | ⟨h,h'⟩) | h)
     ·exact .inl h
     ·exact .inr ⟨h,.inl h'⟩
     ·exact .inr ⟨fun e => hk (h ▸ e),.inr h⟩
    ·rintro (h | ⟨h,h' | h'⟩)
     ·exact .inl (.inl h)
     ·exact .inl (.inr ⟨h,h'⟩)
     ·exact .inr h'
 ·subst e
  constructor
  ·unfold enear_l2_7_pre
   dsimp only
   intro h; omega
  ·unfold enear_l2_7_step
   dsimp only
   rw [if_neg (by omega)]
   refine ⟨_,rfl,o,rfl,by omega,fun k => ?_⟩
   rw [h2 k,List.take_length]
theorem enear_out (x : NX) (ps : List P2) (hps : ps.length ≤ 3) (hB : MapB x.1 1500) :
  TR (enear_l0_7_step x) (enear_l0_7_pre x) ([],(ps,((ps.length:Int),0))) (fun r => r.length ≤ 4500 ∧ ∀ k,k ∈ r ↔ k ≠ x.2.2 ∧ ∃ p ∈ ps,k ∈ lk x.1 p) := by
 refine for_loop ps.length (fun j s => ∃ o,s = (o,(ps,((ps.length:Int),(j:Int)))) ∧ o.length ≤ 1500 * j ∧ ∀ k,k ∈ o ↔ k ≠ x.2.2 ∧ ∃ p ∈ ps.take j,k ∈ lk x.1 p) _ (fun j s hj ⟨o,e,h1,h2⟩ => ?_) (fun s ⟨o,e,h1,h2⟩ => ?_) ⟨[],rfl,by simp,fun k => by simp⟩
 ·subst e
  have hin := enear_in x ps j (ps.getD j (0,0)) (lk x.1 (ps.getD j (0,0))) (hB _) o (by omega)
  constructor
  ·unfold enear_l0_7_pre
   dsimp only [letP]
   intro _
   rw [Int.toNat_natCast]
   exact ⟨⟨by omega,by omega⟩,hj,hj,hin.1⟩
  ·refine .inl ?_
   unfold enear_l0_7_step
   dsimp only [letV]
   rw [if_pos (by omega),Int.toNat_natCast]
   obtain ⟨o',g1,g2,g3⟩ := hin.2
   unfold lk at g1
   rw [g1]
   dsimp only
   rw [cnt (n := 100) (by omega) (by omega)]
   refine ⟨_,rfl,o',rfl,by omega,fun k => ?_⟩
   rw [g3 k,h2 k,take_snoc hj (0,0)]
   constructor
   ·rintro (⟨h,p,h',h''⟩ | ⟨h,h'⟩)
    ·exact ⟨h,p,by simp [h'],h''⟩
    ·exact ⟨h,_,by simp,h'⟩
   ·rintro ⟨h,p,h',h''⟩
    rw [List.mem_append,List.mem_singleton] at h'
    rcases h' with h' | rfl
    ·exact .inl ⟨h,p,h',h''⟩
    ·exact .inr ⟨h,h''⟩
 ·subst e
  constructor
  ·unfold enear_l0_7_pre
   dsimp only
   intro h; omega
  ·unfold enear_l0_7_step
   dsimp only
   rw [if_neg (by omega)]
   refine ⟨_,rfl,by omega,fun k => ?_⟩
   rw [h2 k,List.take_length]
theorem enear_law (M : Mp) (m : Msh) (i:Int) (hi : Has m i) (hB : MapB M 1500) : enear_pre (M,(m,i)) ∧ (∀ k,k ∈ (enear (M,(m,i))).1 ↔ k ≠ i ∧ ∃ p ∈ Prs (Trg m i),k ∈ lk M p) ∧ (enear (M,(m,i))).1.length ≤ 4500 := by
 have eT : m.2.2.2.getD i.toNat ((0,(0,0)),((0,(0,0)),(0,(0,0)))) = Trg m i := rfl
 have h := enear_out (M,(m,i)) (Prs (Trg m i)) (prs_len _) hB
 have hl : ∀ l : List Int,(sortZ l).length = l.length := fun l => List.length_mergeSort l
 refine ⟨?_,fun k => ?_,?_⟩
 ·unfold enear_pre
  dsimp only [letP]
  rw [eT,(epairs_law _).2]
  have := h.2.1
  exact ⟨hi,by omega,by omega,(epairs_law _).1,h.1,by omega,by rw [hl]; omega⟩
 ·unfold enear
  dsimp only [letV]
  rw [eT,(epairs_law _).2,mem_compZ,mem_sortZ]
  exact h.2.2 k
 ·unfold enear
  dsimp only [letV]
  rw [eT,(epairs_law _).2]
  refine Nat.le_trans (compact_le _) ?_
  rw [hl]; exact h.2.1
def Adj (m : Msh) (i k:Int) : Prop := k ≠ i ∧ Has m k ∧ ∃ p ∈ Prs (Trg m i),p ∈ Prs (Trg m k)
theorem enext_law {m : Msh} (hm : meshB m = true) {i : Int} (hi : Has m i) : enext_pre (m,i) ∧ (∀ k,k ∈ (enext (m,i)).1 ↔ Adj m i k) ∧ (enext (m,i)).1.length ≤ 4500 := by
 have hn := (mesh_len hm).2.2.2
 obtain ⟨t1,t2,t3⟩ := etable_law m hn
 obtain ⟨n1,n2,n3⟩ := enear_law (etable m) m i hi t2
 refine ⟨?_,fun k => ?_,?_⟩
 rotate_right
 ·unfold enext
  dsimp only [letV]
  rw [(meshis_law m).2,hm,if_neg (by decide),if_neg (by omega),if_neg (by omega)]
  exact n3
 ·unfold enext_pre
  dsimp only [letP]
  exact ⟨(meshis_law m).1,fun _ _ _ => ⟨t1,n1⟩⟩
 ·unfold enext
  dsimp only [letV]
  rw [(meshis_law m).2,hm,if_neg (by decide),if_neg (by omega),if_neg (by omega),n2 k]
  unfold Adj
  constructor
  ·rintro ⟨h1,p,h2,h3⟩
   rcases (t3 p k).1 h3 with ⟨a,a1,rfl,a3⟩ | ⟨_,h4⟩
   ·exact ⟨h1,⟨by omega,by omega⟩,p,h2,a3⟩
   ·simp at h4
  ·rintro ⟨h1,h2,p,h3,h4⟩
   refine ⟨h1,p,h3,(t3 p k).2 (.inl ⟨k.toNat,by omega,by omega,?_⟩)⟩
   rw [show ((k.toNat:Nat):Int) = k by omega]; exact h4
end Go.Proofs.Ytleemdeodmdnkaa

namespace Go.Proofs.Ytleemdeodmdnkaa
open Go Go.Ev Go.Proofs
theorem sortZ_le (l : List Int) : (sortZ l).Pairwise (· ≤ ·) := by
 have h := List.pairwise_mergeSort (le := fun x y : Int => decide (x ≤ y)) (fun a b c h1 h2 => by simp only [decide_eq_true_eq] at *; omega) (fun a b => by simp only [Bool.or_eq_true,decide_eq_true_eq]; omega) l
 exact h.imp fun h => of_decide_eq_true h
theorem compZ_lt {l : List Int} (h : l.Pairwise (· ≤ ·)) : (compZ l).Pairwise (· < ·) := by
 unfold compZ Lib.compact Lib.compactUpTo
 have hb : ∀ j,j < l.length → l.toArray[j]! = l.getD j 0 := fun j hj => by
  rw [getElem!_pos l.toArray j (by simpa using hj),List.getD_eq_getElem?_getD,List.getElem?_eq_getElem hj]; rfl
 have hle : ∀ i j,i ≤ j → j < l.length → l.getD i 0 ≤ l.getD j 0 := fun i j hij hj => by
  rcases Nat.lt_or_ge i j with h1 | h1
  ·have := List.pairwise_iff_getElem.1 h i j (by omega) hj h1
   rw [List.getD_eq_getElem?_getD,List.getElem?_eq_getElem (by omega),List.getD_eq_getElem?_getD,List.getElem?_eq_getElem hj]
   exact this
  ·rw [show i = j by omega]; exact Int.le_refl _
 rw [List.pairwise_map]
 have h1 : ((List.range l.length).filter (Lib.keeps l.toArray)).Pairwise (· < ·) := List.pairwise_lt_range.filter _
 refine List.Pairwise.imp_of_mem (fun {a b} ha hb' hab => ?_) h1
 have a1 := List.mem_range.1 (List.mem_filter.1 ha).1
 have b1 := List.mem_range.1 (List.mem_filter.1 hb').1
 have b2 := (List.mem_filter.1 hb').2
 simp only [Lib.keeps,decide_eq_true_eq] at b2
 rcases b2 with b2 | b2
 ·omega
 ·rw [hb b b1,hb (b - 1) (by omega)] at b2
  rw [hb a a1,hb b b1]
  have q1 := hle a (b - 1) (by omega) (by omega)
  have q2 := hle (b - 1) b (by omega) b1
  omega
theorem enear_lt (x : NX) : (enear x).1.Pairwise (· < ·) := compZ_lt (sortZ_le _)
theorem ext_lt {a b : List Int} (ha : a.Pairwise (· < ·)) (hb : b.Pairwise (· < ·)) (h : ∀ k,k ∈ a ↔ k ∈ b) : a = b := by
 have na : a.Nodup := ha.imp fun h => Int.ne_of_lt h
 have nb : b.Nodup := hb.imp fun h => Int.ne_of_lt h
 refine ((List.perm_ext_iff_of_nodup na nb).2 h).eq_of_pairwise (le := (· < ·)) (fun x y _ _ h1 h2 => ?_) ha hb
 have h1 : x < y := h1
 have h2 : y < x := h2
 omega
theorem enext_full {m : Msh} (hm : meshB m = true) {i : Int} (hi : Has m i) : enext_pre (m,i) ∧ (∀ k,k ∈ (enext (m,i)).1 ↔ Adj m i k) ∧ (enext (m,i)).1.length ≤ 4500 ∧ (enext (m,i)).1.Pairwise (· < ·) ∧ (enext (m,i)).2 = 0 := by
 obtain ⟨h1,h2,h3⟩ := enext_law hm hi
 refine ⟨h1,h2,h3,?_,?_⟩
 ·unfold enext
  dsimp only [letV]
  rw [(meshis_law m).2,hm,if_neg (by decide),if_neg (by have := hi.1; omega),if_neg (by have := hi.2; omega)]
  exact enear_lt _
 ·unfold enext
  dsimp only [letV]
  rw [(meshis_law m).2,hm,if_neg (by decide),if_neg (by have := hi.1; omega),if_neg (by have := hi.2; omega)]
theorem enext_bad {m : Msh} {i : Int} (h : meshB m = false ∨ ¬ Has m i) : enext_pre (m,i) ∧ enext (m,i) = ([],1) := by
 constructor
 ·unfold enext_pre
  dsimp only [letP]
  refine ⟨(meshis_law m).1,fun q1 q2 q3 => ?_⟩
  exfalso
  rw [(meshis_law m).2] at q1
  rcases h with h | h
  ·rw [h] at q1; exact q1 rfl
  ·exact h ⟨by omega,by omega⟩
 ·unfold enext
  dsimp only [letV]
  rw [(meshis_law m).2]
  rcases h with h | h
  ·rw [h,if_pos (by decide)]
  ·cases meshB m with
   | false => rw [if_pos (by decide)]
   | true =>
    rw [if_neg (by decide)]
    by_cases h1 : i < 0
    ·rw [if_pos h1]
    ·rw [if_neg h1]
     by_cases h2 : i ≥ (m.2.2.2.length:Int)
     ·rw [if_pos h2]
     ·exact absurd ⟨by omega,by omega⟩ h
end Go.Proofs.Ytleemdeodmdnkaa
