/- Sorting, plain: the patterns that are broken. -/
import Derived.Test.YtaipcbdilkcdbaaTf
noncomputable section
set_option linter.unusedSectionVars false
set_option linter.unusedVariables false
set_option linter.unusedSimpArgs false
namespace Go.Proofs.Ytaipcbdilkcdbaa
open Go Go.Ev Go.Proofs

theorem u8w (n:Int) : IntKind.wrap IntKind.u8 n = n % 256 := by simp [IntKind.wrap,IntKind.bits,IntKind.signed]
theorem u64w (n:Int) : IntKind.wrap IntKind.u64 n = n % 18446744073709551616 := by simp [IntKind.wrap,IntKind.bits,IntKind.signed]
theorem fdN (n c:Nat) : Int.fdiv (n:Int) (c:Int) = ((n / c:Nat):Int) := by
 rw [Int.fdiv_eq_ediv_of_nonneg _ (Int.natCast_nonneg c)]; rfl
def tB (T : ByteArray) (k:Int) (z:Int) : Int := w64 (k + (w64 (((UInt8.toNat (ByteArray.get! T (Int.toNat (IntKind.wrap IntKind.u8 z)))):Nat):Int)))
def bitT : ByteArray := ⟨((List.range 256).map fun b => UInt8.ofNat (if b = 0 then 0 else Nat.log2 b + 1)).toArray⟩
theorem bitT_law : ∀ b,b < 256 → UInt8.toNat (ByteArray.get! bitT b) ≤ 8 ∧ (0 < b → 2 ^ UInt8.toNat (ByteArray.get! bitT b) ≤ 2 * b) := by decide +kernel
theorem len_eq (x:Int) : len64M x =
  (if (x ≥ (4294967296:Int)) then
   (if ((Int.fdiv x (4294967296:Int)) ≥ (65536:Int)) then
    (if ((Int.fdiv (Int.fdiv x (4294967296:Int)) (65536:Int)) ≥ (256:Int)) then tB bitT 56 (Int.fdiv (Int.fdiv (Int.fdiv x (4294967296:Int)) (65536:Int)) (256:Int)) else tB bitT 48 (Int.fdiv (Int.fdiv x (4294967296:Int)) (65536:Int))) else
    (if ((Int.fdiv x (4294967296:Int)) ≥ (256:Int)) then tB bitT 40 (Int.fdiv (Int.fdiv x (4294967296:Int)) (256:Int)) else tB bitT 32 (Int.fdiv x (4294967296:Int)))) else
   (if (x ≥ (65536:Int)) then
    (if ((Int.fdiv x (65536:Int)) ≥ (256:Int)) then tB bitT 24 (Int.fdiv (Int.fdiv x (65536:Int)) (256:Int)) else tB bitT 16 (Int.fdiv x (65536:Int))) else
    (if (x ≥ (256:Int)) then tB bitT 8 (Int.fdiv x (256:Int)) else tB bitT 0 x))) := by kernel_rfl
theorem len_form : ∃ T : ByteArray,(∀ b,b < 256 → UInt8.toNat (ByteArray.get! T b) ≤ 8 ∧ (0 < b → 2 ^ UInt8.toNat (ByteArray.get! T b) ≤ 2 * b)) ∧ ∀ x,len64M x =
  (if (x ≥ (4294967296:Int)) then
   (if ((Int.fdiv x (4294967296:Int)) ≥ (65536:Int)) then
    (if ((Int.fdiv (Int.fdiv x (4294967296:Int)) (65536:Int)) ≥ (256:Int)) then tB T 56 (Int.fdiv (Int.fdiv (Int.fdiv x (4294967296:Int)) (65536:Int)) (256:Int)) else tB T 48 (Int.fdiv (Int.fdiv x (4294967296:Int)) (65536:Int))) else
    (if ((Int.fdiv x (4294967296:Int)) ≥ (256:Int)) then tB T 40 (Int.fdiv (Int.fdiv x (4294967296:Int)) (256:Int)) else tB T 32 (Int.fdiv x (4294967296:Int)))) else
   (if (x ≥ (65536:Int)) then
    (if ((Int.fdiv x (65536:Int)) ≥ (256:Int)) then tB T 24 (Int.fdiv (Int.fdiv x (65536:Int)) (256:Int)) else tB T 16 (Int.fdiv x (65536:Int))) else
    (if (x ≥ (256:Int)) then tB T 8 (Int.fdiv x (256:Int)) else tB T 0 x))) := ⟨bitT,bitT_law,len_eq⟩
theorem tB_law {T : ByteArray} (hT : ∀ b,b < 256 → UInt8.toNat (ByteArray.get! T b) ≤ 8 ∧ (0 < b → 2 ^ UInt8.toNat (ByteArray.get! T b) ≤ 2 * b)) (k b n:Nat) (hb : 0 < b) (hb2 : b < 256) (hk : k ≤ 56) (hn : 2 ^ k * b ≤ n) :
  ∃ y : Nat,tB T (k:Int) (b:Int) = (y:Int) ∧ y ≤ 64 ∧ 2 ^ y ≤ 2 * n := by
 obtain ⟨h1,h2⟩ := hT b hb2
 refine ⟨k + UInt8.toNat (ByteArray.get! T b),?_,by omega,?_⟩
 ·unfold tB
  rw [u8w,show ((b:Int) % 256) = (b:Int) by omega,Int.toNat_natCast,w64_id (n := ((UInt8.toNat (ByteArray.get! T b):Nat):Int)) (by omega) (by omega),w64_id (by omega) (by omega)]
  omega
 ·rw [Nat.pow_add]
  calc 2 ^ k * 2 ^ UInt8.toNat (ByteArray.get! T b) ≤ 2 ^ k * (2 * b) := Nat.mul_le_mul_left _ (h2 hb)
   _ = 2 * (2 ^ k * b) := by rw [Nat.mul_left_comm]
   _ ≤ 2 * n := by omega
theorem len_law (n:Nat) (h : 0 < n) (hn : n < 9223372036854775808) : len64M_pre (n:Int) ∧ ∃ y : Nat,len64M (n:Int) = (y:Int) ∧ y ≤ 64 ∧ 2 ^ y ≤ 2 * n := by
 obtain ⟨T,hT,hx⟩ := len_form
 have f1 : ∀ m : Nat,Int.fdiv (m:Int) 4294967296 = ((m / 4294967296:Nat):Int) := fun m => fdN m 4294967296
 have f2 : ∀ m : Nat,Int.fdiv (m:Int) 65536 = ((m / 65536:Nat):Int) := fun m => fdN m 65536
 have f3 : ∀ m : Nat,Int.fdiv (m:Int) 256 = ((m / 256:Nat):Int) := fun m => fdN m 256
 refine ⟨?_,?_⟩
 ·simp only [len64M_pre,u8w]
  repeat' (first | with_reducible apply And.intro | intro _)
  all_goals omega
 ·rw [hx]
  simp only [f1,f2,f3]
  repeat' split
  ·exact tB_law hT 56 _ n (by omega) (by omega) (by omega) (by simp only [Nat.reducePow]; omega)
  ·exact tB_law hT 48 _ n (by omega) (by omega) (by omega) (by simp only [Nat.reducePow]; omega)
  ·exact tB_law hT 40 _ n (by omega) (by omega) (by omega) (by simp only [Nat.reducePow]; omega)
  ·exact tB_law hT 32 _ n (by omega) (by omega) (by omega) (by simp only [Nat.reducePow]; omega)
  ·exact tB_law hT 24 _ n (by omega) (by omega) (by omega) (by simp only [Nat.reducePow]; omega)
  ·exact tB_law hT 16 _ n (by omega) (by omega) (by omega) (by simp only [Nat.reducePow]; omega)
  ·exact tB_law hT 8 _ n (by omega) (by omega) (by omega) (by simp only [Nat.reducePow]; omega)
  ·exact tB_law hT 0 _ n (by omega) (by omega) (by omega) (by simp only [Nat.reducePow]; omega)
theorem npot_law (n:Nat) (h : 0 < n) (hn : n < 4611686018427387904) : npotM_pre (n:Int) ∧ ∃ m : Nat,npotM (n:Int) = (m:Int) ∧ 0 < m ∧ m ≤ 2 * n := by
 obtain ⟨h1,y,h2,h3,h4⟩ := len_law n h (by omega)
 have e : IntKind.wrap IntKind.u64 (n:Int) = (n:Int) := by rw [u64w]; omega
 have hp : 0 < 2 ^ y := Nat.two_pow_pos y
 refine ⟨?_,2 ^ y,?_,hp,h4⟩
 ·simp only [npotM_pre,lenM_pre,lenM,letP,letV,e,h2]
  exact ⟨h1,by omega⟩
 ·simp only [npotM,lenM,letV,e,h2,Int.toNat_natCast,u64w,Int.one_mul]
  rw [Nat.min_eq_left h3]
  have : ((2:Int) ^ y) = ((2 ^ y:Nat):Int) := by push_cast; rfl
  rw [this]
  omega

theorem brk_loop (x : List Int × Int × Int × RT) (a b m:Nat) (hx : x.2.1 = (a:Int)) (hx2 : x.2.2.1 = (b:Int)) (h8 : 8 ≤ b - a) (hm : 0 < m) (hm2 : m ≤ 2 * (b - a)) : ∀ (n:Nat) (d : List Int) (s:Int) (i:Nat),Fine x.2.2.2 d → b ≤ d.length → a ≤ i → (a + (b - a) / 4 * 2 + 1) + 1 - i ≤ n →
  TR (brkM_l0_3_step x) (brkM_l0_3_pre x) (d,(s,((m:Int),(i:Int)))) fun r => Out x.2.2.2 d a b r := by
 intro n
 induction n with
 | zero =>
  intro d s i hf hb hi hn
  have hl := hf.len
  have e : w64 ((b:Int) - (a:Int)) = ((b - a:Nat):Int) := w64N (by omega) (by omega)
  have e0 : w64 (Int.tdiv ((b - a:Nat):Int) 4) = (((b - a) / 4:Nat):Int) := w64N (by rw [Int.tdiv_eq_ediv_of_nonneg (by omega)]; omega) (by omega)
  have m2 : w64 ((((b - a) / 4:Nat):Int) * 2) = (((b - a) / 4 * 2:Nat):Int) := w64N (by omega) (by omega)
  have n2 : w64 ((a:Int) + (((b - a) / 4 * 2:Nat):Int)) = ((a + (b - a) / 4 * 2:Nat):Int) := w64N (by omega) (by omega)
  have n3 : w64 (((a + (b - a) / 4 * 2:Nat):Int) + 1) = ((a + (b - a) / 4 * 2 + 1:Nat):Int) := w64N (by omega) (by omega)
  refine TR.stop (r := d) ?_ ?_ ⟨Sort.permIn_refl _ _ _,rfl,hf⟩
  ·simp only [brkM_l0_3_pre,hx,hx2,e,e0,m2,n2,n3]; intro h; exfalso; omega
  ·simp only [brkM_l0_3_step,hx,hx2,e,e0,m2,n2,n3]; rw [if_neg (by omega)]
 | succ n ih =>
  intro d s i hf hb hi hn
  have hl := hf.len
  have e : w64 ((b:Int) - (a:Int)) = ((b - a:Nat):Int) := w64N (by omega) (by omega)
  have e0 : w64 (Int.tdiv ((b - a:Nat):Int) 4) = (((b - a) / 4:Nat):Int) := w64N (by rw [Int.tdiv_eq_ediv_of_nonneg (by omega)]; omega) (by omega)
  have m2 : w64 ((((b - a) / 4:Nat):Int) * 2) = (((b - a) / 4 * 2:Nat):Int) := w64N (by omega) (by omega)
  have n2 : w64 ((a:Int) + (((b - a) / 4 * 2:Nat):Int)) = ((a + (b - a) / 4 * 2:Nat):Int) := w64N (by omega) (by omega)
  have n3 : w64 (((a + (b - a) / 4 * 2:Nat):Int) + 1) = ((a + (b - a) / 4 * 2 + 1:Nat):Int) := w64N (by omega) (by omega)
  by_cases hc : i ≤ a + (b - a) / 4 * 2 + 1
  ·have ho : BitVec.toNat ((BitVec.ofInt 64 (nextM s).1) &&& (BitVec.ofInt 64 (IntKind.wrap IntKind.u64 ((m:Int) - 1)))) < 2 * (b - a) := by
    rw [BitVec.toNat_and]
    refine Nat.lt_of_le_of_lt Nat.and_le_right ?_
    have e5 : IntKind.wrap IntKind.u64 ((m:Int) - 1) = ((m - 1:Nat):Int) := by rw [u64w]; omega
    rw [e5,BitVec.ofInt_natCast,BitVec.toNat_ofNat]
    exact Nat.lt_of_le_of_lt (Nat.mod_le _ _) (by omega)
   obtain ⟨o,hoe⟩ : ∃ o,o = BitVec.toNat ((BitVec.ofInt 64 (nextM s).1) &&& (BitVec.ofInt 64 (IntKind.wrap IntKind.u64 ((m:Int) - 1)))) := ⟨_,rfl⟩
   rw [← hoe] at ho
   have e6 : w64 (IntKind.wrap IntKind.u64 (o:Int)) = (o:Int) := by rw [u64w]; exact w64N (by omega) (by omega)
   have e7 : w64 ((i:Int) + 1) = ((i + 1:Nat):Int) := w64N (by omega) (by omega)
   obtain ⟨j,hj⟩ : ∃ j,j = if o ≥ b - a then a + (o - (b - a)) else a + o := ⟨_,rfl⟩
   have hj1 : a ≤ j ∧ j < b := by rw [hj]; split <;> omega
   have hs := Sort.swp_permIn d.toArray a b i j hi (by omega) hj1.1 hj1.2 (by simpa using hb)
   refine TR.go (s' := (sw d i j,((nextM s).2,((m:Int),((i + 1:Nat):Int))))) ?_ ?_ ((ih _ _ (i + 1) (hf.sw (i := i) (j := j) (by omega) (by omega)) (by rw [sw_len]; omega) (by omega) (by omega)).mono fun r hr => ⟨Sort.permIn_trans _ _ _ _ _ hs (by rw [← sw_arr]; exact hr.1),by rw [hr.2.1,sw_len],hr.2.2⟩)
   ·simp only [brkM_l0_3_pre,letP,hx,hx2,e,e0,m2,n2,n3,← hoe,e6,List.length_set,Int.toNat_natCast]
    intro _
    refine ⟨fun h => ?_,fun h => ?_⟩
    ·have e8 : w64 ((o:Int) - ((b - a:Nat):Int)) = ((o - (b - a):Nat):Int) := w64N (by omega) (by omega)
     have e9 : w64 ((a:Int) + ((o - (b - a):Nat):Int)) = ((a + (o - (b - a)):Nat):Int) := w64N (by omega) (by omega)
     simp only [e8,e9,Int.toNat_natCast]
     repeat' (first | with_reducible apply And.intro | intro _)
     all_goals omega
    ·have e9 : w64 ((a:Int) + (o:Int)) = ((a + o:Nat):Int) := w64N (by omega) (by omega)
     simp only [e9,Int.toNat_natCast]
     repeat' (first | with_reducible apply And.intro | intro _)
     all_goals omega
   ·simp only [brkM_l0_3_step,letV,hx,hx2,e,e0,m2,n2,n3,← hoe,e6,e7,Int.toNat_natCast]
    rw [if_pos (by omega)]
    by_cases h : o ≥ b - a
    ·have e8 : w64 ((o:Int) - ((b - a:Nat):Int)) = ((o - (b - a):Nat):Int) := w64N (by omega) (by omega)
     have e9 : w64 ((a:Int) + ((o - (b - a):Nat):Int)) = ((a + (o - (b - a)):Nat):Int) := w64N (by omega) (by omega)
     rw [if_pos (by omega),hj,if_pos h]
     simp only [e8,e9,Int.toNat_natCast]; rfl
    ·have e9 : w64 ((a:Int) + (o:Int)) = ((a + o:Nat):Int) := w64N (by omega) (by omega)
     rw [if_neg (by omega),hj,if_neg h]
     simp only [e9,Int.toNat_natCast]; rfl
  ·refine TR.stop (r := d) ?_ ?_ ⟨Sort.permIn_refl _ _ _,rfl,hf⟩
   ·simp only [brkM_l0_3_pre,hx,hx2,e,e0,m2,n2,n3]; intro h; exfalso; omega
   ·simp only [brkM_l0_3_step,hx,hx2,e,e0,m2,n2,n3]; rw [if_neg (by omega)]
theorem brk_law {r : RT} {d : List Int} (hf : Fine r d) {a b : Nat} (hab : a ≤ b) (hb : b ≤ d.length) :
  brkM_pre (d,((a:Int),((b:Int),r))) ∧ Out r d a b (brkM (d,((a:Int),((b:Int),r)))).2.1 := by
 have hl := hf.len
 have e : w64 ((b:Int) - (a:Int)) = ((b - a:Nat):Int) := w64N (by omega) (by omega)
 have e0 : w64 (Int.tdiv ((b - a:Nat):Int) 4) = (((b - a) / 4:Nat):Int) := w64N (by rw [Int.tdiv_eq_ediv_of_nonneg (by omega)]; omega) (by omega)
 have m2 : w64 ((((b - a) / 4:Nat):Int) * 2) = (((b - a) / 4 * 2:Nat):Int) := w64N (by omega) (by omega)
 have n2 : w64 ((a:Int) + (((b - a) / 4 * 2:Nat):Int)) = ((a + (b - a) / 4 * 2:Nat):Int) := w64N (by omega) (by omega)
 by_cases h8 : 8 ≤ b - a
 ·have n3 : w64 (((a + (b - a) / 4 * 2:Nat):Int) - 1) = ((a + (b - a) / 4 * 2 - 1:Nat):Int) := w64N (by omega) (by omega)
  obtain ⟨p1,m,p2,p3,p4⟩ := npot_law (b - a) (by omega) (by omega)
  obtain ⟨h1,h2⟩ := brk_loop (d,((a:Int),((b:Int),r))) a b m rfl rfl h8 p3 p4 _ d (IntKind.wrap IntKind.u64 ((b - a:Nat):Int)) (a + (b - a) / 4 * 2 - 1) hf hb (by omega) (Nat.le_refl _)
  refine ⟨?_,?_⟩
  ·simp only [brkM_pre,letP,e,e0,m2,n2,n3,p2]
   exact ⟨fun _ => ⟨p1,h1,h2.2.1⟩,fun _ => by first | trivial | rfl⟩
  ·simp only [brkM,letV,e,e0,m2,n2,n3,p2]
   rw [if_pos (by omega)]
   exact h2
 ·refine ⟨?_,?_⟩
  ·simp only [brkM_pre,letP,e]
   exact ⟨fun h => absurd h (show ¬ ((b - a:Nat):Int) ≥ 8 by omega),fun _ => by first | trivial | rfl⟩
  ·simp only [brkM,letV,e]
   rw [if_neg (by omega)]
   exact ⟨Sort.permIn_refl _ _ _,rfl,hf⟩
end Go.Proofs.Ytaipcbdilkcdbaa

namespace Go.Proofs.Ytaipcbdilkcdbaa
open Go Go.Ev Go.Proofs

theorem scan_up {S R : Type} [Inhabited R] {step : S → S ⊕ R} {pre : S → Prop} (st : Nat → S) (out : Nat → R) (p : Int → Bool) (d : List Int) (lo j:Nat)
  (hp : ∀ i,lo ≤ i → i ≤ j + 2 → pre (st i)) (h1 : ∀ i,lo ≤ i → i ≤ j → p (d.getD i 0) = true → step (st i) = .inl (st (i + 1)))
  (h2 : ∀ i,lo ≤ i → i ≤ j + 2 → ¬ (i ≤ j ∧ p (d.getD i 0) = true) → step (st i) = .inr (out i)) :
  ∀ (n i:Nat),lo ≤ i → i ≤ j + 2 → j + 1 - i ≤ n → TR step pre (st i) fun r => r = out (Sort.scanUp p d.toArray j i) ∧ i ≤ Sort.scanUp p d.toArray j i ∧ Sort.scanUp p d.toArray j i ≤ j + 2 := by
 intro n
 induction n with
 | zero =>
  intro i hi hij hn
  have hc : ¬ (i ≤ j ∧ p (d.getD i 0) = true) := fun h => by omega
  have e : Sort.scanUp p d.toArray j i = i := by rw [Sort.scanUp,getBang,if_neg (by rw [Bool.and_eq_true,decide_eq_true_eq]; exact hc)]
  exact TR.stop (hp i hi hij) (h2 i hi hij hc) ⟨by rw [e],by rw [e]; omega,by rw [e]; omega⟩
 | succ n ih =>
  intro i hi hij hn
  by_cases hc : i ≤ j ∧ p (d.getD i 0) = true
  ·have e : Sort.scanUp p d.toArray j i = Sort.scanUp p d.toArray j (i + 1) := by rw [Sort.scanUp,getBang,if_pos (by rw [Bool.and_eq_true,decide_eq_true_eq]; exact hc)]
   rw [e]
   exact TR.go (hp i hi hij) (h1 i hi hc.1 hc.2) ((ih (i + 1) (by omega) (by omega) (by omega)).mono fun r hr => ⟨hr.1,by omega,hr.2.2⟩)
  ·have e : Sort.scanUp p d.toArray j i = i := by rw [Sort.scanUp,getBang,if_neg (by rw [Bool.and_eq_true,decide_eq_true_eq]; exact hc)]
   exact TR.stop (hp i hi hij) (h2 i hi hij hc) ⟨by rw [e],by rw [e]; omega,by rw [e]; omega⟩
theorem scan_down {S R : Type} [Inhabited R] {step : S → S ⊕ R} {pre : S → Prop} (st : Nat → S) (out : Nat → R) (p : Int → Bool) (d : List Int) (hi i:Nat) (h0 : 1 ≤ i)
  (hp : ∀ j,j ≤ hi → pre (st j)) (h1 : ∀ j,j + 1 ≤ hi → i ≤ j + 1 → p (d.getD (j + 1) 0) = true → step (st (j + 1)) = .inl (st j))
  (h2 : ∀ j,j ≤ hi → ¬ (i ≤ j ∧ p (d.getD j 0) = true) → step (st j) = .inr (out j)) :
  ∀ (j:Nat),j ≤ hi → i ≤ j + 2 → TR step pre (st j) fun r => r = out (Sort.scanDown p d.toArray i j) ∧ Sort.scanDown p d.toArray i j ≤ j ∧ i ≤ Sort.scanDown p d.toArray i j + 2 := by
 intro j
 induction j with
 | zero =>
  intro hj hij
  exact TR.stop (hp 0 hj) (h2 0 hj fun h => by omega) ⟨by rw [Sort.scanDown],by rw [Sort.scanDown]; omega,by rw [Sort.scanDown]; omega⟩
 | succ j ih =>
  intro hj hij
  by_cases hc : i ≤ j + 1 ∧ p (d.getD (j + 1) 0) = true
  ·have e : Sort.scanDown p d.toArray i (j + 1) = Sort.scanDown p d.toArray i j := by rw [Sort.scanDown,getBang,if_pos (by rw [Bool.and_eq_true,decide_eq_true_eq]; exact hc)]
   rw [e]
   exact TR.go (hp _ hj) (h1 j hj hc.1 hc.2) ((ih (by omega) (by omega)).mono fun r hr => ⟨hr.1,by omega,hr.2.2⟩)
  ·have e : Sort.scanDown p d.toArray i (j + 1) = j + 1 := by rw [Sort.scanDown,getBang,if_neg (by rw [Bool.and_eq_true,decide_eq_true_eq]; exact hc)]
   exact TR.stop (hp _ hj) (h2 _ hj hc) ⟨by rw [e],by rw [e]; omega,by rw [e]; omega⟩
theorem nlt (r : RT) (x y:Int) : ((!(decide (byM (r,(x,y)) < 0))) = true) ↔ (!ltM r x y) = true := by unfold ltM; simp

section
variable {x : List Int × Int × Int × Int × RT} {a : Nat}
theorem pe_up (hx : x.2.1 = (a:Int)) {d : List Int} (hf : Fine x.2.2.2.2 d) {j : Nat} (ha : a < d.length) (hj : j < d.length) {i : Nat} (hi : i ≤ j + 2) :
  TR (partEM_l2_3_step x) (partEM_l2_3_pre x) (d,((i:Int),(j:Int))) fun r => r = (d,(((Sort.scanUp (fun y => !ltM x.2.2.2.2 (d.getD a 0) y) d.toArray j i:Nat):Int),(j:Int))) ∧ i ≤ Sort.scanUp (fun y => !ltM x.2.2.2.2 (d.getD a 0) y) d.toArray j i ∧ Sort.scanUp (fun y => !ltM x.2.2.2.2 (d.getD a 0) y) d.toArray j i ≤ j + 2 := by
 have hl := hf.len
 refine scan_up (fun i => (d,((i:Int),(j:Int)))) (fun i => (d,((i:Int),(j:Int)))) _ d 0 j (fun i _ hi => ?_) (fun i _ hi h => ?_) (fun i _ hi h => ?_) _ i (by omega) hi (Nat.le_refl _)
 ·simp only [partEM_l2_3_pre,hx,Int.toNat_natCast]
  intro h
  refine ⟨?_,?_,?_,?_,?_,?_,hf.by_ ha (by omega)⟩ <;> omega
 ·simp only [partEM_l2_3_step,letV,hx,Int.toNat_natCast]
  rw [if_pos (by omega),if_pos ((nlt _ _ _).2 h),w64N (n := (i:Int) + 1) (m := i + 1) (by omega) (by omega)]
 ·simp only [partEM_l2_3_step,letV,hx,Int.toNat_natCast]
  by_cases hc : i ≤ j
  ·rw [if_pos (by omega),if_neg (fun h' => h ⟨hc,(nlt _ _ _).1 h'⟩)]
  ·rw [if_neg (by omega)]
theorem pe_down (hx : x.2.1 = (a:Int)) {d : List Int} (hf : Fine x.2.2.2.2 d) {i : Nat} (h0 : 1 ≤ i) (ha : a < d.length) {j : Nat} (hj : j < d.length) (hi : i ≤ j + 2) :
  TR (partEM_l4_3_step x) (partEM_l4_3_pre x) (d,((i:Int),(j:Int))) fun r => r = (d,((i:Int),((Sort.scanDown (fun y => ltM x.2.2.2.2 (d.getD a 0) y) d.toArray i j:Nat):Int))) ∧ Sort.scanDown (fun y => ltM x.2.2.2.2 (d.getD a 0) y) d.toArray i j ≤ j ∧ i ≤ Sort.scanDown (fun y => ltM x.2.2.2.2 (d.getD a 0) y) d.toArray i j + 2 := by
 have hl := hf.len
 refine scan_down (fun j => (d,((i:Int),(j:Int)))) (fun j => (d,((i:Int),(j:Int)))) _ d j i h0 (fun j hj => ?_) (fun j hj hi h => ?_) (fun j hj h => ?_) j (Nat.le_refl _) hi
 ·simp only [partEM_l4_3_pre,hx,Int.toNat_natCast]
  intro h
  refine ⟨?_,?_,?_,?_,?_,?_,hf.by_ ha (by omega)⟩ <;> omega
 ·simp only [partEM_l4_3_step,letV,hx,Int.toNat_natCast]
  rw [if_pos (by omega),if_pos ((by_lt _ _ _).2 h),w64N (n := ((j + 1:Nat):Int) - 1) (m := j) (by omega) (by omega)]
 ·simp only [partEM_l4_3_step,letV,hx,Int.toNat_natCast]
  by_cases hc : i ≤ j
  ·rw [if_pos (by omega),if_neg (fun h' => h ⟨hc,(by_lt _ _ _).1 h'⟩)]
  ·rw [if_neg (by omega)]
theorem pe_loop (hx : x.2.1 = (a:Int)) : ∀ (n:Nat) (d : List Int) (i j:Nat),Fine x.2.2.2.2 d → 1 ≤ i → a < d.length → j < d.length → i ≤ j + 2 → j + 1 - i ≤ n →
  TR (partEM_l0_3_step x) (partEM_l0_3_pre x) (d,((i:Int),(j:Int))) fun r => r.1.toArray = (Sort.partEqLoop (ltM x.2.2.2.2) a i j d.toArray).2 ∧ r.2 = ((Sort.partEqLoop (ltM x.2.2.2.2) a i j d.toArray).1:Int) ∧ r.1.length = d.length ∧ Fine x.2.2.2.2 r.1 := by
 intro n
 induction n using Nat.strongRecOn with
 | ind n ih =>
 intro d i j hf h0 ha hj hij hn
 have hl := hf.len
 obtain ⟨u1,u2,u3,u4⟩ := pe_up hx hf ha hj hij
 obtain ⟨i2,hi2⟩ : ∃ i2,i2 = Sort.scanUp (fun y => !ltM x.2.2.2.2 (d.getD a 0) y) d.toArray j i := ⟨_,rfl⟩
 rw [← hi2] at u2 u3 u4
 obtain ⟨v1,v2,v3,v4⟩ := pe_down hx hf (i := i2) (by omega) ha hj (by omega)
 obtain ⟨j2,hj2⟩ : ∃ j2,j2 = Sort.scanDown (fun y => ltM x.2.2.2.2 (d.getD a 0) y) d.toArray i2 j := ⟨_,rfl⟩
 rw [← hj2] at v2 v3 v4
 have hE : Sort.partEqLoop (ltM x.2.2.2.2) a i j d.toArray = if i2 > j2 then (i2,d.toArray) else Sort.partEqLoop (ltM x.2.2.2.2) a (i2 + 1) (j2 - 1) (Sort.swp d.toArray i2 j2) := by
  rw [Sort.partEqLoop]
  simp only [getBang,← hi2,← hj2]
  by_cases hc : i2 > j2
  ·rw [if_pos hc,if_pos hc]
  ·rw [if_neg hc,if_neg hc,dif_pos (by omega)]
 by_cases hc : i2 > j2
 ·refine TR.stop (r := (d,(i2:Int))) ?_ ?_ ?_
  ·simp only [partEM_l0_3_pre,letP,u2,v2]
   exact ⟨u1,v1,fun h => absurd (show (i2:Int) > (j2:Int) by omega) h⟩
  ·simp only [partEM_l0_3_step,letV,u2,v2]
   rw [if_pos (by omega)]
  ·rw [hE,if_pos hc]; exact ⟨rfl,rfl,rfl,hf⟩
 ·refine TR.go (s' := (sw d i2 j2,(((i2 + 1:Nat):Int),((j2 - 1:Nat):Int)))) ?_ ?_ ((ih (j2 - 1 + 1 - (i2 + 1)) (by omega) (sw d i2 j2) (i2 + 1) (j2 - 1) (hf.sw (i := i2) (j := j2) (by omega) (by omega)) (by omega) (by rw [sw_len]; omega) (by rw [sw_len]; omega) (by omega) (Nat.le_refl _)).mono fun r hr => ?_)
  ·simp only [partEM_l0_3_pre,letP,u2,v2,List.length_set,Int.toNat_natCast]
   refine ⟨u1,v1,fun _ => ?_⟩
   refine ⟨?_,?_,?_,?_,?_,?_,?_,?_,?_,?_,?_,?_⟩ <;> omega
  ·simp only [partEM_l0_3_step,letV,u2,v2,Int.toNat_natCast]
   rw [if_neg (by omega),w64N (n := (i2:Int) + 1) (m := i2 + 1) (by omega) (by omega),w64N (n := (j2:Int) - 1) (m := j2 - 1) (by omega) (by omega)]
   rfl
  ·rw [hE,if_neg hc,← sw_arr]
   rw [sw_len] at hr
   exact hr
end
theorem pe_law {r : RT} {d : List Int} (hf : Fine r d) {a b p : Nat} (hap : a ≤ p) (hpb : p < b) (hb : b ≤ d.length) :
  partEM_pre (d,((a:Int),((b:Int),((p:Int),r)))) ∧ (partEM (d,((a:Int),((b:Int),((p:Int),r))))).1 = ((Sort.partitionEqual (ltM r) d.toArray a b p).1:Int) ∧
   (partEM (d,((a:Int),((b:Int),((p:Int),r))))).2.1.toArray = (Sort.partitionEqual (ltM r) d.toArray a b p).2 ∧ (partEM (d,((a:Int),((b:Int),((p:Int),r))))).2.1.length = d.length ∧ Fine r (partEM (d,((a:Int),((b:Int),((p:Int),r))))).2.1 := by
 have hl := hf.len
 have e1 : w64 ((a:Int) + 1) = ((a + 1:Nat):Int) := w64N (by omega) (by omega)
 have e2 : w64 ((b:Int) - 1) = ((b - 1:Nat):Int) := w64N (by omega) (by omega)
 have hs := hf.sw (i := a) (j := p) (by omega) (by omega)
 obtain ⟨h1,h2,h3,h4,h5⟩ := pe_loop (x := (d,((a:Int),((b:Int),((p:Int),r))))) (a := a) rfl _ (sw d a p) (a + 1) (b - 1) hs (by omega) (by rw [sw_len]; omega) (by rw [sw_len]; omega) (by omega) (Nat.le_refl _)
 rw [sw_arr] at h2 h3
 rw [sw_len] at h4
 have e : partEM (d,((a:Int),((b:Int),((p:Int),r)))) = ((run (partEM_l0_3_step (d,((a:Int),((b:Int),((p:Int),r))))) (sw d a p,(((a + 1:Nat):Int),((b - 1:Nat):Int)))).2,((run (partEM_l0_3_step (d,((a:Int),((b:Int),((p:Int),r))))) (sw d a p,(((a + 1:Nat):Int),((b - 1:Nat):Int)))).1,(false,(false,(false,false))))) := by
  simp only [partEM,letV,e1,e2,Int.toNat_natCast]; rfl
 rw [e]
 refine ⟨?_,h3,h2,h4,h5⟩
 simp only [partEM_pre,letP,e1,e2,List.length_set,Int.toNat_natCast]
 refine ⟨?_,?_,?_,?_,?_,?_,?_,?_,?_,?_,?_,?_,h1,h4⟩ <;> omega
end Go.Proofs.Ytaipcbdilkcdbaa
