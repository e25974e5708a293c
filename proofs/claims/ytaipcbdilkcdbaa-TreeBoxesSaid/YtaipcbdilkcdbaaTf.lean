/- Sorting, plain: the heap. -/
import Derived.Test.YtaipcbdilkcdbaaTd
noncomputable section
set_option linter.unusedSectionVars false
set_option linter.unusedVariables false
set_option linter.unusedSimpArgs false
namespace Go.Proofs.Ytaipcbdilkcdbaa
open Go Go.Ev Go.Proofs

theorem w64N {n : Int} {m : Nat} (h : n = (m:Int)) (hm : m < 9223372036854775808) : w64 n = (m:Int) := by rw [w64_id (by omega) (by omega),h]
theorem sift_loop (x : List Int × Int × Int × Int × RT) (hi f:Nat) (hx : x.2.2.1 = (hi:Int)) (hx2 : x.2.2.2.1 = (f:Int)) : ∀ (n:Nat) (d : List Int) (root:Nat),Fine x.2.2.2.2 d → f + hi ≤ d.length → root ≤ hi → hi - root ≤ n →
  TR (siftM_l0_3_step x) (siftM_l0_3_pre x) (d,(root:Int)) fun r => (Sum.elim id id r).toArray = Sort.siftDown (ltM x.2.2.2.2) hi f root d.toArray ∧ (Sum.elim id id r).length = d.length ∧ Fine x.2.2.2.2 (Sum.elim id id r) := by
 intro n
 induction n with
 | zero =>
  intro d root hf hl hr hn
  have hlen := hf.len
  have e0 : w64 (2 * (root:Int)) = ((2 * root:Nat):Int) := w64N (by omega) (by omega)
  have e1 : w64 (((2 * root:Nat):Int) + 1) = ((2 * root + 1:Nat):Int) := w64N (by omega) (by omega)
  refine TR.stop (r := .inl d) ?_ ?_ ⟨?_,rfl,hf⟩
  ·simp only [siftM_l0_3_pre,hx,hx2,e0,e1]; intro h; exfalso; omega
  ·simp only [siftM_l0_3_step,hx,hx2,e0,e1]; rw [if_pos (by omega)]
  ·show d.toArray = _
   rw [Sort.siftDown,dif_pos (by omega)]
 | succ n ih =>
  intro d root hf hl hr hn
  have hlen := hf.len
  have e0 : w64 (2 * (root:Int)) = ((2 * root:Nat):Int) := w64N (by omega) (by omega)
  have e1 : w64 (((2 * root:Nat):Int) + 1) = ((2 * root + 1:Nat):Int) := w64N (by omega) (by omega)
  by_cases hc : 2 * root + 1 ≥ hi
  ·refine TR.stop (r := .inl d) ?_ ?_ ⟨?_,rfl,hf⟩
   ·simp only [siftM_l0_3_pre,hx,hx2,e0,e1]; intro h; exfalso; omega
   ·simp only [siftM_l0_3_step,hx,hx2,e0,e1]; rw [if_pos (by omega)]
   ·show d.toArray = _
    rw [Sort.siftDown,dif_pos hc]
  have e2 : w64 (((2 * root + 1:Nat):Int) + 1) = ((2 * root + 2:Nat):Int) := w64N (by omega) (by omega)
  have e3 : w64 ((f:Int) + (root:Int)) = ((f + root:Nat):Int) := w64N (by omega) (by omega)
  have e4 : w64 ((f:Int) + ((2 * root + 1:Nat):Int)) = ((f + (2 * root + 1):Nat):Int) := w64N (by omega) (by omega)
  have e5 : w64 (((f + (2 * root + 1):Nat):Int) + 1) = ((f + (2 * root + 1) + 1:Nat):Int) := w64N (by omega) (by omega)
  have e6 : w64 ((f:Int) + ((2 * root + 2:Nat):Int)) = ((f + (2 * root + 2):Nat):Int) := w64N (by omega) (by omega)
  have hpre : siftM_l0_3_pre x (d,(root:Int)) := by
   simp only [siftM_l0_3_pre,letP,hx,hx2,e0,e1,e2,e3,e4,e5,e6,List.length_set,Int.toNat_natCast]
   repeat' (first | with_reducible exact hf.by_ (by omega) (by omega) | with_reducible apply And.intro | intro _)
   all_goals omega
  by_cases hc2 : 2 * root + 1 + 1 < hi
  ·by_cases h1 : ltM x.2.2.2.2 (d.getD (f + (2 * root + 1)) 0) (d.getD (f + (2 * root + 1) + 1) 0) = true
   ·by_cases h2 : ltM x.2.2.2.2 (d.getD (f + root) 0) (d.getD (f + (2 * root + 2)) 0) = true
    ·refine TR.go (s' := (sw d (f + root) (f + (2 * root + 2)),((2 * root + 2:Nat):Int))) hpre ?_ ((ih _ _ (hf.sw (i := f + root) (j := f + (2 * root + 2)) (by omega) (by omega)) (by rw [sw_len]; omega) (by omega) (by omega)).mono fun r hr => ⟨?_,?_,hr.2.2⟩)
     ·simp only [siftM_l0_3_step,letV,hx,hx2,e0,e1,e2,e3,e4,e5,e6,Int.toNat_natCast]
      rw [if_neg (by omega),if_pos (by omega),if_pos ((by_lt _ _ _).2 h1),if_neg (by rw [decide_eq_true ((by_lt _ _ _).2 h2)]; simp)]; rfl
     ·rw [hr.1,sw_arr]
      conv => rhs; rw [Sort.siftDown,dif_neg hc,getBang,getBang,if_pos (by rw [Bool.and_eq_true]; exact ⟨decide_eq_true hc2,h1⟩),getBang,getBang,if_neg (by rw [h2]; simp),dif_pos (by omega)]
     ·rw [hr.2.1,sw_len]
    ·refine TR.stop (r := .inr d) hpre ?_ ⟨?_,rfl,hf⟩
     ·simp only [siftM_l0_3_step,letV,hx,hx2,e0,e1,e2,e3,e4,e5,e6,Int.toNat_natCast]
      rw [if_neg (by omega),if_pos (by omega),if_pos ((by_lt _ _ _).2 h1),if_pos (by rw [decide_eq_false (fun h => h2 ((by_lt _ _ _).1 h))]; rfl)]
     ·show d.toArray = _
      rw [Sort.siftDown,dif_neg hc,getBang,getBang,if_pos (by rw [Bool.and_eq_true]; exact ⟨decide_eq_true hc2,h1⟩),getBang,getBang,if_pos (by rw [Bool.eq_false_iff.2 h2]; rfl)]
   ·by_cases h2 : ltM x.2.2.2.2 (d.getD (f + root) 0) (d.getD (f + (2 * root + 1)) 0) = true
    ·refine TR.go (s' := (sw d (f + root) (f + (2 * root + 1)),((2 * root + 1:Nat):Int))) hpre ?_ ((ih _ _ (hf.sw (i := f + root) (j := f + (2 * root + 1)) (by omega) (by omega)) (by rw [sw_len]; omega) (by omega) (by omega)).mono fun r hr => ⟨?_,?_,hr.2.2⟩)
     ·simp only [siftM_l0_3_step,letV,hx,hx2,e0,e1,e2,e3,e4,e5,e6,Int.toNat_natCast]
      rw [if_neg (by omega),if_pos (by omega),if_neg (fun h => h1 ((by_lt _ _ _).1 h)),if_neg (by rw [decide_eq_true ((by_lt _ _ _).2 h2)]; simp)]; rfl
     ·rw [hr.1,sw_arr]
      conv => rhs; rw [Sort.siftDown,dif_neg hc,getBang,getBang,if_neg (by rw [Bool.and_eq_true]; exact fun h => h1 h.2),getBang,if_neg (by rw [h2]; simp)]
     ·rw [hr.2.1,sw_len]
    ·refine TR.stop (r := .inr d) hpre ?_ ⟨?_,rfl,hf⟩
     ·simp only [siftM_l0_3_step,letV,hx,hx2,e0,e1,e2,e3,e4,e5,e6,Int.toNat_natCast]
      rw [if_neg (by omega),if_pos (by omega),if_neg (fun h => h1 ((by_lt _ _ _).1 h)),if_pos (by rw [decide_eq_false (fun h => h2 ((by_lt _ _ _).1 h))]; rfl)]
     ·show d.toArray = _
      rw [Sort.siftDown,dif_neg hc,getBang,getBang,if_neg (by rw [Bool.and_eq_true]; exact fun h => h1 h.2),getBang,if_pos (by rw [Bool.eq_false_iff.2 h2]; rfl)]
  ·by_cases h2 : ltM x.2.2.2.2 (d.getD (f + root) 0) (d.getD (f + (2 * root + 1)) 0) = true
   ·refine TR.go (s' := (sw d (f + root) (f + (2 * root + 1)),((2 * root + 1:Nat):Int))) hpre ?_ ((ih _ _ (hf.sw (i := f + root) (j := f + (2 * root + 1)) (by omega) (by omega)) (by rw [sw_len]; omega) (by omega) (by omega)).mono fun r hr => ⟨?_,?_,hr.2.2⟩)
    ·simp only [siftM_l0_3_step,letV,hx,hx2,e0,e1,e2,e3,e4,e5,e6,Int.toNat_natCast]
     rw [if_neg (by omega),if_neg (by omega),if_neg (by rw [decide_eq_true ((by_lt _ _ _).2 h2)]; simp)]; rfl
    ·rw [hr.1,sw_arr]
     conv => rhs; rw [Sort.siftDown,dif_neg hc,getBang,getBang,if_neg (by rw [Bool.and_eq_true]; exact fun h => hc2 (of_decide_eq_true h.1)),getBang,if_neg (by rw [h2]; simp)]
    ·rw [hr.2.1,sw_len]
   ·refine TR.stop (r := .inr d) hpre ?_ ⟨?_,rfl,hf⟩
    ·simp only [siftM_l0_3_step,letV,hx,hx2,e0,e1,e2,e3,e4,e5,e6,Int.toNat_natCast]
     rw [if_neg (by omega),if_neg (by omega),if_pos (by rw [decide_eq_false (fun h => h2 ((by_lt _ _ _).1 h))]; rfl)]
    ·show d.toArray = _
     rw [Sort.siftDown,dif_neg hc,getBang,getBang,if_neg (by rw [Bool.and_eq_true]; exact fun h => hc2 (of_decide_eq_true h.1)),getBang,if_pos (by rw [Bool.eq_false_iff.2 h2]; rfl)]
theorem sift_law {r : RT} {d : List Int} (hf : Fine r d) {hi f root : Nat} (hl : f + hi ≤ d.length) (hr : root ≤ hi) :
  siftM_pre (d,((root:Int),((hi:Int),((f:Int),r)))) ∧ (siftM (d,((root:Int),((hi:Int),((f:Int),r))))).2.1.toArray = Sort.siftDown (ltM r) hi f root d.toArray ∧
   (siftM (d,((root:Int),((hi:Int),((f:Int),r))))).2.1.length = d.length ∧ Fine r (siftM (d,((root:Int),((hi:Int),((f:Int),r))))).2.1 := by
 obtain ⟨h1,h2,h3,h4⟩ := sift_loop (d,((root:Int),((hi:Int),((f:Int),r)))) hi f rfl rfl _ d root hf hl hr (Nat.le_refl _)
 have e : (siftM (d,((root:Int),((hi:Int),((f:Int),r))))).2.1 = Sum.elim id id (run (siftM_l0_3_step (d,((root:Int),((hi:Int),((f:Int),r))))) (d,(root:Int))) := by
  simp only [siftM,letV]
  cases run (siftM_l0_3_step (d,((root:Int),((hi:Int),((f:Int),r))))) (d,(root:Int)) <;> rfl
 refine ⟨?_,by rw [e]; exact h2,by rw [e]; exact h3,by rw [e]; exact h4⟩
 simp only [siftM_pre,letP]
 refine ⟨h1,?_⟩
 revert h3
 cases run (siftM_l0_3_step (d,((root:Int),((hi:Int),((f:Int),r))))) (d,(root:Int)) <;> exact fun h => h

theorem heap_build (x : List Int × Int × Int × RT) (a b:Nat) (hx : x.2.1 = (a:Int)) (hx2 : x.2.2.1 = (b:Int)) (hab : a ≤ b) : ∀ (k:Nat) (d : List Int),Fine x.2.2.2 d → b ≤ d.length → k ≤ b - a + 1 →
  TR (heapM_l0_3_step x) (heapM_l0_3_pre x) (d,(k:Int) - 1) fun r => r.toArray = Sort.heapBuild (ltM x.2.2.2) (b - a) a k d.toArray ∧ r.length = d.length ∧ Fine x.2.2.2 r := by
 intro k
 induction k with
 | zero =>
  intro d hf hb hk
  refine TR.stop (r := d) ?_ ?_ ⟨?_,rfl,hf⟩
  ·simp only [heapM_l0_3_pre]; intro h; exfalso; omega
  ·simp only [heapM_l0_3_step]; rw [if_neg (by omega)]
  ·rw [Sort.heapBuild]
 | succ k ih =>
  intro d hf hb hk
  have hl := hf.len
  have e : w64 ((b:Int) - (a:Int)) = ((b - a:Nat):Int) := w64N (by omega) (by omega)
  have e1 : (((k + 1:Nat):Int) - 1) = (k:Int) := by omega
  have e2 : w64 ((k:Int) - 1) = (k:Int) - 1 := w64_id (by omega) (by omega)
  obtain ⟨k1,k2,k3,k4⟩ := sift_law hf (hi := b - a) (f := a) (root := k) (by omega) (by omega)
  rw [e1]
  refine TR.go (s' := ((siftM (d,((k:Int),(((b - a:Nat):Int),((a:Int),x.2.2.2))))).2.1,(k:Int) - 1)) ?_ ?_ ((ih _ k4 (by omega) (by omega)).mono fun r hr => ⟨?_,by omega,hr.2.2⟩)
  ·simp only [heapM_l0_3_pre,hx,hx2,e]; exact fun _ => k1
  ·simp only [heapM_l0_3_step,letV,hx,hx2,e,e2]
   rw [if_pos (by omega)]
  ·rw [hr.1,k2]
   conv => rhs; rw [Sort.heapBuild]
theorem heap_pop (x : List Int × Int × Int × RT) (a:Nat) (hx : x.2.1 = (a:Int)) : ∀ (k:Nat) (d : List Int),Fine x.2.2.2 d → a + k ≤ d.length →
  TR (heapM_l2_3_step x) (heapM_l2_3_pre x) (d,(k:Int) - 1) fun r => r.toArray = Sort.heapPop (ltM x.2.2.2) a k d.toArray ∧ r.length = d.length ∧ Fine x.2.2.2 r := by
 intro k
 induction k with
 | zero =>
  intro d hf hb
  refine TR.stop (r := d) ?_ ?_ ⟨?_,rfl,hf⟩
  ·simp only [heapM_l2_3_pre]; intro h; exfalso; omega
  ·simp only [heapM_l2_3_step]; rw [if_neg (by omega)]
  ·rw [Sort.heapPop]
 | succ k ih =>
  intro d hf hb
  have hl := hf.len
  have e1 : (((k + 1:Nat):Int) - 1) = (k:Int) := by omega
  have e2 : w64 ((k:Int) - 1) = (k:Int) - 1 := w64_id (by omega) (by omega)
  have e3 : w64 ((a:Int) + (k:Int)) = ((a + k:Nat):Int) := w64N (by omega) (by omega)
  have hs := hf.sw (i := a) (j := a + k) (by omega) (by omega)
  obtain ⟨k1,k2,k3,k4⟩ := sift_law hs (hi := k) (f := a) (root := 0) (by rw [sw_len]; omega) (by omega)
  rw [sw_len] at k3
  rw [e1]
  refine TR.go (s' := ((siftM (sw d a (a + k),(((0:Nat):Int),((k:Int),((a:Int),x.2.2.2))))).2.1,(k:Int) - 1)) ?_ ?_ ((ih _ k4 (by omega)).mono fun r hr => ⟨?_,by omega,hr.2.2⟩)
  ·simp only [heapM_l2_3_pre,letP,hx,e3,List.length_set,Int.toNat_natCast]
   intro _
   refine ⟨?_,?_,?_,?_,?_,?_,?_,?_,?_,?_,?_,?_,k1⟩ <;> omega
  ·simp only [heapM_l2_3_step,letV,hx,e2,e3,Int.toNat_natCast]
   rw [if_pos (by omega)]; rfl
  ·rw [hr.1,k2,sw_arr]
   conv => rhs; rw [Sort.heapPop]
theorem heap_law {r : RT} {d : List Int} (hf : Fine r d) {a b : Nat} (hab : a ≤ b) (hb : b ≤ d.length) :
  heapM_pre (d,((a:Int),((b:Int),r))) ∧ Out r d a b (heapM (d,((a:Int),((b:Int),r)))).2.1 ∧ Sort.SortedIn (ltM r) a b (heapM (d,((a:Int),((b:Int),r)))).2.1.toArray := by
 have hl := hf.len
 have e : w64 ((b:Int) - (a:Int)) = ((b - a:Nat):Int) := w64N (by omega) (by omega)
 have e1 : w64 (((b - a:Nat):Int) - 1) = ((b - a:Nat):Int) - 1 := w64_id (by omega) (by omega)
 have e2 : w64 (Int.tdiv (((b - a:Nat):Int) - 1) 2) = (((b - a - 1) / 2 + 1:Nat):Int) - 1 := by
  have : Int.tdiv (((b - a:Nat):Int) - 1) 2 = (((b - a - 1) / 2 + 1:Nat):Int) - 1 := by
   rcases Nat.eq_zero_or_pos (b - a) with h | h
   ·rw [h]; decide
   ·rw [Int.tdiv_eq_ediv_of_nonneg (by omega)]; omega
  rw [this]; exact w64_id (by omega) (by omega)
 obtain ⟨h1,h2,h3,h4⟩ := heap_build (d,((a:Int),((b:Int),r))) a b rfl rfl hab _ d hf hb (show (b - a - 1) / 2 + 1 ≤ b - a + 1 by omega)
 obtain ⟨g1,g2,g3,g4⟩ := heap_pop (d,((a:Int),((b:Int),r))) a rfl (b - a) _ h4 (by omega)
 obtain ⟨k1,k2⟩ := Sort.heapSort_holds (ltM_swo r) d.toArray a b hab (by simpa using hb)
 unfold Sort.heapSort at k1 k2
 refine ⟨?_,?_,?_⟩
 ·simp only [heapM_pre,letP,e,e1,e2]
  exact ⟨h1,g1,by omega⟩
 ·simp only [heapM,letV,e,e1,e2]
  exact ⟨by rw [g2,h2]; exact k1,by omega,g4⟩
 ·simp only [heapM,letV,e,e1,e2]
  rw [g2,h2]; exact k2
end Go.Proofs.Ytaipcbdilkcdbaa

namespace Go.Proofs.Ytaipcbdilkcdbaa
open Go Go.Ev Go.Proofs

def In (a b:Nat) (i:Int) : Prop := (a:Int) ≤ i ∧ i < (b:Int)
theorem order2_law {r : RT} {d : List Int} (hf : Fine r d) {a b : Nat} (hb : b ≤ d.length) {i j : Int} (hi : In a b i) (hj : In a b j) (s:Int) :
  order2M_pre (d,(i,(j,(s,r)))) ∧ In a b (order2M (d,(i,(j,(s,r))))).1.1 ∧ In a b (order2M (d,(i,(j,(s,r))))).1.2 := by
 obtain ⟨h1,h2⟩ := hi
 obtain ⟨h3,h4⟩ := hj
 refine ⟨?_,?_⟩
 ·simp only [order2M_pre]
  refine ⟨?_,?_,?_,?_,?_,?_,hf.by_ (by omega) (by omega)⟩ <;> omega
 ·simp only [order2M,letV]
  split
  ·exact ⟨⟨h3,h4⟩,⟨h1,h2⟩⟩
  ·exact ⟨⟨h1,h2⟩,⟨h3,h4⟩⟩
theorem med_law {r : RT} {d : List Int} (hf : Fine r d) {a b : Nat} (hb : b ≤ d.length) {i j k : Int} (hi : In a b i) (hj : In a b j) (hk : In a b k) (s:Int) :
  medM_pre (d,(i,(j,(k,(s,r))))) ∧ In a b (medM (d,(i,(j,(k,(s,r)))))).1 := by
 obtain ⟨p1,p2,p3⟩ := order2_law hf hb hi hj s
 obtain ⟨q1,q2,q3⟩ := order2_law hf hb p3 hk (order2M (d,(i,(j,(s,r))))).2.2.2.2.1
 have w := order2_law hf hb p2 q2 (order2M (d,((order2M (d,(i,(j,(s,r))))).1.2,(k,((order2M (d,(i,(j,(s,r))))).2.2.2.2.1,r))))).2.2.2.2.1
 exact ⟨⟨p1,q1,w.1⟩,w.2.2⟩
theorem medA_law {r : RT} {d : List Int} (hf : Fine r d) {a b : Nat} (hb : b ≤ d.length) {i : Int} (h1 : (a:Int) < i) (h2 : i + 1 < (b:Int)) (s:Int) :
  medAM_pre (d,(i,(s,r))) ∧ In a b (medAM (d,(i,(s,r)))).1 := by
 have hl := hf.len
 have e1 : w64 (i - 1) = i - 1 := w64_id (by omega) (by omega)
 have e2 : w64 (i + 1) = i + 1 := w64_id (by omega) (by omega)
 have := med_law hf (a := a) (b := b) hb (i := i - 1) (j := i) (k := i + 1) (by unfold In; omega) (by unfold In; omega) (by unfold In; omega) s
 simp only [medAM_pre,medAM,letV,e1,e2]
 exact this
theorem piv_law {r : RT} {d : List Int} (hf : Fine r d) {a b : Nat} (hab : a < b) (hb : b ≤ d.length) :
  pivM_pre (d,((a:Int),((b:Int),r))) ∧ In a b (pivM (d,((a:Int),((b:Int),r)))).1 := by
 have hl := hf.len
 have e : w64 ((b:Int) - (a:Int)) = ((b - a:Nat):Int) := w64N (by omega) (by omega)
 have e0 : w64 (Int.tdiv ((b - a:Nat):Int) 4) = (((b - a) / 4:Nat):Int) := w64N (by rw [Int.tdiv_eq_ediv_of_nonneg (by omega)]; omega) (by omega)
 obtain ⟨q,hq⟩ : ∃ q,q = (b - a) / 4 := ⟨_,rfl⟩
 rw [← hq] at e0
 have m1 : w64 ((q:Int) * 1) = (q:Int) := w64N (by omega) (by omega)
 have m2 : w64 ((q:Int) * 2) = ((q * 2:Nat):Int) := w64N (by omega) (by omega)
 have m3 : w64 ((q:Int) * 3) = ((q * 3:Nat):Int) := w64N (by omega) (by omega)
 have n1 : w64 ((a:Int) + (q:Int)) = ((a + q:Nat):Int) := w64N (by omega) (by omega)
 have n2 : w64 ((a:Int) + ((q * 2:Nat):Int)) = ((a + q * 2:Nat):Int) := w64N (by omega) (by omega)
 have n3 : w64 ((a:Int) + ((q * 3:Nat):Int)) = ((a + q * 3:Nat):Int) := w64N (by omega) (by omega)
 by_cases h8 : b - a ≥ 8
 ·by_cases h50 : b - a ≥ 50
  ·obtain ⟨a1,b1⟩ := medA_law hf (a := a) (b := b) hb (i := ((a + q:Nat):Int)) (by omega) (by omega) 0
   obtain ⟨a2,b2⟩ := medA_law hf (a := a) (b := b) hb (i := ((a + q * 2:Nat):Int)) (by omega) (by omega) (medAM (d,(((a + q:Nat):Int),(0,r)))).2.2.2.1
   obtain ⟨a3,b3⟩ := medA_law hf (a := a) (b := b) hb (i := ((a + q * 3:Nat):Int)) (by omega) (by omega) (medAM (d,(((a + q * 2:Nat):Int),((medAM (d,(((a + q:Nat):Int),(0,r)))).2.2.2.1,r)))).2.2.2.1
   obtain ⟨a4,b4⟩ := med_law hf hb b1 b2 b3 (medAM (d,(((a + q * 3:Nat):Int),((medAM (d,(((a + q * 2:Nat):Int),((medAM (d,(((a + q:Nat):Int),(0,r)))).2.2.2.1,r)))).2.2.2.1,r)))).2.2.2.1
   refine ⟨?_,?_⟩
   ·simp only [pivM_pre,letP,e,e0,m1,m2,m3,n1,n2,n3]
    exact fun _ => ⟨fun _ => ⟨a1,a2,a3,a4⟩,fun h => absurd (show ((b - a:Nat):Int) ≥ 50 by omega) h⟩
   ·simp only [pivM,letV,e,e0,m1,m2,m3,n1,n2,n3]
    rw [if_pos (by omega),if_pos (by omega)]
    split
    ·exact b4
    ·split <;> exact b4
  ·obtain ⟨a4,b4⟩ := med_law hf (a := a) (b := b) hb (i := ((a + q:Nat):Int)) (j := ((a + q * 2:Nat):Int)) (k := ((a + q * 3:Nat):Int)) (by unfold In; omega) (by unfold In; omega) (by unfold In; omega) 0
   refine ⟨?_,?_⟩
   ·simp only [pivM_pre,letP,e,e0,m1,m2,m3,n1,n2,n3]
    exact fun _ => ⟨fun h => absurd h (show ¬ ((b - a:Nat):Int) ≥ 50 by omega),fun _ => a4⟩
   ·simp only [pivM,letV,e,e0,m1,m2,m3,n1,n2,n3]
    rw [if_pos (by omega),if_neg (by omega)]
    split
    ·exact b4
    ·split <;> exact b4
 ·refine ⟨?_,?_⟩
  ·simp only [pivM_pre,letP,e]
   exact fun h => absurd h (show ¬ ((b - a:Nat):Int) ≥ 8 by omega)
  ·simp only [pivM,letV,e,e0,m1,m2,m3,n1,n2,n3]
   rw [if_neg (by omega)]
   show In a b ((a + q * 2:Nat):Int)
   unfold In; omega
end Go.Proofs.Ytaipcbdilkcdbaa
