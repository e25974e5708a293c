/- Sorting, plain. -/
import Derived.Test.YtbjfokijjefoeaaTb
import Derived.Test.YtbjfokijjefoeaaQ0
import Derived.Sort.AssemblyPlain
namespace Go.Proofs.Ytbjfokijjefoeaa
open Go Go.Ev Go.Proofs
set_option linter.unusedVariables false
set_option linter.unusedSimpArgs false
def TR {S R : Type} [Inhabited R] (step : S → S ⊕ R) (pre : S → Prop) (s : S) (Post : R → Prop) : Prop := Term step pre s ∧ Post (run step s)
theorem TR.stop {S R : Type} [Inhabited R] {step : S → S ⊕ R} {pre : S → Prop} {s : S} {Post : R → Prop} {r : R} (hp : pre s) (h : step s = .inr r) (hq : Post r) : TR step pre s Post :=
 ⟨.mk s hp (fun s' e => by rw [h] at e; cases e),by rw [run_eq,h]; exact hq⟩
theorem TR.go {S R : Type} [Inhabited R] {step : S → S ⊕ R} {pre : S → Prop} {s s' : S} {Post : R → Prop} (hp : pre s) (h : step s = .inl s') (hn : TR step pre s' Post) : TR step pre s Post :=
 ⟨.mk s hp (fun t e => by rw [h] at e; cases e; exact hn.1),by rw [run_eq,h]; exact hn.2⟩
theorem TR.mono {S R : Type} [Inhabited R] {step : S → S ⊕ R} {pre : S → Prop} {s : S} {Post Post' : R → Prop} (h : TR step pre s Post) (hq : ∀ r,Post r → Post' r) : TR step pre s Post' := ⟨h.1,hq _ h.2⟩

theorem getBang (l : List Int) (i:Nat) : l.toArray[i]! = l.getD i 0 := by
 rw [List.getD_eq_getElem?_getD]
 simp only [List.getElem!_toArray]
 rw [List.getElem!_eq_getElem?_getD]; rfl
def sw (l : List Int) (i j:Nat) : List Int := (l.set i (l.getD j 0)).set j (l.getD i 0)
theorem sw_arr (l : List Int) (i j:Nat) : (sw l i j).toArray = Sort.swp l.toArray i j := by
 unfold sw Sort.swp
 rw [getBang,getBang]
 simp
theorem sw_len (l : List Int) (i j:Nat) : (sw l i j).length = l.length := by simp [sw]
theorem getD_mem {l : List Int} {i : Nat} (h : i < l.length) : l.getD i 0 ∈ l := by
 rw [List.getD_eq_getElem?_getD,List.getElem?_eq_getElem h]; exact List.getElem_mem h
def okE (r : RT) (e:Int) : Prop := 0 ≤ e ∧ e < (r.length:Int)
def RO (r : RT) : Prop := True
theorem isNaN_f (x:Int) : isNaN x = false := by simp [isNaN]
theorem compare_eq (a b:Int) : compare (a,b) = if a < b then -1 else if a > b then 1 else 0 := by
 simp [compare,isNaN_f,letV]
theorem cmpOr_law (a b c:Int) : cmpOr_pre [a,b,c] ∧ cmpOr [a,b,c] = if a ≠ 0 then a else if b ≠ 0 then b else c := by
 have key : TR (cmpOr_l0_step [a,b,c]) (cmpOr_l0_pre [a,b,c]) 0 fun r => Sum.elim (fun a => a) (fun _ => (0:Int)) r = if a ≠ 0 then a else if b ≠ 0 then b else c := by
  by_cases ha : a = 0
  ·subst ha
   refine TR.go (s' := 1) (by simp [cmpOr_l0_pre]) (by simp [cmpOr_l0_step,w64_id]) ?_
   by_cases hb : b = 0
   ·subst hb
    refine TR.go (s' := 2) (by simp [cmpOr_l0_pre]) (by simp [cmpOr_l0_step,w64_id]) ?_
    by_cases hc : c = 0
    ·subst hc
     refine TR.go (s' := 3) (by simp [cmpOr_l0_pre]) (by simp [cmpOr_l0_step,w64_id]) ?_
     exact TR.stop (r := .inr ()) (by simp [cmpOr_l0_pre]) (by simp [cmpOr_l0_step]) (by simp)
    ·exact TR.stop (r := .inl c) (by simp [cmpOr_l0_pre]) (by simp [cmpOr_l0_step,hc]) (by simp)
   ·exact TR.stop (r := .inl b) (by simp [cmpOr_l0_pre]) (by simp [cmpOr_l0_step,hb]) (by simp [hb])
  ·exact TR.stop (r := .inl a) (by simp [cmpOr_l0_pre]) (by simp [cmpOr_l0_step,ha]) (by simp [ha])
 exact ⟨key.1,by unfold cmpOr letV; exact key.2⟩
noncomputable def ltM (r : RT) (x y:Int) : Bool := decide (byM (r,(x,y)) < 0)
def hM (r : RT) (x:Int) : Int := (List.getD r (Int.toNat x) ([],([],((0:Int),(0:Int))))).2.2.2
def wM (r : RT) (x:Int) : Int := (List.getD r (Int.toNat x) ([],([],((0:Int),(0:Int))))).2.2.1
theorem byM_eq (r : RT) (x y:Int) : byM (r,(x,y)) = if hM r y < hM r x then -1 else if hM r y > hM r x then 1 else if wM r y < wM r x then -1 else if wM r y > wM r x then 1 else if x < y then -1 else if x > y then 1 else 0 := by
 simp only [byM,letV,compare_eq,(cmpOr_law _ _ _).2]
 unfold hM wM
 generalize (List.getD r (Int.toNat x) ([],([],((0:Int),(0:Int))))).2.2 = p
 generalize (List.getD r (Int.toNat y) ([],([],((0:Int),(0:Int))))).2.2 = q
 repeat' split
 all_goals first | rfl | omega
theorem ltM_iff (r : RT) (x y:Int) : ltM r x y = true ↔ hM r y < hM r x ∨ (hM r y = hM r x ∧ (wM r y < wM r x ∨ (wM r y = wM r x ∧ x < y))) := by
 unfold ltM
 rw [byM_eq,decide_eq_true_eq]
 repeat' split
 all_goals simp
 all_goals omega
theorem ltM_f (r : RT) (x y:Int) : ltM r x y = false ↔ ¬ (hM r y < hM r x ∨ (hM r y = hM r x ∧ (wM r y < wM r x ∨ (wM r y = wM r x ∧ x < y)))) := by
 rw [← ltM_iff]; simp
theorem ltM_swo (r : RT) : Sort.SWO (ltM r) where
 irrefl x := by rw [ltM_f]; omega
 trans x y z h1 h2 := by rw [ltM_iff] at *; omega
 ntrans x y z h1 h2 := by rw [ltM_f] at *; omega
theorem ltM_total (r : RT) (x y:Int) (h1 : ltM r x y = false) (h2 : ltM r y x = false) : x = y := by
 rw [ltM_f] at *; omega
theorem byM_p {r : RT} (hr : RO r) {x y : Int} (hx : okE r x) (hy : okE r y) : byM_pre (r,(x,y)) := by
 have h1 : 0 ≤ x ∧ x < (r.length:Int) := hx
 have h2 : 0 ≤ y ∧ y < (r.length:Int) := hy
 simp only [byM_pre,letP]
 refine ⟨h1,by omega,by omega,h2,by omega,by omega,(cmpOr_law _ _ _).1⟩
def Ok (r : RT) (d : List Int) : Prop := ∀ e ∈ d,okE r e
theorem Ok.at_ {r : RT} {d : List Int} (h : Ok r d) {i : Nat} (hi : i < d.length) : okE r (d.getD i 0) := h _ (getD_mem hi)
theorem Ok.sw {r : RT} {d : List Int} (h : Ok r d) {i j : Nat} (hi : i < d.length) (hj : j < d.length) : Ok r (sw d i j) := by
 intro e he
 unfold Go.Proofs.Ytbjfokijjefoeaa.sw at he
 rcases List.mem_or_eq_of_mem_set he with he | rfl
 ·rcases List.mem_or_eq_of_mem_set he with he | rfl
  ·exact h e he
  ·exact h.at_ hj
 ·exact h.at_ hi

structure Fine (r : RT) (d : List Int) : Prop where
 len : d.length < 4611686018427387904
 ok : Ok r d
 ro : RO r
theorem Fine.sw {r : RT} {d : List Int} (h : Fine r d) {i j : Nat} (hi : i < d.length) (hj : j < d.length) : Fine r (sw d i j) := ⟨by rw [sw_len]; exact h.len,h.ok.sw hi hj,h.ro⟩
theorem Fine.by_ {r : RT} {d : List Int} (h : Fine r d) {i j : Nat} (hi : i < d.length) (hj : j < d.length) : byM_pre (r,(d.getD i 0,d.getD j 0)) := byM_p h.ro (h.ok.at_ hi) (h.ok.at_ hj)
theorem by_lt (r : RT) (x y:Int) : (byM (r,(x,y)) < 0) ↔ ltM r x y = true := by unfold ltM; simp

theorem rev_loop (x : List Int × Int × Int × RT) : ∀ (n:Nat) (d : List Int) (i j:Nat),Fine x.2.2.2 d → j < d.length → j - i ≤ n →
  TR (revM_l0_3_step x) (revM_l0_3_pre x) (d,((i:Int),(j:Int))) fun r => r.toArray = Sort.reverseLoop i j d.toArray ∧ r.length = d.length ∧ Fine x.2.2.2 r := by
 intro n
 induction n with
 | zero =>
  intro d i j hf hj hn
  have hij : ¬ i < j := by omega
  refine TR.stop (r := d) ?_ ?_ ⟨?_,rfl,hf⟩
  ·simp only [revM_l0_3_pre]; intro h; exfalso; omega
  ·simp only [revM_l0_3_step]; rw [if_neg (by omega)]
  ·rw [Sort.reverseLoop,if_neg hij]
 | succ n ih =>
  intro d i j hf hj hn
  have hl := hf.len
  by_cases hij : i < j
  ·refine TR.go (s' := (sw d i j,(((i + 1:Nat):Int),((j - 1:Nat):Int)))) ?_ ?_ ((ih _ _ _ (hf.sw (by omega) hj) (by rw [sw_len]; omega) (by omega)).mono fun r hr => ⟨?_,?_,hr.2.2⟩)
   ·simp only [revM_l0_3_pre,letP,List.length_set,Int.toNat_natCast]
    intro _
    refine ⟨?_,?_,?_,?_,?_,?_,?_,?_,?_,?_,?_,?_⟩ <;> omega
   ·simp only [revM_l0_3_step,letV,Int.toNat_natCast]
    rw [if_pos (by omega),w64_id (by omega) (by omega),w64_id (by omega) (by omega)]
    congr 3 <;> omega
   ·rw [hr.1,sw_arr]
    conv => rhs; rw [Sort.reverseLoop,if_pos hij]
   ·rw [hr.2.1,sw_len]
  ·refine TR.stop (r := d) ?_ ?_ ⟨?_,rfl,hf⟩
   ·simp only [revM_l0_3_pre]; intro h; exfalso; omega
   ·simp only [revM_l0_3_step]; rw [if_neg (by omega)]
   ·rw [Sort.reverseLoop,if_neg hij]
def Out (r : RT) (d : List Int) (a b:Nat) (d' : List Int) : Prop := Sort.PermIn a b d.toArray d'.toArray ∧ d'.length = d.length ∧ Fine r d'
theorem rev_law {r : RT} {d : List Int} (hf : Fine r d) {a b : Nat} (hab : a < b) (hb : b ≤ d.length) :
  revM_pre (d,((a:Int),((b:Int),r))) ∧ Out r d a b (revM (d,((a:Int),((b:Int),r)))).2.1 := by
 have hl := hf.len
 have e : w64 ((b:Int) - 1) = ((b - 1:Nat):Int) := by rw [w64_id (by omega) (by omega)]; omega
 obtain ⟨h1,h2,h3,h4⟩ := rev_loop (d,((a:Int),((b:Int),r))) _ d a (b - 1) hf (by omega) (Nat.le_refl _)
 refine ⟨?_,?_⟩
 ·simp only [revM_pre,letP,e]
  exact ⟨h1,h3⟩
 ·simp only [revM,letV,e]
  refine ⟨?_,h3,h4⟩
  rw [h2]
  exact Sort.reverseRange_holds d.toArray a b (by omega) (by simpa using hb)

theorem ins_inner (x : List Int × Int × Int × RT) (a:Nat) (hx : x.2.1 = (a:Int)) : ∀ (j:Nat) (d : List Int) (i:Int),Fine x.2.2.2 d → j < d.length →
  TR (insM_l2_3_step x) (insM_l2_3_pre x) (d,(i,(j:Int))) fun r => r.1.toArray = Sort.insInner (ltM x.2.2.2) a j d.toArray ∧ r.2 = i ∧ r.1.length = d.length ∧ Fine x.2.2.2 r.1 := by
 intro j
 induction j with
 | zero =>
  intro d i hf hj
  refine TR.stop (r := (d,i)) ?_ ?_ ⟨?_,rfl,rfl,hf⟩
  ·simp only [insM_l2_3_pre,hx]; intro h; exfalso; omega
  ·simp only [insM_l2_3_step,hx]; rw [if_neg (by omega)]
  ·rw [Sort.insInner]
 | succ j ih =>
  intro d i hf hj
  have hl := hf.len
  have e : w64 (((j + 1:Nat):Int) - 1) = (j:Int) := by rw [w64_id (by omega) (by omega)]; omega
  by_cases hja : j + 1 > a
  ·by_cases hlt : ltM x.2.2.2 (d.getD (j + 1) 0) (d.getD j 0) = true
   ·refine TR.go (s' := (sw d (j + 1) j,(i,(j:Int)))) ?_ ?_ ((ih _ i (hf.sw hj (by omega)) (by rw [sw_len]; omega)).mono fun r hr => ⟨?_,hr.2.1,?_,hr.2.2.2⟩)
    ·simp only [insM_l2_3_pre,letP,List.length_set,Int.toNat_natCast,e]
     intro _
     refine ⟨?_,?_,?_,?_,?_,?_,hf.by_ hj (by omega),fun _ => ?_⟩ <;> omega
    ·simp only [insM_l2_3_step,letV,Int.toNat_natCast,e,hx]
     rw [if_pos (by omega),if_pos ((by_lt _ _ _).2 hlt)]; rfl
    ·rw [hr.1,sw_arr]
     conv => rhs; rw [Sort.insInner,getBang,getBang,if_pos (by rw [Bool.and_eq_true]; exact ⟨decide_eq_true hja,hlt⟩)]
    ·rw [hr.2.2.1,sw_len]
   ·refine TR.stop (r := (d,i)) ?_ ?_ ⟨?_,rfl,rfl,hf⟩
    ·simp only [insM_l2_3_pre,letP,List.length_set,Int.toNat_natCast,e]
     intro _
     refine ⟨?_,?_,?_,?_,?_,?_,hf.by_ hj (by omega),fun h => absurd ((by_lt _ _ _).1 h) hlt⟩ <;> omega
    ·simp only [insM_l2_3_step,letV,Int.toNat_natCast,e,hx]
     rw [if_pos (by omega),if_neg (fun h => hlt ((by_lt _ _ _).1 h))]
    ·rw [Sort.insInner,getBang,getBang,if_neg (by rw [Bool.and_eq_true]; exact fun h => hlt h.2)]
  ·refine TR.stop (r := (d,i)) ?_ ?_ ⟨?_,rfl,rfl,hf⟩
   ·simp only [insM_l2_3_pre,hx]; intro h; exfalso; omega
   ·simp only [insM_l2_3_step,hx]; rw [if_neg (by omega)]
   ·rw [Sort.insInner,if_neg (by simp [hja])]
theorem ins_outer (x : List Int × Int × Int × RT) (a b:Nat) (hx : x.2.1 = (a:Int)) (hx2 : x.2.2.1 = (b:Int)) : ∀ (n:Nat) (d : List Int) (i:Nat),Fine x.2.2.2 d → b ≤ d.length → b - i ≤ n →
  TR (insM_l0_3_step x) (insM_l0_3_pre x) (d,(i:Int)) fun r => r.toArray = Sort.insOuter (ltM x.2.2.2) a b i d.toArray ∧ r.length = d.length ∧ Fine x.2.2.2 r := by
 intro n
 induction n with
 | zero =>
  intro d i hf hj hn
  refine TR.stop (r := d) ?_ ?_ ⟨?_,rfl,hf⟩
  ·simp only [insM_l0_3_pre,hx2]; intro h; exfalso; omega
  ·simp only [insM_l0_3_step,hx2]; rw [if_neg (by omega)]
  ·rw [Sort.insOuter,if_neg (by omega)]
 | succ n ih =>
  intro d i hf hb hn
  have hl := hf.len
  by_cases hi : i < b
  ·obtain ⟨k1,k2,k3,k4,k5⟩ := ins_inner x a hx i d i hf (by omega)
   refine TR.go (s' := ((run (insM_l2_3_step x) (d,((i:Int),(i:Int)))).1,((i + 1:Nat):Int))) ?_ ?_ ((ih _ _ k5 (by omega) (by omega)).mono fun r hr => ⟨?_,by omega,hr.2.2⟩)
   ·simp only [insM_l0_3_pre]; exact fun _ => k1
   ·simp only [insM_l0_3_step,letV,hx2,k3]
    rw [if_pos (by omega),w64_id (by omega) (by omega)]; rfl
   ·rw [hr.1,k2]
    conv => rhs; rw [Sort.insOuter,if_pos hi]
  ·refine TR.stop (r := d) ?_ ?_ ⟨?_,rfl,hf⟩
   ·simp only [insM_l0_3_pre,hx2]; intro h; exfalso; omega
   ·simp only [insM_l0_3_step,hx2]; rw [if_neg (by omega)]
   ·rw [Sort.insOuter,if_neg hi]
theorem ins_law {r : RT} {d : List Int} (hf : Fine r d) {a b : Nat} (hab : a ≤ b) (hb : b ≤ d.length) :
  insM_pre (d,((a:Int),((b:Int),r))) ∧ Out r d a b (insM (d,((a:Int),((b:Int),r)))).2.1 ∧ Sort.SortedIn (ltM r) a b (insM (d,((a:Int),((b:Int),r)))).2.1.toArray := by
 have hl := hf.len
 have e : w64 ((a:Int) + 1) = ((a + 1:Nat):Int) := by rw [w64_id (by omega) (by omega)]; omega
 obtain ⟨h1,h2,h3,h4⟩ := ins_outer (d,((a:Int),((b:Int),r))) a b rfl rfl _ d (a + 1) hf hb (Nat.le_refl _)
 obtain ⟨k1,k2⟩ := Sort.insertionSort_holds (ltM_swo r) d.toArray a b hab (by simpa using hb)
 unfold Sort.insertionSort at k1 k2
 refine ⟨?_,?_,?_⟩
 ·simp only [insM_pre,letP,e]
  exact ⟨h1,h3⟩
 ·simp only [insM,letV,e]
  exact ⟨by rw [h2]; exact k1,h3,h4⟩
 ·simp only [insM,letV,e]
  rw [h2]; exact k2
theorem w64N {n : Int} {m : Nat} (h : n = (m:Int)) (hm : m < 9223372036854775808) : w64 n = (m:Int) := by rw [w64_id (by omega) (by omega),h]
theorem sift_loop (x : List Int × Int × Int × Int × RT) (hi f:Nat) (hx : x.2.2.1 = (hi:Int)) (hx2 : x.2.2.2.1 = (f:Int)) : ∀ (n:Nat) (d : List Int) (root:Nat),Fine x.2.2.2.2 d → f + hi ≤ d.length → root ≤ hi → hi - root ≤ n →
  TR (siftM_l0_3_step x) (siftM_l0_3_pre x) (d,(root:Int)) fun r => (Sum.elim id id r).toArray = Sort.siftDown (ltM x.2.2.2.2) hi f root d.toArray ∧ (Sum.elim id id r).length = d.length ∧ Fine x.2.2.2.2 (Sum.elim id id r) := by
 intro n
 induction n with
 | zero =>
  intro d root hf hl hr hn
  have hlen := hf.len
  have e0 : w64 (2 * (root:Int)) = ((2 * root:Nat):Int) := w64N (by omega) (by omega)
  have e1 : w64 (((2 * root:Nat):Int) + 1) = ((2 * root + 1:Nat):Int) := w64N (by omega) (by omega)
  refine TR.stop (r := .inl d) ?_ ?_ ⟨?_,rfl,hf⟩
  ·simp only [siftM_l0_3_pre,hx,hx2,e0,e1]; intro h; exfalso; omega
  ·simp only [siftM_l0_3_step,hx,hx2,e0,e1]; rw [if_pos (by omega)]
  ·show d.toArray = _
   rw [Sort.siftDown,dif_pos (by omega)]
 | succ n ih =>
  intro d root hf hl hr hn
  have hlen := hf.len
  have e0 : w64 (2 * (root:Int)) = ((2 * root:Nat):Int) := w64N (by omega) (by omega)
  have e1 : w64 (((2 * root:Nat):Int) + 1) = ((2 * root + 1:Nat):Int) := w64N (by omega) (by omega)
  by_cases hc : 2 * root + 1 ≥ hi
  ·refine TR.stop (r := .inl d) ?_ ?_ ⟨?_,rfl,hf⟩
   ·simp only [siftM_l0_3_pre,hx,hx2,e0,e1]; intro h; exfalso; omega
   ·simp only [siftM_l0_3_step,hx,hx2,e0,e1]; rw [if_pos (by omega)]
   ·show d.toArray = _
    rw [Sort.siftDown,dif_pos hc]
  have e2 : w64 (((2 * root + 1:Nat):Int) + 1) = ((2 * root + 2:Nat):Int) := w64N (by omega) (by omega)
  have e3 : w64 ((f:Int) + (root:Int)) = ((f + root:Nat):Int) := w64N (by omega) (by omega)
  have e4 : w64 ((f:Int) + ((2 * root + 1:Nat):Int)) = ((f + (2 * root + 1):Nat):Int) := w64N (by omega) (by omega)
  have e5 : w64 (((f + (2 * root + 1):Nat):Int) + 1) = ((f + (2 * root + 1) + 1:Nat):Int) := w64N (by omega) (by omega)
  have e6 : w64 ((f:Int) + ((2 * root + 2:Nat):Int)) = ((f + (2 * root + 2):Nat):Int) := w64N (by omega) (by omega)
  have hpre : siftM_l0_3_pre x (d,(root:Int)) := by
   simp only [siftM_l0_3_pre,letP,hx,hx2,e0,e1,e2,e3,e4,e5,e6,List.length_set,Int.toNat_natCast]
   repeat' (first | with_reducible exact hf.by_ (by omega) (by omega) | with_reducible apply And.intro | intro _)
   all_goals omega
  by_cases hc2 : 2 * root + 1 + 1 < hi
  ·by_cases h1 : ltM x.2.2.2.2 (d.getD (f + (2 * root + 1)) 0) (d.getD (f + (2 * root + 1) + 1) 0) = true
   ·by_cases h2 : ltM x.2.2.2.2 (d.getD (f + root) 0) (d.getD (f + (2 * root + 2)) 0) = true
    ·refine TR.go (s' := (sw d (f + root) (f + (2 * root + 2)),((2 * root + 2:Nat):Int))) hpre ?_ ((ih _ _ (hf.sw (i := f + root) (j := f + (2 * root + 2)) (by omega) (by omega)) (by rw [sw_len]; omega) (by omega) (by omega)).mono fun r hr => ⟨?_,?_,hr.2.2⟩)
     ·simp only [siftM_l0_3_step,letV,hx,hx2,e0,e1,e2,e3,e4,e5,e6,Int.toNat_natCast]
      rw [if_neg (by omega),if_pos (by omega),if_pos ((by_lt _ _ _).2 h1),if_neg (by rw [decide_eq_true ((by_lt _ _ _).2 h2)]; simp)]; rfl
     ·rw [hr.1,sw_arr]
      conv => rhs; rw [Sort.siftDown,dif_neg hc,getBang,getBang,if_pos (by rw [Bool.and_eq_true]; exact ⟨decide_eq_true hc2,h1⟩),getBang,getBang,if_neg (by rw [h2]; simp),dif_pos (by omega)]
     ·rw [hr.2.1,sw_len]
    ·refine TR.stop (r := .inr d) hpre ?_ ⟨?_,rfl,hf⟩
     ·simp only [siftM_l0_3_step,letV,hx,hx2,e0,e1,e2,e3,e4,e5,e6,Int.toNat_natCast]
      rw [if_neg (by omega),if_pos (by omega),if_pos ((by_lt _ _ _).2 h1),if_pos (by rw [decide_eq_false (fun h => h2 ((by_lt _ _ _).1 h))]; rfl)]
     ·show d.toArray = _
      rw [Sort.siftDown,dif_neg hc,getBang,getBang,if_pos (by rw [Bool.and_eq_true]; exact ⟨decide_eq_true hc2,h1⟩),getBang,getBang,if_pos (by rw [Bool.eq_false_iff.2 h2]; rfl)]
   ·by_cases h2 : ltM x.2.2.2.2 (d.getD (f + root) 0) (d.getD (f + (2 * root + 1)) 0) = true
    ·refine TR.go (s' := (sw d (f + root) (f + (2 * root + 1)),((2 * root + 1:Nat):Int))) hpre ?_ ((ih _ _ (hf.sw (i := f + root) (j := f + (2 * root + 1)) (by omega) (by omega)) (by rw [sw_len]; omega) (by omega) (by omega)).mono fun r hr => ⟨?_,?_,hr.2.2⟩)
     ·simp only [siftM_l0_3_step,letV,hx,hx2,e0,e1,e2,e3,e4,e5,e6,Int.toNat_natCast]
      rw [if_neg (by omega),if_pos (by omega),if_neg (fun h => h1 ((by_lt _ _ _).1 h)),if_neg (by rw [decide_eq_true ((by_lt _ _ _).2 h2)]; simp)]; rfl
     ·rw [hr.1,sw_arr]
      conv => rhs; rw [Sort.siftDown,dif_neg hc,getBang,getBang,if_neg (by rw [Bool.and_eq_true]; exact fun h => h1 h.2),getBang,if_neg (by rw [h2]; simp)]
     ·rw [hr.2.1,sw_len]
    ·refine TR.stop (r := .inr d) hpre ?_ ⟨?_,rfl,hf⟩
     ·simp only [siftM_l0_3_step,letV,hx,hx2,e0,e1,e2,e3,e4,e5,e6,Int.toNat_natCast]
      rw [if_neg (by omega),if_pos (by omega),if_neg (fun h => h1 ((by_lt _ _ _).1 h)),if_pos (by rw [decide_eq_false (fun h => h2 ((by_lt _ _ _).1 h))]; rfl)]
     ·show d.toArray = _
      rw [Sort.siftDown,dif_neg hc,getBang,getBang,if_neg (by rw [Bool.and_eq_true]; exact fun h => h1 h.2),getBang,if_pos (by rw [Bool.eq_false_iff.2 h2]; rfl)]
  ·by_cases h2 : ltM x.2.2.2.2 (d.getD (f + root) 0) (d.getD (f + (2 * root + 1)) 0) = true
   ·refine TR.go (s' := (sw d (f + root) (f + (2 * root + 1)),((2 * root + 1:Nat):Int))) hpre ?_ ((ih _ _ (hf.sw (i := f + root) (j := f + (2 * root + 1)) (by omega) (by omega)) (by rw [sw_len]; omega) (by omega) (by omega)).mono fun r hr => ⟨?_,?_,hr.2.2⟩)
    ·simp only [siftM_l0_3_step,letV,hx,hx2,e0,e1,e2,e3,e4,e5,e6,Int.toNat_natCast]
     rw [if_neg (by omega),if_neg (by omega),if_neg (by rw [decide_eq_true ((by_lt _ _ _).2 h2)]; simp)]; rfl
    ·rw [hr.1,sw_arr]
     conv => rhs; rw [Sort.siftDown,dif_neg hc,getBang,getBang,if_neg (by rw [Bool.and_eq_true]; exact fun h => hc2 (of_decide_eq_true h.1)),getBang,if_neg (by rw [h2]; simp)]
    ·rw [hr.2.1,sw_len]
   ·refine TR.stop (r := .inr d) hpre ?_ ⟨?_,rfl,hf⟩
    ·simp only [siftM_l0_3_step,letV,hx,hx2,e0,e1,e2,e3,e4,e5,e6,Int.toNat_natCast]
     rw [if_neg (by omega),if_neg (by omega),if_pos (by rw [decide_eq_false (fun h => h2 ((by_lt _ _ _).1 h))]; rfl)]
    ·show d.toArray = _
     rw [Sort.siftDown,dif_neg hc,getBang,getBang,if_neg (by rw [Bool.and_eq_true]; exact fun h => hc2 (of_decide_eq_true h.1)),getBang,if_pos (by rw [Bool.eq_false_iff.2 h2]; rfl)]
theorem sift_law {r : RT} {d : List Int} (hf : Fine r d) {hi f root : Nat} (hl : f + hi ≤ d.length) (hr : root ≤ hi) :
  siftM_pre (d,((root:Int),((hi:Int),((f:Int),r)))) ∧ (siftM (d,((root:Int),((hi:Int),((f:Int),r))))).2.1.toArray = Sort.siftDown (ltM r) hi f root d.toArray ∧
   (siftM (d,((root:Int),((hi:Int),((f:Int),r))))).2.1.length = d.length ∧ Fine r (siftM (d,((root:Int),((hi:Int),((f:Int),r))))).2.1 := by
 obtain ⟨h1,h2,h3,h4⟩ := sift_loop (d,((root:Int),((hi:Int),((f:Int),r)))) hi f rfl rfl _ d root hf hl hr (Nat.le_refl _)
 have e : (siftM (d,((root:Int),((hi:Int),((f:Int),r))))).2.1 = Sum.elim id id (run (siftM_l0_3_step (d,((root:Int),((hi:Int),((f:Int),r))))) (d,(root:Int))) := by
  simp only [siftM,letV]
  cases run (siftM_l0_3_step (d,((root:Int),((hi:Int),((f:Int),r))))) (d,(root:Int)) <;> rfl
 refine ⟨?_,by rw [e]; exact h2,by rw [e]; exact h3,by rw [e]; exact h4⟩
 simp only [siftM_pre,letP]
 refine ⟨h1,?_⟩
 revert h3
 cases run (siftM_l0_3_step (d,((root:Int),((hi:Int),((f:Int),r))))) (d,(root:Int)) <;> exact fun h => h

theorem heap_build (x : List Int × Int × Int × RT) (a b:Nat) (hx : x.2.1 = (a:Int)) (hx2 : x.2.2.1 = (b:Int)) (hab : a ≤ b) : ∀ (k:Nat) (d : List Int),Fine x.2.2.2 d → b ≤ d.length → k ≤ b - a + 1 →
  TR (heapM_l0_3_step x) (heapM_l0_3_pre x) (d,(k:Int) - 1) fun r => r.toArray = Sort.heapBuild (ltM x.2.2.2) (b - a) a k d.toArray ∧ r.length = d.length ∧ Fine x.2.2.2 r := by
 intro k
 induction k with
 | zero =>
  intro d hf hb hk
  refine TR.stop (r := d) ?_ ?_ ⟨?_,rfl,hf⟩
  ·simp only [heapM_l0_3_pre]; intro h; exfalso; omega
  ·simp only [heapM_l0_3_step]; rw [if_neg (by omega)]
  ·rw [Sort.heapBuild]
 | succ k ih =>
  intro d hf hb hk
  have hl := hf.len
  have e : w64 ((b:Int) - (a:Int)) = ((b - a:Nat):Int) := w64N (by omega) (by omega)
  have e1 : (((k + 1:Nat):Int) - 1) = (k:Int) := by omega
  have e2 : w64 ((k:Int) - 1) = (k:Int) - 1 := w64_id (by omega) (by omega)
  obtain ⟨k1,k2,k3,k4⟩ := sift_law hf (hi := b - a) (f := a) (root := k) (by omega) (by omega)
  rw [e1]
  refine TR.go (s' := ((siftM (d,((k:Int),(((b - a:Nat):Int),((a:Int),x.2.2.2))))).2.1,(k:Int) - 1)) ?_ ?_ ((ih _ k4 (by omega) (by omega)).mono fun r hr => ⟨?_,by omega,hr.2.2⟩)
  ·simp only [heapM_l0_3_pre,hx,hx2,e]; exact fun _ => k1
  ·simp only [heapM_l0_3_step,letV,hx,hx2,e,e2]
   rw [if_pos (by omega)]
  ·rw [hr.1,k2]
   conv => rhs; rw [Sort.heapBuild]
theorem heap_pop (x : List Int × Int × Int × RT) (a:Nat) (hx : x.2.1 = (a:Int)) : ∀ (k:Nat) (d : List Int),Fine x.2.2.2 d → a + k ≤ d.length →
  TR (heapM_l2_3_step x) (heapM_l2_3_pre x) (d,(k:Int) - 1) fun r => r.toArray = Sort.heapPop (ltM x.2.2.2) a k d.toArray ∧ r.length = d.length ∧ Fine x.2.2.2 r := by
 intro k
 induction k with
 | zero =>
  intro d hf hb
  refine TR.stop (r := d) ?_ ?_ ⟨?_,rfl,hf⟩
  ·simp only [heapM_l2_3_pre]; intro h; exfalso; omega
  ·simp only [heapM_l2_3_step]; rw [if_neg (by omega)]
  ·rw [Sort.heapPop]
 | succ k ih =>
  intro d hf hb
  have hl := hf.len
  have e1 : (((k + 1:Nat):Int) - 1) = (k:Int) := by omega
  have e2 : w64 ((k:Int) - 1) = (k:Int) - 1 := w64_id (by omega) (by omega)
  have e3 : w64 ((a:Int) + (k:Int)) = ((a + k:Nat):Int) := w64N (by omega) (by omega)
  have hs := hf.sw (i := a) (j := a + k) (by omega) (by omega)
  obtain ⟨k1,k2,k3,k4⟩ := sift_law hs (hi := k) (f := a) (root := 0) (by rw [sw_len]; omega) (by omega)
  rw [sw_len] at k3
  rw [e1]
  refine TR.go (s' := ((siftM (sw d a (a + k),(((0:Nat):Int),((k:Int),((a:Int),x.2.2.2))))).2.1,(k:Int) - 1)) ?_ ?_ ((ih _ k4 (by omega)).mono fun r hr => ⟨?_,by omega,hr.2.2⟩)
  ·simp only [heapM_l2_3_pre,letP,hx,e3,List.length_set,Int.toNat_natCast]
   intro _
   refine ⟨?_,?_,?_,?_,?_,?_,?_,?_,?_,?_,?_,?_,k1⟩ <;> omega
  ·simp only [heapM_l2_3_step,letV,hx,e2,e3,Int.toNat_natCast]
   rw [if_pos (by omega)]; rfl
  ·rw [hr.1,k2,sw_arr]
   conv => rhs; rw [Sort.heapPop]
theorem heap_law {r : RT} {d : List Int} (hf : Fine r d) {a b : Nat} (hab : a ≤ b) (hb : b ≤ d.length) :
  heapM_pre (d,((a:Int),((b:Int),r))) ∧ Out r d a b (heapM (d,((a:Int),((b:Int),r)))).2.1 ∧ Sort.SortedIn (ltM r) a b (heapM (d,((a:Int),((b:Int),r)))).2.1.toArray := by
 have hl := hf.len
 have e : w64 ((b:Int) - (a:Int)) = ((b - a:Nat):Int) := w64N (by omega) (by omega)
 have e1 : w64 (((b - a:Nat):Int) - 1) = ((b - a:Nat):Int) - 1 := w64_id (by omega) (by omega)
 have e2 : w64 (Int.tdiv (((b - a:Nat):Int) - 1) 2) = (((b - a - 1) / 2 + 1:Nat):Int) - 1 := by
  have : Int.tdiv (((b - a:Nat):Int) - 1) 2 = (((b - a - 1) / 2 + 1:Nat):Int) - 1 := by
   rcases Nat.eq_zero_or_pos (b - a) with h | h
   ·rw [h]; decide
   ·rw [Int.tdiv_eq_ediv_of_nonneg (by omega)]; omega
  rw [this]; exact w64_id (by omega) (by omega)
 obtain ⟨h1,h2,h3,h4⟩ := heap_build (d,((a:Int),((b:Int),r))) a b rfl rfl hab _ d hf hb (show (b - a - 1) / 2 + 1 ≤ b - a + 1 by omega)
 obtain ⟨g1,g2,g3,g4⟩ := heap_pop (d,((a:Int),((b:Int),r))) a rfl (b - a) _ h4 (by omega)
 obtain ⟨k1,k2⟩ := Sort.heapSort_holds (ltM_swo r) d.toArray a b hab (by simpa using hb)
 unfold Sort.heapSort at k1 k2
 refine ⟨?_,?_,?_⟩
 ·simp only [heapM_pre,letP,e,e1,e2]
  exact ⟨h1,g1,by omega⟩
 ·simp only [heapM,letV,e,e1,e2]
  exact ⟨by rw [g2,h2]; exact k1,by omega,g4⟩
 ·simp only [heapM,letV,e,e1,e2]
  rw [g2,h2]; exact k2
def In (a b:Nat) (i:Int) : Prop := (a:Int) ≤ i ∧ i < (b:Int)
theorem order2_law {r : RT} {d : List Int} (hf : Fine r d) {a b : Nat} (hb : b ≤ d.length) {i j : Int} (hi : In a b i) (hj : In a b j) (s:Int) :
  order2M_pre (d,(i,(j,(s,r)))) ∧ In a b (order2M (d,(i,(j,(s,r))))).1.1 ∧ In a b (order2M (d,(i,(j,(s,r))))).1.2 := by
 obtain ⟨h1,h2⟩ := hi
 obtain ⟨h3,h4⟩ := hj
 refine ⟨?_,?_⟩
 ·simp only [order2M_pre]
  refine ⟨?_,?_,?_,?_,?_,?_,hf.by_ (by omega) (by omega)⟩ <;> omega
 ·simp only [order2M,letV]
  split
  ·exact ⟨⟨h3,h4⟩,⟨h1,h2⟩⟩
  ·exact ⟨⟨h1,h2⟩,⟨h3,h4⟩⟩
theorem med_law {r : RT} {d : List Int} (hf : Fine r d) {a b : Nat} (hb : b ≤ d.length) {i j k : Int} (hi : In a b i) (hj : In a b j) (hk : In a b k) (s:Int) :
  medM_pre (d,(i,(j,(k,(s,r))))) ∧ In a b (medM (d,(i,(j,(k,(s,r)))))).1 := by
 obtain ⟨p1,p2,p3⟩ := order2_law hf hb hi hj s
 obtain ⟨q1,q2,q3⟩ := order2_law hf hb p3 hk (order2M (d,(i,(j,(s,r))))).2.2.2.2.1
 have w := order2_law hf hb p2 q2 (order2M (d,((order2M (d,(i,(j,(s,r))))).1.2,(k,((order2M (d,(i,(j,(s,r))))).2.2.2.2.1,r))))).2.2.2.2.1
 exact ⟨⟨p1,q1,w.1⟩,w.2.2⟩
theorem medA_law {r : RT} {d : List Int} (hf : Fine r d) {a b : Nat} (hb : b ≤ d.length) {i : Int} (h1 : (a:Int) < i) (h2 : i + 1 < (b:Int)) (s:Int) :
  medAM_pre (d,(i,(s,r))) ∧ In a b (medAM (d,(i,(s,r)))).1 := by
 have hl := hf.len
 have e1 : w64 (i - 1) = i - 1 := w64_id (by omega) (by omega)
 have e2 : w64 (i + 1) = i + 1 := w64_id (by omega) (by omega)
 have := med_law hf (a := a) (b := b) hb (i := i - 1) (j := i) (k := i + 1) (by unfold In; omega) (by unfold In; omega) (by unfold In; omega) s
 simp only [medAM_pre,medAM,letV,e1,e2]
 exact this
theorem piv_law {r : RT} {d : List Int} (hf : Fine r d) {a b : Nat} (hab : a < b) (hb : b ≤ d.length) :
  pivM_pre (d,((a:Int),((b:Int),r))) ∧ In a b (pivM (d,((a:Int),((b:Int),r)))).1 := by
 have hl := hf.len
 have e : w64 ((b:Int) - (a:Int)) = ((b - a:Nat):Int) := w64N (by omega) (by omega)
 have e0 : w64 (Int.tdiv ((b - a:Nat):Int) 4) = (((b - a) / 4:Nat):Int) := w64N (by rw [Int.tdiv_eq_ediv_of_nonneg (by omega)]; omega) (by omega)
 obtain ⟨q,hq⟩ : ∃ q,q = (b - a) / 4 := ⟨_,rfl⟩
 rw [← hq] at e0
 have m1 : w64 ((q:Int) * 1) = (q:Int) := w64N (by omega) (by omega)
 have m2 : w64 ((q:Int) * 2) = ((q * 2:Nat):Int) := w64N (by omega) (by omega)
 have m3 : w64 ((q:Int) * 3) = ((q * 3:Nat):Int) := w64N (by omega) (by omega)
 have n1 : w64 ((a:Int) + (q:Int)) = ((a + q:Nat):Int) := w64N (by omega) (by omega)
 have n2 : w64 ((a:Int) + ((q * 2:Nat):Int)) = ((a + q * 2:Nat):Int) := w64N (by omega) (by omega)
 have n3 : w64 ((a:Int) + ((q * 3:Nat):Int)) = ((a + q * 3:Nat):Int) := w64N (by omega) (by omega)
 by_cases h8 : b - a ≥ 8
 ·by_cases h50 : b - a ≥ 50
  ·obtain ⟨a1,b1⟩ := medA_law hf (a := a) (b := b) hb (i := ((a + q:Nat):Int)) (by omega) (by omega) 0
   obtain ⟨a2,b2⟩ := medA_law hf (a := a) (b := b) hb (i := ((a + q * 2:Nat):Int)) (by omega) (by omega) (medAM (d,(((a + q:Nat):Int),(0,r)))).2.2.2.1
   obtain ⟨a3,b3⟩ := medA_law hf (a := a) (b := b) hb (i := ((a + q * 3:Nat):Int)) (by omega) (by omega) (medAM (d,(((a + q * 2:Nat):Int),((medAM (d,(((a + q:Nat):Int),(0,r)))).2.2.2.1,r)))).2.2.2.1
   obtain ⟨a4,b4⟩ := med_law hf hb b1 b2 b3 (medAM (d,(((a + q * 3:Nat):Int),((medAM (d,(((a + q * 2:Nat):Int),((medAM (d,(((a + q:Nat):Int),(0,r)))).2.2.2.1,r)))).2.2.2.1,r)))).2.2.2.1
   refine ⟨?_,?_⟩
   ·simp only [pivM_pre,letP,e,e0,m1,m2,m3,n1,n2,n3]
    exact fun _ => ⟨fun _ => ⟨a1,a2,a3,a4⟩,fun h => absurd (show ((b - a:Nat):Int) ≥ 50 by omega) h⟩
   ·simp only [pivM,letV,e,e0,m1,m2,m3,n1,n2,n3]
    rw [if_pos (by omega),if_pos (by omega)]
    split
    ·exact b4
    ·split <;> exact b4
  ·obtain ⟨a4,b4⟩ := med_law hf (a := a) (b := b) hb (i := ((a + q:Nat):Int)) (j := ((a + q * 2:Nat):Int)) (k := ((a + q * 3:Nat):Int)) (by unfold In; omega) (by unfold In; omega) (by unfold In; omega) 0
   refine ⟨?_,?_⟩
   ·simp only [pivM_pre,letP,e,e0,m1,m2,m3,n1,n2,n3]
    exact fun _ => ⟨fun h => absurd h (show ¬ ((b - a:Nat):Int) ≥ 50 by omega),fun _ => a4⟩
   ·simp only [pivM,letV,e,e0,m1,m2,m3,n1,n2,n3]
    rw [if_pos (by omega),if_neg (by omega)]
    split
    ·exact b4
    ·split <;> exact b4
 ·refine ⟨?_,?_⟩
  ·simp only [pivM_pre,letP,e]
   exact fun h => absurd h (show ¬ ((b - a:Nat):Int) ≥ 8 by omega)
  ·simp only [pivM,letV,e,e0,m1,m2,m3,n1,n2,n3]
   rw [if_neg (by omega)]
   show In a b ((a + q * 2:Nat):Int)
   unfold In; omega
theorem u8w (n:Int) : IntKind.wrap IntKind.u8 n = n % 256 := by simp [IntKind.wrap,IntKind.bits,IntKind.signed]
theorem u64w (n:Int) : IntKind.wrap IntKind.u64 n = n % 18446744073709551616 := by simp [IntKind.wrap,IntKind.bits,IntKind.signed]
theorem fdN (n c:Nat) : Int.fdiv (n:Int) (c:Int) = ((n / c:Nat):Int) := by
 rw [Int.fdiv_eq_ediv_of_nonneg _ (Int.natCast_nonneg c)]; rfl
def tB (T : ByteArray) (k:Int) (z:Int) : Int := w64 (k + (w64 (((UInt8.toNat (ByteArray.get! T (Int.toNat (IntKind.wrap IntKind.u8 z)))):Nat):Int)))
def bitT : ByteArray := ⟨((List.range 256).map fun b => UInt8.ofNat (if b = 0 then 0 else Nat.log2 b + 1)).toArray⟩
theorem bitT_law : ∀ b,b < 256 → UInt8.toNat (ByteArray.get! bitT b) ≤ 8 ∧ (0 < b → 2 ^ UInt8.toNat (ByteArray.get! bitT b) ≤ 2 * b) := by decide +kernel
theorem len_eq (x:Int) : len64M x =
  (if (x ≥ (4294967296:Int)) then
   (if ((Int.fdiv x (4294967296:Int)) ≥ (65536:Int)) then
    (if ((Int.fdiv (Int.fdiv x (4294967296:Int)) (65536:Int)) ≥ (256:Int)) then tB bitT 56 (Int.fdiv (Int.fdiv (Int.fdiv x (4294967296:Int)) (65536:Int)) (256:Int)) else tB bitT 48 (Int.fdiv (Int.fdiv x (4294967296:Int)) (65536:Int))) else
    (if ((Int.fdiv x (4294967296:Int)) ≥ (256:Int)) then tB bitT 40 (Int.fdiv (Int.fdiv x (4294967296:Int)) (256:Int)) else tB bitT 32 (Int.fdiv x (4294967296:Int)))) else
   (if (x ≥ (65536:Int)) then
    (if ((Int.fdiv x (65536:Int)) ≥ (256:Int)) then tB bitT 24 (Int.fdiv (Int.fdiv x (65536:Int)) (256:Int)) else tB bitT 16 (Int.fdiv x (65536:Int))) else
    (if (x ≥ (256:Int)) then tB bitT 8 (Int.fdiv x (256:Int)) else tB bitT 0 x))) := by kernel_rfl
theorem len_form : ∃ T : ByteArray,(∀ b,b < 256 → UInt8.toNat (ByteArray.get! T b) ≤ 8 ∧ (0 < b → 2 ^ UInt8.toNat (ByteArray.get! T b) ≤ 2 * b)) ∧ ∀ x,len64M x =
  (if (x ≥ (4294967296:Int)) then
   (if ((Int.fdiv x (4294967296:Int)) ≥ (65536:Int)) then
    (if ((Int.fdiv (Int.fdiv x (4294967296:Int)) (65536:Int)) ≥ (256:Int)) then tB T 56 (Int.fdiv (Int.fdiv (Int.fdiv x (4294967296:Int)) (65536:Int)) (256:Int)) else tB T 48 (Int.fdiv (Int.fdiv x (4294967296:Int)) (65536:Int))) else
    (if ((Int.fdiv x (4294967296:Int)) ≥ (256:Int)) then tB T 40 (Int.fdiv (Int.fdiv x (4294967296:Int)) (256:Int)) else tB T 32 (Int.fdiv x (4294967296:Int)))) else
   (if (x ≥ (65536:Int)) then
    (if ((Int.fdiv x (65536:Int)) ≥ (256:Int)) then tB T 24 (Int.fdiv (Int.fdiv x (65536:Int)) (256:Int)) else tB T 16 (Int.fdiv x (65536:Int))) else
    (if (x ≥ (256:Int)) then tB T 8 (Int.fdiv x (256:Int)) else tB T 0 x))) := ⟨bitT,bitT_law,len_eq⟩
theorem tB_law {T : ByteArray} (hT : ∀ b,b < 256 → UInt8.toNat (ByteArray.get! T b) ≤ 8 ∧ (0 < b → 2 ^ UInt8.toNat (ByteArray.get! T b) ≤ 2 * b)) (k b n:Nat) (hb : 0 < b) (hb2 : b < 256) (hk : k ≤ 56) (hn : 2 ^ k * b ≤ n) :
  ∃ y : Nat,tB T (k:Int) (b:Int) = (y:Int) ∧ y ≤ 64 ∧ 2 ^ y ≤ 2 * n := by
 obtain ⟨h1,h2⟩ := hT b hb2
 refine ⟨k + UInt8.toNat (ByteArray.get! T b),?_,by omega,?_⟩
 ·unfold tB
  rw [u8w,show ((b:Int) % 256) = (b:Int) by omega,Int.toNat_natCast,w64_id (n := ((UInt8.toNat (ByteArray.get! T b):Nat):Int)) (by omega) (by omega),w64_id (by omega) (by omega)]
  omega
 ·rw [Nat.pow_add]
  calc 2 ^ k * 2 ^ UInt8.toNat (ByteArray.get! T b) ≤ 2 ^ k * (2 * b) := Nat.mul_le_mul_left _ (h2 hb)
   _ = 2 * (2 ^ k * b) := by rw [Nat.mul_left_comm]
   _ ≤ 2 * n := by omega
theorem len_law (n:Nat) (h : 0 < n) (hn : n < 9223372036854775808) : len64M_pre (n:Int) ∧ ∃ y : Nat,len64M (n:Int) = (y:Int) ∧ y ≤ 64 ∧ 2 ^ y ≤ 2 * n := by
 obtain ⟨T,hT,hx⟩ := len_form
 have f1 : ∀ m : Nat,Int.fdiv (m:Int) 4294967296 = ((m / 4294967296:Nat):Int) := fun m => fdN m 4294967296
 have f2 : ∀ m : Nat,Int.fdiv (m:Int) 65536 = ((m / 65536:Nat):Int) := fun m => fdN m 65536
 have f3 : ∀ m : Nat,Int.fdiv (m:Int) 256 = ((m / 256:Nat):Int) := fun m => fdN m 256
 refine ⟨?_,?_⟩
 ·simp only [len64M_pre,u8w]
  repeat' (first | with_reducible apply And.intro | intro _)
  all_goals omega
 ·rw [hx]
  simp only [f1,f2,f3]
  repeat' split
  ·exact tB_law hT 56 _ n (by omega) (by omega) (by omega) (by simp only [Nat.reducePow]; omega)
  ·exact tB_law hT 48 _ n (by omega) (by omega) (by omega) (by simp only [Nat.reducePow]; omega)
  ·exact tB_law hT 40 _ n (by omega) (by omega) (by omega) (by simp only [Nat.reducePow]; omega)
  ·exact tB_law hT 32 _ n (by omega) (by omega) (by omega) (by simp only [Nat.reducePow]; omega)
  ·exact tB_law hT 24 _ n (by omega) (by omega) (by omega) (by simp only [Nat.reducePow]; omega)
  ·exact tB_law hT 16 _ n (by omega) (by omega) (by omega) (by simp only [Nat.reducePow]; omega)
  ·exact tB_law hT 8 _ n (by omega) (by omega) (by omega) (by simp only [Nat.reducePow]; omega)
  ·exact tB_law hT 0 _ n (by omega) (by omega) (by omega) (by simp only [Nat.reducePow]; omega)
theorem npot_law (n:Nat) (h : 0 < n) (hn : n < 4611686018427387904) : npotM_pre (n:Int) ∧ ∃ m : Nat,npotM (n:Int) = (m:Int) ∧ 0 < m ∧ m ≤ 2 * n := by
 obtain ⟨h1,y,h2,h3,h4⟩ := len_law n h (by omega)
 have e : IntKind.wrap IntKind.u64 (n:Int) = (n:Int) := by rw [u64w]; omega
 have hp : 0 < 2 ^ y := Nat.two_pow_pos y
 refine ⟨?_,2 ^ y,?_,hp,h4⟩
 ·simp only [npotM_pre,lenM_pre,lenM,letP,letV,e,h2]
  exact ⟨h1,by omega⟩
 ·simp only [npotM,lenM,letV,e,h2,Int.toNat_natCast,u64w,Int.one_mul]
  rw [Nat.min_eq_left h3]
  have : ((2:Int) ^ y) = ((2 ^ y:Nat):Int) := by push_cast; rfl
  rw [this]
  omega

theorem brk_loop (x : List Int × Int × Int × RT) (a b m:Nat) (hx : x.2.1 = (a:Int)) (hx2 : x.2.2.1 = (b:Int)) (h8 : 8 ≤ b - a) (hm : 0 < m) (hm2 : m ≤ 2 * (b - a)) : ∀ (n:Nat) (d : List Int) (s:Int) (i:Nat),Fine x.2.2.2 d → b ≤ d.length → a ≤ i → (a + (b - a) / 4 * 2 + 1) + 1 - i ≤ n →
  TR (brkM_l0_3_step x) (brkM_l0_3_pre x) (d,(s,((m:Int),(i:Int)))) fun r => Out x.2.2.2 d a b r := by
 intro n
 induction n with
 | zero =>
  intro d s i hf hb hi hn
  have hl := hf.len
  have e : w64 ((b:Int) - (a:Int)) = ((b - a:Nat):Int) := w64N (by omega) (by omega)
  have e0 : w64 (Int.tdiv ((b - a:Nat):Int) 4) = (((b - a) / 4:Nat):Int) := w64N (by rw [Int.tdiv_eq_ediv_of_nonneg (by omega)]; omega) (by omega)
  have m2 : w64 ((((b - a) / 4:Nat):Int) * 2) = (((b - a) / 4 * 2:Nat):Int) := w64N (by omega) (by omega)
  have n2 : w64 ((a:Int) + (((b - a) / 4 * 2:Nat):Int)) = ((a + (b - a) / 4 * 2:Nat):Int) := w64N (by omega) (by omega)
  have n3 : w64 (((a + (b - a) / 4 * 2:Nat):Int) + 1) = ((a + (b - a) / 4 * 2 + 1:Nat):Int) := w64N (by omega) (by omega)
  refine TR.stop (r := d) ?_ ?_ ⟨Sort.permIn_refl _ _ _,rfl,hf⟩
  ·simp only [brkM_l0_3_pre,hx,hx2,e,e0,m2,n2,n3]; intro h; exfalso; omega
  ·simp only [brkM_l0_3_step,hx,hx2,e,e0,m2,n2,n3]; rw [if_neg (by omega)]
 | succ n ih =>
  intro d s i hf hb hi hn
  have hl := hf.len
  have e : w64 ((b:Int) - (a:Int)) = ((b - a:Nat):Int) := w64N (by omega) (by omega)
  have e0 : w64 (Int.tdiv ((b - a:Nat):Int) 4) = (((b - a) / 4:Nat):Int) := w64N (by rw [Int.tdiv_eq_ediv_of_nonneg (by omega)]; omega) (by omega)
  have m2 : w64 ((((b - a) / 4:Nat):Int) * 2) = (((b - a) / 4 * 2:Nat):Int) := w64N (by omega) (by omega)
  have n2 : w64 ((a:Int) + (((b - a) / 4 * 2:Nat):Int)) = ((a + (b - a) / 4 * 2:Nat):Int) := w64N (by omega) (by omega)
  have n3 : w64 (((a + (b - a) / 4 * 2:Nat):Int) + 1) = ((a + (b - a) / 4 * 2 + 1:Nat):Int) := w64N (by omega) (by omega)
  by_cases hc : i ≤ a + (b - a) / 4 * 2 + 1
  ·have ho : BitVec.toNat ((BitVec.ofInt 64 (nextM s).1) &&& (BitVec.ofInt 64 (IntKind.wrap IntKind.u64 ((m:Int) - 1)))) < 2 * (b - a) := by
    rw [BitVec.toNat_and]
    refine Nat.lt_of_le_of_lt Nat.and_le_right ?_
    have e5 : IntKind.wrap IntKind.u64 ((m:Int) - 1) = ((m - 1:Nat):Int) := by rw [u64w]; omega
    rw [e5,BitVec.ofInt_natCast,BitVec.toNat_ofNat]
    exact Nat.lt_of_le_of_lt (Nat.mod_le _ _) (by omega)
   obtain ⟨o,hoe⟩ : ∃ o,o = BitVec.toNat ((BitVec.ofInt 64 (nextM s).1) &&& (BitVec.ofInt 64 (IntKind.wrap IntKind.u64 ((m:Int) - 1)))) := ⟨_,rfl⟩
   rw [← hoe] at ho
   have e6 : w64 (IntKind.wrap IntKind.u64 (o:Int)) = (o:Int) := by rw [u64w]; exact w64N (by omega) (by omega)
   have e7 : w64 ((i:Int) + 1) = ((i + 1:Nat):Int) := w64N (by omega) (by omega)
   obtain ⟨j,hj⟩ : ∃ j,j = if o ≥ b - a then a + (o - (b - a)) else a + o := ⟨_,rfl⟩
   have hj1 : a ≤ j ∧ j < b := by rw [hj]; split <;> omega
   have hs := Sort.swp_permIn d.toArray a b i j hi (by omega) hj1.1 hj1.2 (by simpa using hb)
   refine TR.go (s' := (sw d i j,((nextM s).2,((m:Int),((i + 1:Nat):Int))))) ?_ ?_ ((ih _ _ (i + 1) (hf.sw (i := i) (j := j) (by omega) (by omega)) (by rw [sw_len]; omega) (by omega) (by omega)).mono fun r hr => ⟨Sort.permIn_trans _ _ _ _ _ hs (by rw [← sw_arr]; exact hr.1),by rw [hr.2.1,sw_len],hr.2.2⟩)
   ·simp only [brkM_l0_3_pre,letP,hx,hx2,e,e0,m2,n2,n3,← hoe,e6,List.length_set,Int.toNat_natCast]
    intro _
    refine ⟨fun h => ?_,fun h => ?_⟩
    ·have e8 : w64 ((o:Int) - ((b - a:Nat):Int)) = ((o - (b - a):Nat):Int) := w64N (by omega) (by omega)
     have e9 : w64 ((a:Int) + ((o - (b - a):Nat):Int)) = ((a + (o - (b - a)):Nat):Int) := w64N (by omega) (by omega)
     simp only [e8,e9,Int.toNat_natCast]
     repeat' (first | with_reducible apply And.intro | intro _)
     all_goals omega
    ·have e9 : w64 ((a:Int) + (o:Int)) = ((a + o:Nat):Int) := w64N (by omega) (by omega)
     simp only [e9,Int.toNat_natCast]
     repeat' (first | with_reducible apply And.intro | intro _)
     all_goals omega
   ·simp only [brkM_l0_3_step,letV,hx,hx2,e,e0,m2,n2,n3,← hoe,e6,e7,Int.toNat_natCast]
    rw [if_pos (by omega)]
    by_cases h : o ≥ b - a
    ·have e8 : w64 ((o:Int) - ((b - a:Nat):Int)) = ((o - (b - a):Nat):Int) := w64N (by omega) (by omega)
     have e9 : w64 ((a:Int) + ((o - (b - a):Nat):Int)) = ((a + (o - (b - a)):Nat):Int) := w64N (by omega) (by omega)
     rw [if_pos (by omega),hj,if_pos h]
     simp only [e8,e9,Int.toNat_natCast]; rfl
    ·have e9 : w64 ((a:Int) + (o:Int)) = ((a + o:Nat):Int) := w64N (by omega) (by omega)
     rw [if_neg (by omega),hj,if_neg h]
     simp only [e9,Int.toNat_natCast]; rfl
  ·refine TR.stop (r := d) ?_ ?_ ⟨Sort.permIn_refl _ _ _,rfl,hf⟩
   ·simp only [brkM_l0_3_pre,hx,hx2,e,e0,m2,n2,n3]; intro h; exfalso; omega
   ·simp only [brkM_l0_3_step,hx,hx2,e,e0,m2,n2,n3]; rw [if_neg (by omega)]
theorem brk_law {r : RT} {d : List Int} (hf : Fine r d) {a b : Nat} (hab : a ≤ b) (hb : b ≤ d.length) :
  brkM_pre (d,((a:Int),((b:Int),r))) ∧ Out r d a b (brkM (d,((a:Int),((b:Int),r)))).2.1 := by
 have hl := hf.len
 have e : w64 ((b:Int) - (a:Int)) = ((b - a:Nat):Int) := w64N (by omega) (by omega)
 have e0 : w64 (Int.tdiv ((b - a:Nat):Int) 4) = (((b - a) / 4:Nat):Int) := w64N (by rw [Int.tdiv_eq_ediv_of_nonneg (by omega)]; omega) (by omega)
 have m2 : w64 ((((b - a) / 4:Nat):Int) * 2) = (((b - a) / 4 * 2:Nat):Int) := w64N (by omega) (by omega)
 have n2 : w64 ((a:Int) + (((b - a) / 4 * 2:Nat):Int)) = ((a + (b - a) / 4 * 2:Nat):Int) := w64N (by omega) (by omega)
 by_cases h8 : 8 ≤ b - a
 ·have n3 : w64 (((a + (b - a) / 4 * 2:Nat):Int) - 1) = ((a + (b - a) / 4 * 2 - 1:Nat):Int) := w64N (by omega) (by omega)
  obtain ⟨p1,m,p2,p3,p4⟩ := npot_law (b - a) (by omega) (by omega)
  obtain ⟨h1,h2⟩ := brk_loop (d,((a:Int),((b:Int),r))) a b m rfl rfl h8 p3 p4 _ d (IntKind.wrap IntKind.u64 ((b - a:Nat):Int)) (a + (b - a) / 4 * 2 - 1) hf hb (by omega) (Nat.le_refl _)
  refine ⟨?_,?_⟩
  ·simp only [brkM_pre,letP,e,e0,m2,n2,n3,p2]
   exact ⟨fun _ => ⟨p1,h1,h2.2.1⟩,fun _ => by first | trivial | rfl⟩
  ·simp only [brkM,letV,e,e0,m2,n2,n3,p2]
   rw [if_pos (by omega)]
   exact h2
 ·refine ⟨?_,?_⟩
  ·simp only [brkM_pre,letP,e]
   exact ⟨fun h => absurd h (show ¬ ((b - a:Nat):Int) ≥ 8 by omega),fun _ => by first | trivial | rfl⟩
  ·simp only [brkM,letV,e]
   rw [if_neg (by omega)]
   exact ⟨Sort.permIn_refl _ _ _,rfl,hf⟩
theorem scan_up {S R : Type} [Inhabited R] {step : S → S ⊕ R} {pre : S → Prop} (st : Nat → S) (out : Nat → R) (p : Int → Bool) (d : List Int) (lo j:Nat)
  (hp : ∀ i,lo ≤ i → i ≤ j + 2 → pre (st i)) (h1 : ∀ i,lo ≤ i → i ≤ j → p (d.getD i 0) = true → step (st i) = .inl (st (i + 1)))
  (h2 : ∀ i,lo ≤ i → i ≤ j + 2 → ¬ (i ≤ j ∧ p (d.getD i 0) = true) → step (st i) = .inr (out i)) :
  ∀ (n i:Nat),lo ≤ i → i ≤ j + 2 → j + 1 - i ≤ n → TR step pre (st i) fun r => r = out (Sort.scanUp p d.toArray j i) ∧ i ≤ Sort.scanUp p d.toArray j i ∧ Sort.scanUp p d.toArray j i ≤ j + 2 := by
 intro n
 induction n with
 | zero =>
  intro i hi hij hn
  have hc : ¬ (i ≤ j ∧ p (d.getD i 0) = true) := fun h => by omega
  have e : Sort.scanUp p d.toArray j i = i := by rw [Sort.scanUp,getBang,if_neg (by rw [Bool.and_eq_true,decide_eq_true_eq]; exact hc)]
  exact TR.stop (hp i hi hij) (h2 i hi hij hc) ⟨by rw [e],by rw [e]; omega,by rw [e]; omega⟩
 | succ n ih =>
  intro i hi hij hn
  by_cases hc : i ≤ j ∧ p (d.getD i 0) = true
  ·have e : Sort.scanUp p d.toArray j i = Sort.scanUp p d.toArray j (i + 1) := by rw [Sort.scanUp,getBang,if_pos (by rw [Bool.and_eq_true,decide_eq_true_eq]; exact hc)]
   rw [e]
   exact TR.go (hp i hi hij) (h1 i hi hc.1 hc.2) ((ih (i + 1) (by omega) (by omega) (by omega)).mono fun r hr => ⟨hr.1,by omega,hr.2.2⟩)
  ·have e : Sort.scanUp p d.toArray j i = i := by rw [Sort.scanUp,getBang,if_neg (by rw [Bool.and_eq_true,decide_eq_true_eq]; exact hc)]
   exact TR.stop (hp i hi hij) (h2 i hi hij hc) ⟨by rw [e],by rw [e]; omega,by rw [e]; omega⟩
theorem scan_down {S R : Type} [Inhabited R] {step : S → S ⊕ R} {pre : S → Prop} (st : Nat → S) (out : Nat → R) (p : Int → Bool) (d : List Int) (hi i:Nat) (h0 : 1 ≤ i)
  (hp : ∀ j,j ≤ hi → pre (st j)) (h1 : ∀ j,j + 1 ≤ hi → i ≤ j + 1 → p (d.getD (j + 1) 0) = true → step (st (j + 1)) = .inl (st j))
  (h2 : ∀ j,j ≤ hi → ¬ (i ≤ j ∧ p (d.getD j 0) = true) → step (st j) = .inr (out j)) :
  ∀ (j:Nat),j ≤ hi → i ≤ j + 2 → TR step pre (st j) fun r => r = out (Sort.scanDown p d.toArray i j) ∧ Sort.scanDown p d.toArray i j ≤ j ∧ i ≤ Sort.scanDown p d.toArray i j + 2 := by
 intro j
 induction j with
 | zero =>
  intro hj hij
  exact TR.stop (hp 0 hj) (h2 0 hj fun h => by omega) ⟨by rw [Sort.scanDown],by rw [Sort.scanDown]; omega,by rw [Sort.scanDown]; omega⟩
 | succ j ih =>
  intro hj hij
  by_cases hc : i ≤ j + 1 ∧ p (d.getD (j + 1) 0) = true
  ·have e : Sort.scanDown p d.toArray i (j + 1) = Sort.scanDown p d.toArray i j := by rw [Sort.scanDown,getBang,if_pos (by rw [Bool.and_eq_true,decide_eq_true_eq]; exact hc)]
   rw [e]
   exact TR.go (hp _ hj) (h1 j hj hc.1 hc.2) ((ih (by omega) (by omega)).mono fun r hr => ⟨hr.1,by omega,hr.2.2⟩)
  ·have e : Sort.scanDown p d.toArray i (j + 1) = j + 1 := by rw [Sort.scanDown,getBang,if_neg (by rw [Bool.and_eq_true,decide_eq_true_eq]; exact hc)]
   exact TR.stop (hp _ hj) (h2 _ hj hc) ⟨by rw [e],by rw [e]; omega,by rw [e]; omega⟩
theorem nlt (r : RT) (x y:Int) : ((!(decide (byM (r,(x,y)) < 0))) = true) ↔ (!ltM r x y) = true := by unfold ltM; simp

section
variable {x : List Int × Int × Int × Int × RT} {a : Nat}
theorem pe_up (hx : x.2.1 = (a:Int)) {d : List Int} (hf : Fine x.2.2.2.2 d) {j : Nat} (ha : a < d.length) (hj : j < d.length) {i : Nat} (hi : i ≤ j + 2) :
  TR (partEM_l2_3_step x) (partEM_l2_3_pre x) (d,((i:Int),(j:Int))) fun r => r = (d,(((Sort.scanUp (fun y => !ltM x.2.2.2.2 (d.getD a 0) y) d.toArray j i:Nat):Int),(j:Int))) ∧ i ≤ Sort.scanUp (fun y => !ltM x.2.2.2.2 (d.getD a 0) y) d.toArray j i ∧ Sort.scanUp (fun y => !ltM x.2.2.2.2 (d.getD a 0) y) d.toArray j i ≤ j + 2 := by
 have hl := hf.len
 refine scan_up (fun i => (d,((i:Int),(j:Int)))) (fun i => (d,((i:Int),(j:Int)))) _ d 0 j (fun i _ hi => ?_) (fun i _ hi h => ?_) (fun i _ hi h => ?_) _ i (by omega) hi (Nat.le_refl _)
 ·simp only [partEM_l2_3_pre,hx,Int.toNat_natCast]
  intro h
  refine ⟨?_,?_,?_,?_,?_,?_,hf.by_ ha (by omega)⟩ <;> omega
 ·simp only [partEM_l2_3_step,letV,hx,Int.toNat_natCast]
  rw [if_pos (by omega),if_pos ((nlt _ _ _).2 h),w64N (n := (i:Int) + 1) (m := i + 1) (by omega) (by omega)]
 ·simp only [partEM_l2_3_step,letV,hx,Int.toNat_natCast]
  by_cases hc : i ≤ j
  ·rw [if_pos (by omega),if_neg (fun h' => h ⟨hc,(nlt _ _ _).1 h'⟩)]
  ·rw [if_neg (by omega)]
theorem pe_down (hx : x.2.1 = (a:Int)) {d : List Int} (hf : Fine x.2.2.2.2 d) {i : Nat} (h0 : 1 ≤ i) (ha : a < d.length) {j : Nat} (hj : j < d.length) (hi : i ≤ j + 2) :
  TR (partEM_l4_3_step x) (partEM_l4_3_pre x) (d,((i:Int),(j:Int))) fun r => r = (d,((i:Int),((Sort.scanDown (fun y => ltM x.2.2.2.2 (d.getD a 0) y) d.toArray i j:Nat):Int))) ∧ Sort.scanDown (fun y => ltM x.2.2.2.2 (d.getD a 0) y) d.toArray i j ≤ j ∧ i ≤ Sort.scanDown (fun y => ltM x.2.2.2.2 (d.getD a 0) y) d.toArray i j + 2 := by
 have hl := hf.len
 refine scan_down (fun j => (d,((i:Int),(j:Int)))) (fun j => (d,((i:Int),(j:Int)))) _ d j i h0 (fun j hj => ?_) (fun j hj hi h => ?_) (fun j hj h => ?_) j (Nat.le_refl _) hi
 ·simp only [partEM_l4_3_pre,hx,Int.toNat_natCast]
  intro h
  refine ⟨?_,?_,?_,?_,?_,?_,hf.by_ ha (by omega)⟩ <;> omega
 ·simp only [partEM_l4_3_step,letV,hx,Int.toNat_natCast]
  rw [if_pos (by omega),if_pos ((by_lt _ _ _).2 h),w64N (n := ((j + 1:Nat):Int) - 1) (m := j) (by omega) (by omega)]
 ·simp only [partEM_l4_3_step,letV,hx,Int.toNat_natCast]
  by_cases hc : i ≤ j
  ·rw [if_pos (by omega),if_neg (fun h' => h ⟨hc,(by_lt _ _ _).1 h'⟩)]
  ·rw [if_neg (by omega)]
theorem pe_loop (hx : x.2.1 = (a:Int)) : ∀ (n:Nat) (d : List Int) (i j:Nat),Fine x.2.2.2.2 d → 1 ≤ i → a < d.length → j < d.length → i ≤ j + 2 → j + 1 - i ≤ n →
  TR (partEM_l0_3_step x) (partEM_l0_3_pre x) (d,((i:Int),(j:Int))) fun r => r.1.toArray = (Sort.partEqLoop (ltM x.2.2.2.2) a i j d.toArray).2 ∧ r.2 = ((Sort.partEqLoop (ltM x.2.2.2.2) a i j d.toArray).1:Int) ∧ r.1.length = d.length ∧ Fine x.2.2.2.2 r.1 := by
 intro n
 induction n using Nat.strongRecOn with
 | ind n ih =>
 intro d i j hf h0 ha hj hij hn
 have hl := hf.len
 obtain ⟨u1,u2,u3,u4⟩ := pe_up hx hf ha hj hij
 obtain ⟨i2,hi2⟩ : ∃ i2,i2 = Sort.scanUp (fun y => !ltM x.2.2.2.2 (d.getD a 0) y) d.toArray j i := ⟨_,rfl⟩
 rw [← hi2] at u2 u3 u4
 obtain ⟨v1,v2,v3,v4⟩ := pe_down hx hf (i := i2) (by omega) ha hj (by omega)
 obtain ⟨j2,hj2⟩ : ∃ j2,j2 = Sort.scanDown (fun y => ltM x.2.2.2.2 (d.getD a 0) y) d.toArray i2 j := ⟨_,rfl⟩
 rw [← hj2] at v2 v3 v4
 have hE : Sort.partEqLoop (ltM x.2.2.2.2) a i j d.toArray = if i2 > j2 then (i2,d.toArray) else Sort.partEqLoop (ltM x.2.2.2.2) a (i2 + 1) (j2 - 1) (Sort.swp d.toArray i2 j2) := by
  rw [Sort.partEqLoop]
  simp only [getBang,← hi2,← hj2]
  by_cases hc : i2 > j2
  ·rw [if_pos hc,if_pos hc]
  ·rw [if_neg hc,if_neg hc,dif_pos (by omega)]
 by_cases hc : i2 > j2
 ·refine TR.stop (r := (d,(i2:Int))) ?_ ?_ ?_
  ·simp only [partEM_l0_3_pre,letP,u2,v2]
   exact ⟨u1,v1,fun h => absurd (show (i2:Int) > (j2:Int) by omega) h⟩
  ·simp only [partEM_l0_3_step,letV,u2,v2]
   rw [if_pos (by omega)]
  ·rw [hE,if_pos hc]; exact ⟨rfl,rfl,rfl,hf⟩
 ·refine TR.go (s' := (sw d i2 j2,(((i2 + 1:Nat):Int),((j2 - 1:Nat):Int)))) ?_ ?_ ((ih (j2 - 1 + 1 - (i2 + 1)) (by omega) (sw d i2 j2) (i2 + 1) (j2 - 1) (hf.sw (i := i2) (j := j2) (by omega) (by omega)) (by omega) (by rw [sw_len]; omega) (by rw [sw_len]; omega) (by omega) (Nat.le_refl _)).mono fun r hr => ?_)
  ·simp only [partEM_l0_3_pre,letP,u2,v2,List.length_set,Int.toNat_natCast]
   refine ⟨u1,v1,fun _ => ?_⟩
   refine ⟨?_,?_,?_,?_,?_,?_,?_,?_,?_,?_,?_,?_⟩ <;> omega
  ·simp only [partEM_l0_3_step,letV,u2,v2,Int.toNat_natCast]
   rw [if_neg (by omega),w64N (n := (i2:Int) + 1) (m := i2 + 1) (by omega) (by omega),w64N (n := (j2:Int) - 1) (m := j2 - 1) (by omega) (by omega)]
   rfl
  ·rw [hE,if_neg hc,← sw_arr]
   rw [sw_len] at hr
   exact hr
end
theorem pe_law {r : RT} {d : List Int} (hf : Fine r d) {a b p : Nat} (hap : a ≤ p) (hpb : p < b) (hb : b ≤ d.length) :
  partEM_pre (d,((a:Int),((b:Int),((p:Int),r)))) ∧ (partEM (d,((a:Int),((b:Int),((p:Int),r))))).1 = ((Sort.partitionEqual (ltM r) d.toArray a b p).1:Int) ∧
   (partEM (d,((a:Int),((b:Int),((p:Int),r))))).2.1.toArray = (Sort.partitionEqual (ltM r) d.toArray a b p).2 ∧ (partEM (d,((a:Int),((b:Int),((p:Int),r))))).2.1.length = d.length ∧ Fine r (partEM (d,((a:Int),((b:Int),((p:Int),r))))).2.1 := by
 have hl := hf.len
 have e1 : w64 ((a:Int) + 1) = ((a + 1:Nat):Int) := w64N (by omega) (by omega)
 have e2 : w64 ((b:Int) - 1) = ((b - 1:Nat):Int) := w64N (by omega) (by omega)
 have hs := hf.sw (i := a) (j := p) (by omega) (by omega)
 obtain ⟨h1,h2,h3,h4,h5⟩ := pe_loop (x := (d,((a:Int),((b:Int),((p:Int),r))))) (a := a) rfl _ (sw d a p) (a + 1) (b - 1) hs (by omega) (by rw [sw_len]; omega) (by rw [sw_len]; omega) (by omega) (Nat.le_refl _)
 rw [sw_arr] at h2 h3
 rw [sw_len] at h4
 have e : partEM (d,((a:Int),((b:Int),((p:Int),r)))) = ((run (partEM_l0_3_step (d,((a:Int),((b:Int),((p:Int),r))))) (sw d a p,(((a + 1:Nat):Int),((b - 1:Nat):Int)))).2,((run (partEM_l0_3_step (d,((a:Int),((b:Int),((p:Int),r))))) (sw d a p,(((a + 1:Nat):Int),((b - 1:Nat):Int)))).1,(false,(false,(false,false))))) := by
  simp only [partEM,letV,e1,e2,Int.toNat_natCast]; rfl
 rw [e]
 refine ⟨?_,h3,h2,h4,h5⟩
 simp only [partEM_pre,letP,e1,e2,List.length_set,Int.toNat_natCast]
 refine ⟨?_,?_,?_,?_,?_,?_,?_,?_,?_,?_,?_,?_,h1,h4⟩ <;> omega
section
variable {x : List Int × Int × Int × Int × RT} {a : Nat}
theorem pt_up0 {b : Nat} (hx : x.2.1 = (a:Int)) (hx2 : x.2.2.1 = (b:Int)) {d : List Int} (hf : Fine x.2.2.2.2 d) (ha : a < d.length) (hb : b ≤ d.length) (h0 : 0 < b) {i : Nat} (hi : i ≤ b - 1 + 2) :
  TR (partM_l0_3_step x) (partM_l0_3_pre x) (d,(i:Int)) fun r => r = (d,((Sort.scanUp (fun y => ltM x.2.2.2.2 y (d.getD a 0)) d.toArray (b - 1) i:Nat):Int)) ∧ i ≤ Sort.scanUp (fun y => ltM x.2.2.2.2 y (d.getD a 0)) d.toArray (b - 1) i ∧ Sort.scanUp (fun y => ltM x.2.2.2.2 y (d.getD a 0)) d.toArray (b - 1) i ≤ b - 1 + 2 := by
 have hl := hf.len
 have e2 : w64 ((b:Int) - 1) = ((b - 1:Nat):Int) := w64N (by omega) (by omega)
 refine scan_up (fun i => (d,(i:Int))) (fun i => (d,(i:Int))) _ d 0 (b - 1) (fun i _ hi => ?_) (fun i _ hi h => ?_) (fun i _ hi h => ?_) _ i (by omega) hi (Nat.le_refl _)
 ·simp only [partM_l0_3_pre,hx,hx2,e2,Int.toNat_natCast]
  intro h
  refine ⟨?_,?_,?_,?_,?_,?_,hf.by_ (by omega) ha⟩ <;> omega
 ·simp only [partM_l0_3_step,letV,hx,hx2,e2,Int.toNat_natCast]
  rw [if_pos (by omega),if_pos ((by_lt _ _ _).2 h),w64N (n := (i:Int) + 1) (m := i + 1) (by omega) (by omega)]
 ·simp only [partM_l0_3_step,letV,hx,hx2,e2,Int.toNat_natCast]
  by_cases hc : i ≤ b - 1
  ·rw [if_pos (by omega),if_neg (fun h' => h ⟨hc,(by_lt _ _ _).1 h'⟩)]
  ·rw [if_neg (by omega)]
theorem pt_down0 (hx : x.2.1 = (a:Int)) {d : List Int} (hf : Fine x.2.2.2.2 d) {i : Nat} (h0 : 1 ≤ i) (ha : a < d.length) {j : Nat} (hj : j < d.length) (hi : i ≤ j + 2) :
  TR (partM_l2_3_step x) (partM_l2_3_pre x) (d,((i:Int),(j:Int))) fun r => r = (d,((i:Int),((Sort.scanDown (fun y => !ltM x.2.2.2.2 y (d.getD a 0)) d.toArray i j:Nat):Int))) ∧ Sort.scanDown (fun y => !ltM x.2.2.2.2 y (d.getD a 0)) d.toArray i j ≤ j ∧ i ≤ Sort.scanDown (fun y => !ltM x.2.2.2.2 y (d.getD a 0)) d.toArray i j + 2 := by
 have hl := hf.len
 refine scan_down (fun j => (d,((i:Int),(j:Int)))) (fun j => (d,((i:Int),(j:Int)))) _ d j i h0 (fun j hj => ?_) (fun j hj hi h => ?_) (fun j hj h => ?_) j (Nat.le_refl _) hi
 ·simp only [partM_l2_3_pre,hx,Int.toNat_natCast]
  intro h
  refine ⟨?_,?_,?_,?_,?_,?_,hf.by_ (by omega) ha⟩ <;> omega
 ·simp only [partM_l2_3_step,letV,hx,Int.toNat_natCast]
  rw [if_pos (by omega),if_pos ((nlt _ _ _).2 h),w64N (n := ((j + 1:Nat):Int) - 1) (m := j) (by omega) (by omega)]
 ·simp only [partM_l2_3_step,letV,hx,Int.toNat_natCast]
  by_cases hc : i ≤ j
  ·rw [if_pos (by omega),if_neg (fun h' => h ⟨hc,(nlt _ _ _).1 h'⟩)]
  ·rw [if_neg (by omega)]
theorem pt_up (hx : x.2.1 = (a:Int)) {d : List Int} (hf : Fine x.2.2.2.2 d) {j : Nat} (ha : a < d.length) (hj : j < d.length) {i : Nat} (hi : i ≤ j + 2) :
  TR (partM_l6_3_step x) (partM_l6_3_pre x) (d,((i:Int),(j:Int))) fun r => r = (d,(((Sort.scanUp (fun y => ltM x.2.2.2.2 y (d.getD a 0)) d.toArray j i:Nat):Int),(j:Int))) ∧ i ≤ Sort.scanUp (fun y => ltM x.2.2.2.2 y (d.getD a 0)) d.toArray j i ∧ Sort.scanUp (fun y => ltM x.2.2.2.2 y (d.getD a 0)) d.toArray j i ≤ j + 2 := by
 have hl := hf.len
 refine scan_up (fun i => (d,((i:Int),(j:Int)))) (fun i => (d,((i:Int),(j:Int)))) _ d 0 j (fun i _ hi => ?_) (fun i _ hi h => ?_) (fun i _ hi h => ?_) _ i (by omega) hi (Nat.le_refl _)
 ·simp only [partM_l6_3_pre,hx,Int.toNat_natCast]
  intro h
  refine ⟨?_,?_,?_,?_,?_,?_,hf.by_ (by omega) ha⟩ <;> omega
 ·simp only [partM_l6_3_step,letV,hx,Int.toNat_natCast]
  rw [if_pos (by omega),if_pos ((by_lt _ _ _).2 h),w64N (n := (i:Int) + 1) (m := i + 1) (by omega) (by omega)]
 ·simp only [partM_l6_3_step,letV,hx,Int.toNat_natCast]
  by_cases hc : i ≤ j
  ·rw [if_pos (by omega),if_neg (fun h' => h ⟨hc,(by_lt _ _ _).1 h'⟩)]
  ·rw [if_neg (by omega)]
theorem pt_down (hx : x.2.1 = (a:Int)) {d : List Int} (hf : Fine x.2.2.2.2 d) {i : Nat} (h0 : 1 ≤ i) (ha : a < d.length) {j : Nat} (hj : j < d.length) (hi : i ≤ j + 2) :
  TR (partM_l8_3_step x) (partM_l8_3_pre x) (d,((i:Int),(j:Int))) fun r => r = (d,((i:Int),((Sort.scanDown (fun y => !ltM x.2.2.2.2 y (d.getD a 0)) d.toArray i j:Nat):Int))) ∧ Sort.scanDown (fun y => !ltM x.2.2.2.2 y (d.getD a 0)) d.toArray i j ≤ j ∧ i ≤ Sort.scanDown (fun y => !ltM x.2.2.2.2 y (d.getD a 0)) d.toArray i j + 2 := by
 have hl := hf.len
 refine scan_down (fun j => (d,((i:Int),(j:Int)))) (fun j => (d,((i:Int),(j:Int)))) _ d j i h0 (fun j hj => ?_) (fun j hj hi h => ?_) (fun j hj h => ?_) j (Nat.le_refl _) hi
 ·simp only [partM_l8_3_pre,hx,Int.toNat_natCast]
  intro h
  refine ⟨?_,?_,?_,?_,?_,?_,hf.by_ (by omega) ha⟩ <;> omega
 ·simp only [partM_l8_3_step,letV,hx,Int.toNat_natCast]
  rw [if_pos (by omega),if_pos ((nlt _ _ _).2 h),w64N (n := ((j + 1:Nat):Int) - 1) (m := j) (by omega) (by omega)]
 ·simp only [partM_l8_3_step,letV,hx,Int.toNat_natCast]
  by_cases hc : i ≤ j
  ·rw [if_pos (by omega),if_neg (fun h' => h ⟨hc,(nlt _ _ _).1 h'⟩)]
  ·rw [if_neg (by omega)]
theorem pt_loop (hx : x.2.1 = (a:Int)) : ∀ (n:Nat) (d : List Int) (i j:Nat),Fine x.2.2.2.2 d → 1 ≤ i → a < d.length → j < d.length → i ≤ j + 2 → j + 1 - i ≤ n →
  TR (partM_l4_3_step x) (partM_l4_3_pre x) (d,((i:Int),(j:Int))) fun r => r.1.toArray = (Sort.partLoop (ltM x.2.2.2.2) a i j d.toArray).2 ∧ r.2 = ((Sort.partLoop (ltM x.2.2.2.2) a i j d.toArray).1:Int) ∧ r.1.length = d.length ∧ Fine x.2.2.2.2 r.1 ∧ (Sort.partLoop (ltM x.2.2.2.2) a i j d.toArray).1 < d.length := by
 intro n
 induction n using Nat.strongRecOn with
 | ind n ih =>
 intro d i j hf h0 ha hj hij hn
 have hl := hf.len
 obtain ⟨u1,u2,u3,u4⟩ := pt_up hx hf ha hj hij
 obtain ⟨i2,hi2⟩ : ∃ i2,i2 = Sort.scanUp (fun y => ltM x.2.2.2.2 y (d.getD a 0)) d.toArray j i := ⟨_,rfl⟩
 rw [← hi2] at u2 u3 u4
 obtain ⟨v1,v2,v3,v4⟩ := pt_down hx hf (i := i2) (by omega) ha hj (by omega)
 obtain ⟨j2,hj2⟩ : ∃ j2,j2 = Sort.scanDown (fun y => !ltM x.2.2.2.2 y (d.getD a 0)) d.toArray i2 j := ⟨_,rfl⟩
 rw [← hj2] at v2 v3 v4
 have hE : Sort.partLoop (ltM x.2.2.2.2) a i j d.toArray = if i2 > j2 then (j2,d.toArray) else Sort.partLoop (ltM x.2.2.2.2) a (i2 + 1) (j2 - 1) (Sort.swp d.toArray i2 j2) := by
  rw [Sort.partLoop]
  simp only [getBang,← hi2,← hj2]
  by_cases hc : i2 > j2
  ·rw [if_pos hc,if_pos hc]
  ·rw [if_neg hc,if_neg hc,dif_pos (by omega)]
 by_cases hc : i2 > j2
 ·refine TR.stop (r := (d,(j2:Int))) ?_ ?_ ?_
  ·simp only [partM_l4_3_pre,letP,u2,v2]
   exact ⟨u1,v1,fun h => absurd (show (i2:Int) > (j2:Int) by omega) h⟩
  ·simp only [partM_l4_3_step,letV,u2,v2]
   rw [if_pos (by omega)]
  ·rw [hE,if_pos hc]; exact ⟨rfl,rfl,rfl,hf,by show j2 < d.length; omega⟩
 ·refine TR.go (s' := (sw d i2 j2,(((i2 + 1:Nat):Int),((j2 - 1:Nat):Int)))) ?_ ?_ ((ih (j2 - 1 + 1 - (i2 + 1)) (by omega) (sw d i2 j2) (i2 + 1) (j2 - 1) (hf.sw (i := i2) (j := j2) (by omega) (by omega)) (by omega) (by rw [sw_len]; omega) (by rw [sw_len]; omega) (by omega) (Nat.le_refl _)).mono fun r hr => ?_)
  ·simp only [partM_l4_3_pre,letP,u2,v2,List.length_set,Int.toNat_natCast]
   refine ⟨u1,v1,fun _ => ?_⟩
   refine ⟨?_,?_,?_,?_,?_,?_,?_,?_,?_,?_,?_,?_⟩ <;> omega
  ·simp only [partM_l4_3_step,letV,u2,v2,Int.toNat_natCast]
   rw [if_neg (by omega),w64N (n := (i2:Int) + 1) (m := i2 + 1) (by omega) (by omega),w64N (n := (j2:Int) - 1) (m := j2 - 1) (by omega) (by omega)]
   rfl
  ·rw [hE,if_neg hc,← sw_arr]
   rw [sw_len] at hr
   exact hr
end
theorem pt_law {r : RT} {d : List Int} (hf : Fine r d) {a b p : Nat} (hap : a ≤ p) (hpb : p < b) (hb : b ≤ d.length) :
  partM_pre (d,((a:Int),((b:Int),((p:Int),r)))) ∧ (partM (d,((a:Int),((b:Int),((p:Int),r))))).1.1 = ((Sort.partition (ltM r) d.toArray a b p).1:Int) ∧
   (partM (d,((a:Int),((b:Int),((p:Int),r))))).2.1.toArray = (Sort.partition (ltM r) d.toArray a b p).2.2 ∧ (partM (d,((a:Int),((b:Int),((p:Int),r))))).2.1.length = d.length ∧ Fine r (partM (d,((a:Int),((b:Int),((p:Int),r))))).2.1 := by
 have hl := hf.len
 have e1 : w64 ((a:Int) + 1) = ((a + 1:Nat):Int) := w64N (by omega) (by omega)
 have e2 : w64 ((b:Int) - 1) = ((b - 1:Nat):Int) := w64N (by omega) (by omega)
 have hs := hf.sw (i := a) (j := p) (by omega) (by omega)
 obtain ⟨D,hD⟩ : ∃ D,D = sw d a p := ⟨_,rfl⟩
 have hDl : D.length = d.length := by rw [hD,sw_len]
 rw [← hD] at hs
 obtain ⟨X,hX⟩ : ∃ X : List Int × Int × Int × Int × RT,X = (d,((a:Int),((b:Int),((p:Int),r)))) := ⟨_,rfl⟩
 have hXr : X.2.2.2.2 = r := by rw [hX]
 have hX1 : X.2.1 = (a:Int) := by rw [hX]
 have hX2 : X.2.2.1 = (b:Int) := by rw [hX]
 have hXp : X.2.2.2.1 = (p:Int) := by rw [hX]
 have hXd : X.1 = d := by rw [hX]
 have hDD : (d.set a (d.getD p 0)).set p (d.getD a 0) = D := by rw [hD]; rfl
 obtain ⟨u1,u2,u3,u4⟩ := pt_up0 (x := X) hX1 hX2 (d := D) (by rw [hXr]; exact hs) (i := a + 1) (by omega) (by omega) (by omega) (by omega)
 obtain ⟨i2,hi2⟩ : ∃ i2,i2 = Sort.scanUp (fun y => ltM r y (D.getD a 0)) D.toArray (b - 1) (a + 1) := ⟨_,rfl⟩
 rw [hXr,← hi2] at u2 u3 u4
 obtain ⟨v1,v2,v3,v4⟩ := pt_down0 (x := X) hX1 (d := D) (by rw [hXr]; exact hs) (i := i2) (by omega) (by omega) (j := b - 1) (by omega) (by omega)
 obtain ⟨j2,hj2⟩ : ∃ j2,j2 = Sort.scanDown (fun y => !ltM r y (D.getD a 0)) D.toArray i2 (b - 1) := ⟨_,rfl⟩
 rw [hXr,← hj2] at v2 v3 v4
 have hE : Sort.partition (ltM r) d.toArray a b p = if i2 > j2 then (j2,true,Sort.swp D.toArray j2 a) else ((Sort.partLoop (ltM r) a (i2 + 1) (j2 - 1) (Sort.swp D.toArray i2 j2)).1,false,Sort.swp (Sort.partLoop (ltM r) a (i2 + 1) (j2 - 1) (Sort.swp D.toArray i2 j2)).2 (Sort.partLoop (ltM r) a (i2 + 1) (j2 - 1) (Sort.swp D.toArray i2 j2)).1 a) := by
  unfold Sort.partition
  simp only [← sw_arr,← hD,getBang,← hi2,← hj2]
 have hM : partM X = (if (i2:Int) > (j2:Int) then (((j2:Int),true),(sw D j2 a,(false,(false,(false,false))))) else
   (((run (partM_l4_3_step X) (sw D i2 j2,(w64 ((i2:Int) + 1),w64 ((j2:Int) - 1)))).2,false),(((run (partM_l4_3_step X) (sw D i2 j2,(w64 ((i2:Int) + 1),w64 ((j2:Int) - 1)))).1.set (Int.toNat (run (partM_l4_3_step X) (sw D i2 j2,(w64 ((i2:Int) + 1),w64 ((j2:Int) - 1)))).2) ((run (partM_l4_3_step X) (sw D i2 j2,(w64 ((i2:Int) + 1),w64 ((j2:Int) - 1)))).1.getD a 0)).set a ((run (partM_l4_3_step X) (sw D i2 j2,(w64 ((i2:Int) + 1),w64 ((j2:Int) - 1)))).1.getD (Int.toNat (run (partM_l4_3_step X) (sw D i2 j2,(w64 ((i2:Int) + 1),w64 ((j2:Int) - 1)))).2) 0),(false,(false,(false,false)))))) := by
  simp only [partM,letV,hXd,hXp,hX1,hX2,Int.toNat_natCast,hDD,e1,e2,u2,v2]
  rfl
 by_cases hc : i2 > j2
 ·have hM' : partM X = (((j2:Int),true),(sw D j2 a,(false,(false,(false,false))))) := by rw [hM,if_pos (by omega)]
  rw [← hX]
  refine ⟨?_,by rw [hM',hE,if_pos hc],by rw [hM',hE,if_pos hc]; exact sw_arr _ _ _,by rw [hM']; show (sw D j2 a).length = _; rw [sw_len,hDl],by rw [hM']; exact hs.sw (by omega) (by omega)⟩
  simp only [partM_pre,letP,hXd,hXp,hX1,hX2,Int.toNat_natCast,List.length_set,hDD,e1,e2,u2,v2]
  repeat' (first | exact u1 | exact v1 | with_reducible apply And.intro | intro _)
  all_goals omega
 ·have q1 : w64 ((i2:Int) + 1) = ((i2 + 1:Nat):Int) := w64N (by omega) (by omega)
  have q2 : w64 ((j2:Int) - 1) = ((j2 - 1:Nat):Int) := w64N (by omega) (by omega)
  obtain ⟨w1,w2,w3,w4,w5,w6⟩ := pt_loop (x := X) hX1 _ (sw D i2 j2) (i2 + 1) (j2 - 1) (by rw [hXr]; exact hs.sw (by omega) (by omega)) (by omega) (by rw [sw_len]; omega) (by rw [sw_len]; omega) (by omega) (Nat.le_refl _)
  rw [hXr,sw_arr] at w2 w3 w6
  rw [hXr] at w5
  rw [sw_len] at w4 w6
  obtain ⟨R,hR⟩ : ∃ R,R = run (partM_l4_3_step X) (sw D i2 j2,(((i2 + 1:Nat):Int),((j2 - 1:Nat):Int))) := ⟨_,rfl⟩
  obtain ⟨m,hm⟩ : ∃ m,m = (Sort.partLoop (ltM r) a (i2 + 1) (j2 - 1) (Sort.swp D.toArray i2 j2)).1 := ⟨_,rfl⟩
  rw [← hm] at w3 w6
  rw [← hR] at w2 w3 w4 w5
  have hM' : partM X = (((m:Int),false),(sw R.1 m a,(false,(false,(false,false))))) := by
   rw [hM,if_neg (by omega),q1,q2,← hR,w3,Int.toNat_natCast]; rfl
  rw [← hX]
  refine ⟨?_,by rw [hM',hE,if_neg hc,hm],by rw [hM',hE,if_neg hc,← w2,← hm]; exact sw_arr _ _ _,by rw [hM']; show (sw R.1 m a).length = _; rw [sw_len]; omega,by rw [hM']; exact w5.sw (by omega) (by omega)⟩
  simp only [partM_pre,letP,hXd,hXp,hX1,hX2,Int.toNat_natCast,List.length_set,hDD,e1,e2,u2,v2,q1,q2]
  have hsw : (D.set i2 (D.getD j2 0)).set j2 (D.getD i2 0) = sw D i2 j2 := rfl
  simp only [hsw,← hR,w3,Int.toNat_natCast]
  repeat' (first | exact u1 | exact v1 | exact w1 | with_reducible apply And.intro | intro _)
  all_goals omega
section
variable {x : List Int × Int × Int × RT} {b : Nat}
theorem ps_scan (hx : x.2.2.1 = (b:Int)) {d : List Int} (hf : Fine x.2.2.2 d) (hb : b ≤ d.length) (c:Int) : ∀ (n i:Nat),1 ≤ i → i ≤ b → b - i ≤ n →
  TR (pInsM_l2_3_step x) (pInsM_l2_3_pre x) (d,((i:Int),c)) fun r => r = (d,(((Sort.scanSorted (ltM x.2.2.2) d.toArray b i:Nat):Int),c)) ∧ i ≤ Sort.scanSorted (ltM x.2.2.2) d.toArray b i ∧ Sort.scanSorted (ltM x.2.2.2) d.toArray b i ≤ b := by
 have hl := hf.len
 have hpre : ∀ i : Nat,1 ≤ i → pInsM_l2_3_pre x (d,((i:Int),c)) := fun i hi => by
  simp only [pInsM_l2_3_pre,hx,Int.toNat_natCast]
  intro h
  have e : w64 ((i:Int) - 1) = ((i - 1:Nat):Int) := w64N (by omega) (by omega)
  simp only [e,Int.toNat_natCast]
  refine ⟨?_,?_,?_,?_,?_,?_,hf.by_ (by omega) (by omega)⟩ <;> omega
 intro n
 induction n with
 | zero =>
  intro i h1 h2 hn
  have e : Sort.scanSorted (ltM x.2.2.2) d.toArray b i = i := by rw [Sort.scanSorted,if_neg (by rw [Bool.and_eq_true,decide_eq_true_eq]; omega)]
  refine TR.stop (r := (d,((i:Int),c))) (hpre i h1) ?_ ⟨by rw [e],by rw [e]; omega,by rw [e]; omega⟩
  simp only [pInsM_l2_3_step,hx]
  rw [if_neg (by omega)]
 | succ n ih =>
  intro i h1 h2 hn
  by_cases hi : i < b
  ·have e0 : w64 ((i:Int) - 1) = ((i - 1:Nat):Int) := w64N (by omega) (by omega)
   by_cases hlt : ltM x.2.2.2 (d.getD i 0) (d.getD (i - 1) 0) = true
   ·have e : Sort.scanSorted (ltM x.2.2.2) d.toArray b i = i := by rw [Sort.scanSorted,getBang,getBang,if_neg (by rw [Bool.and_eq_true,hlt]; simp)]
    refine TR.stop (r := (d,((i:Int),c))) (hpre i h1) ?_ ⟨by rw [e],by rw [e]; omega,by rw [e]; omega⟩
    simp only [pInsM_l2_3_step,letV,hx,e0,Int.toNat_natCast]
    rw [if_pos (by omega),if_neg (fun h => by have := (nlt _ _ _).1 h; rw [hlt] at this; cases this)]
   ·have e : Sort.scanSorted (ltM x.2.2.2) d.toArray b i = Sort.scanSorted (ltM x.2.2.2) d.toArray b (i + 1) := by rw [Sort.scanSorted,getBang,getBang,if_pos (by rw [Bool.and_eq_true]; exact ⟨decide_eq_true hi,by rw [Bool.eq_false_iff.2 hlt]; rfl⟩)]
    rw [e]
    refine TR.go (s' := (d,(((i + 1:Nat):Int),c))) (hpre i h1) ?_ ((ih (i + 1) (by omega) (by omega) (by omega)).mono fun r hr => ⟨hr.1,by omega,hr.2.2⟩)
    simp only [pInsM_l2_3_step,letV,hx,e0,Int.toNat_natCast]
    rw [if_pos (by omega),if_pos ((nlt _ _ _).2 (by rw [Bool.eq_false_iff.2 hlt]; rfl)),w64N (n := (i:Int) + 1) (m := i + 1) (by omega) (by omega)]
  ·have e : Sort.scanSorted (ltM x.2.2.2) d.toArray b i = i := by rw [Sort.scanSorted,if_neg (by rw [Bool.and_eq_true,decide_eq_true_eq]; omega)]
   refine TR.stop (r := (d,((i:Int),c))) (hpre i h1) ?_ ⟨by rw [e],by rw [e]; omega,by rw [e]; omega⟩
   simp only [pInsM_l2_3_step,hx]
   rw [if_neg (by omega)]
theorem ps_down (u v:Int) : ∀ (j:Nat) (d : List Int),Fine x.2.2.2 d → j < d.length →
  TR (pInsM_l4_3_step x) (pInsM_l4_3_pre x) (d,(u,(v,(j:Int)))) fun r => r.1.toArray = Sort.shiftDown (ltM x.2.2.2) j d.toArray ∧ r.2 = (u,v) ∧ r.1.length = d.length ∧ Fine x.2.2.2 r.1 := by
 intro j
 induction j with
 | zero =>
  intro d hf hj
  refine TR.stop (r := (d,(u,v))) ?_ ?_ ⟨?_,rfl,rfl,hf⟩
  ·simp only [pInsM_l4_3_pre]; intro h; exfalso; omega
  ·simp only [pInsM_l4_3_step]; rw [if_neg (by omega)]
  ·rw [Sort.shiftDown]
 | succ j ih =>
  intro d hf hj
  have hl := hf.len
  have e : w64 (((j + 1:Nat):Int) - 1) = (j:Int) := w64N (by omega) (by omega)
  have hpre : pInsM_l4_3_pre x (d,(u,(v,((j + 1:Nat):Int)))) := by
   simp only [pInsM_l4_3_pre,letP,e,List.length_set,Int.toNat_natCast]
   repeat' (first | with_reducible exact hf.by_ (by omega) (by omega) | with_reducible apply And.intro | intro _)
   all_goals omega
  by_cases hlt : ltM x.2.2.2 (d.getD (j + 1) 0) (d.getD j 0) = true
  ·refine TR.go (s' := (sw d (j + 1) j,(u,(v,(j:Int))))) hpre ?_ ((ih _ (hf.sw hj (by omega)) (by rw [sw_len]; omega)).mono fun r hr => ⟨?_,hr.2.1,by rw [hr.2.2.1,sw_len],hr.2.2.2⟩)
   ·simp only [pInsM_l4_3_step,letV,e,Int.toNat_natCast]
    rw [if_pos (by omega),if_neg (fun h => by have := (nlt _ _ _).1 h; rw [hlt] at this; cases this)]; rfl
   ·rw [hr.1,sw_arr]
    conv => rhs; rw [Sort.shiftDown,getBang,getBang,if_neg (by rw [hlt]; simp)]
  ·refine TR.stop (r := (d,(u,v))) hpre ?_ ⟨?_,rfl,rfl,hf⟩
   ·simp only [pInsM_l4_3_step,letV,e,Int.toNat_natCast]
    rw [if_pos (by omega),if_pos ((nlt _ _ _).2 (by rw [Bool.eq_false_iff.2 hlt]; rfl))]
   ·rw [Sort.shiftDown,getBang,getBang,if_pos (by rw [Bool.eq_false_iff.2 hlt]; rfl)]
theorem ps_up (hx : x.2.2.1 = (b:Int)) (u v:Int) : ∀ (n j:Nat) (d : List Int),Fine x.2.2.2 d → 1 ≤ j → b ≤ d.length → b - j ≤ n →
  TR (pInsM_l6_3_step x) (pInsM_l6_3_pre x) (d,(u,(v,(j:Int)))) fun r => r.1.toArray = Sort.shiftUp (ltM x.2.2.2) b j d.toArray ∧ r.2 = (u,v) ∧ r.1.length = d.length ∧ Fine x.2.2.2 r.1 := by
 intro n
 induction n with
 | zero =>
  intro j d hf h1 hb hn
  refine TR.stop (r := (d,(u,v))) ?_ ?_ ⟨?_,rfl,rfl,hf⟩
  ·simp only [pInsM_l6_3_pre,hx]; intro h; exfalso; omega
  ·simp only [pInsM_l6_3_step,hx]; rw [if_neg (by omega)]
  ·rw [Sort.shiftUp,if_neg (by omega)]
 | succ n ih =>
  intro j d hf h1 hb hn
  have hl := hf.len
  by_cases hj : j < b
  ·have e : w64 ((j:Int) - 1) = ((j - 1:Nat):Int) := w64N (by omega) (by omega)
   have e1 : w64 ((j:Int) + 1) = ((j + 1:Nat):Int) := w64N (by omega) (by omega)
   have hpre : pInsM_l6_3_pre x (d,(u,(v,(j:Int)))) := by
    simp only [pInsM_l6_3_pre,letP,e,List.length_set,Int.toNat_natCast]
    repeat' (first | with_reducible exact hf.by_ (by omega) (by omega) | with_reducible apply And.intro | intro _)
    all_goals omega
   by_cases hlt : ltM x.2.2.2 (d.getD j 0) (d.getD (j - 1) 0) = true
   ·refine TR.go (s' := (sw d j (j - 1),(u,(v,((j + 1:Nat):Int))))) hpre ?_ ((ih (j + 1) _ (hf.sw (i := j) (j := j - 1) (by omega) (by omega)) (by omega) (by rw [sw_len]; omega) (by omega)).mono fun r hr => ⟨?_,hr.2.1,by rw [hr.2.2.1,sw_len],hr.2.2.2⟩)
    ·simp only [pInsM_l6_3_step,letV,hx,e,e1,Int.toNat_natCast]
     rw [if_pos (by omega),if_neg (fun h => by have := (nlt _ _ _).1 h; rw [hlt] at this; cases this)]; rfl
    ·rw [hr.1,sw_arr]
     conv => rhs; rw [Sort.shiftUp,if_pos hj,getBang,getBang,if_neg (by rw [hlt]; simp)]
   ·refine TR.stop (r := (d,(u,v))) hpre ?_ ⟨?_,rfl,rfl,hf⟩
    ·simp only [pInsM_l6_3_step,letV,hx,e,e1,Int.toNat_natCast]
     rw [if_pos (by omega),if_pos ((nlt _ _ _).2 (by rw [Bool.eq_false_iff.2 hlt]; rfl))]
    ·rw [Sort.shiftUp,if_pos hj,getBang,getBang,if_pos (by rw [Bool.eq_false_iff.2 hlt]; rfl)]
  ·refine TR.stop (r := (d,(u,v))) ?_ ?_ ⟨?_,rfl,rfl,hf⟩
   ·simp only [pInsM_l6_3_pre,hx]; intro h; exfalso; omega
   ·simp only [pInsM_l6_3_step,hx]; rw [if_neg (by omega)]
   ·rw [Sort.shiftUp,if_neg (by omega)]
def psOut (r : (List Int × Bool) ⊕ List Int) : List Int × Bool := Sum.elim id (fun d => (d,false)) r
theorem ps_loop {a : Nat} (hx1 : x.2.1 = (a:Int)) (hx : x.2.2.1 = (b:Int)) : ∀ (s i c:Nat) (d : List Int),Fine x.2.2.2 d → c + s = 5 → a < i → i ≤ b → b ≤ d.length →
  TR (pInsM_l0_3_step x) (pInsM_l0_3_pre x) (d,((i:Int),(c:Int))) fun r => (psOut r).1.toArray = (Sort.partialIns (ltM x.2.2.2) a b s i d.toArray).1 ∧ (psOut r).2 = (Sort.partialIns (ltM x.2.2.2) a b s i d.toArray).2 ∧ (psOut r).1.length = d.length ∧ Fine x.2.2.2 (psOut r).1 := by
 intro s
 induction s with
 | zero =>
  intro i c d hf hc hi hib hb
  refine TR.stop (r := .inr d) ?_ ?_ ⟨?_,?_,rfl,hf⟩
  ·simp only [pInsM_l0_3_pre]; intro h; exfalso; omega
  ·simp only [pInsM_l0_3_step]; rw [if_neg (by omega)]
  ·show d.toArray = _
   rw [Sort.partialIns]
  ·rw [Sort.partialIns]; rfl
 | succ s ih =>
  intro i c d hf hc hi hib hb
  have hl := hf.len
  obtain ⟨u1,u2,u3,u4⟩ := ps_scan hx hf hb (c:Int) _ i (by omega) hib (Nat.le_refl _)
  obtain ⟨i2,hi2⟩ : ∃ i2,i2 = Sort.scanSorted (ltM x.2.2.2) d.toArray b i := ⟨_,rfl⟩
  rw [← hi2] at u2 u3 u4
  have e3 : w64 ((b:Int) - (a:Int)) = ((b - a:Nat):Int) := w64N (by omega) (by omega)
  have hT : Sort.partialIns (ltM x.2.2.2) a b (s + 1) i d.toArray = if i2 = b then (d.toArray,true) else if b - a < 50 then (d.toArray,false) else
    Sort.partialIns (ltM x.2.2.2) a b s i2 (if b - i2 ≥ 2 then Sort.shiftUp (ltM x.2.2.2) b (i2 + 1) (if i2 - a ≥ 2 then Sort.shiftDown (ltM x.2.2.2) (i2 - 1) (Sort.swp d.toArray i2 (i2 - 1)) else Sort.swp d.toArray i2 (i2 - 1)) else (if i2 - a ≥ 2 then Sort.shiftDown (ltM x.2.2.2) (i2 - 1) (Sort.swp d.toArray i2 (i2 - 1)) else Sort.swp d.toArray i2 (i2 - 1))) := by
   rw [Sort.partialIns,← hi2]
  by_cases hib2 : i2 = b
  ·refine TR.stop (r := .inl (d,true)) ?_ ?_ ⟨?_,?_,rfl,hf⟩
   ·simp only [pInsM_l0_3_pre,letP,u2,hx]
    exact fun _ => ⟨u1,fun h => absurd (by rw [hib2]; simp) h⟩
   ·simp only [pInsM_l0_3_step,letV,u2,hx]
    rw [if_pos (by omega),if_pos (by rw [hib2]; simp)]
   ·rw [hT,if_pos hib2]; rfl
   ·rw [hT,if_pos hib2]; rfl
  have hne : ¬ (((i2:Int) == (b:Int)) = true) := by simp; omega
  by_cases h50 : b - a < 50
  ·refine TR.stop (r := .inl (d,false)) ?_ ?_ ⟨?_,?_,rfl,hf⟩
   ·simp only [pInsM_l0_3_pre,letP,u2,hx,hx1,e3]
    exact fun _ => ⟨u1,fun _ h => absurd (show ((b - a:Nat):Int) < 50 by omega) h⟩
   ·simp only [pInsM_l0_3_step,letV,u2,hx,hx1,e3]
    rw [if_pos (by omega),if_neg hne,if_pos (by omega)]
   ·rw [hT,if_neg hib2,if_pos h50]; rfl
   ·rw [hT,if_neg hib2,if_pos h50]; rfl
  have e1 : w64 ((i2:Int) - 1) = ((i2 - 1:Nat):Int) := w64N (by omega) (by omega)
  have e2 : w64 ((i2:Int) + 1) = ((i2 + 1:Nat):Int) := w64N (by omega) (by omega)
  have e4 : w64 ((i2:Int) - (a:Int)) = ((i2 - a:Nat):Int) := w64N (by omega) (by omega)
  have e5 : w64 ((b:Int) - (i2:Int)) = ((b - i2:Nat):Int) := w64N (by omega) (by omega)
  have e6 : w64 ((c:Int) + 1) = ((c + 1:Nat):Int) := w64N (by omega) (by omega)
  have hs := hf.sw (i := i2) (j := i2 - 1) (by omega) (by omega)
  have hsw : (d.set i2 (d.getD (i2 - 1) 0)).set (i2 - 1) (d.getD i2 0) = sw d i2 (i2 - 1) := rfl
  obtain ⟨D,hD⟩ : ∃ D,D = sw d i2 (i2 - 1) := ⟨_,rfl⟩
  have hDl : D.length = d.length := by rw [hD,sw_len]
  have hDa : Sort.swp d.toArray i2 (i2 - 1) = D.toArray := by rw [hD,sw_arr]
  rw [← hD] at hs hsw
  rw [hDa] at hT
  rw [hT,if_neg hib2,if_neg h50]
  obtain ⟨w1,w2,w3,w4,w5⟩ := ps_down (x := x) (i2:Int) (c:Int) (i2 - 1) D hs (by omega)
  obtain ⟨R,hR⟩ : ∃ R,R = run (pInsM_l4_3_step x) (D,((i2:Int),((c:Int),((i2 - 1:Nat):Int)))) := ⟨_,rfl⟩
  rw [← hR] at w2 w3 w4 w5
  have hbase : ∀ (E : List Int),E.length = d.length → Fine x.2.2.2 E → pInsM_l6_3_pre x (E,((i2:Int),((c:Int),((i2 + 1:Nat):Int)))) ∧ True := fun E h1 h2 => ⟨(by
   have := (ps_up (x := x) hx (i2:Int) (c:Int) _ (i2 + 1) E h2 (by omega) (by omega) (Nat.le_refl _)).1
   cases this with | mk _ hp _ => exact hp),trivial⟩
  have hpre : pInsM_l0_3_pre x (d,((i:Int),(c:Int))) := by
   simp only [pInsM_l0_3_pre,letP,u2,hx,hx1,e1,e2,e3,e4,e5,List.length_set,Int.toNat_natCast,hsw,← hR,w3]
   refine fun _ => ⟨u1,fun _ _ => ?_⟩
   refine ⟨?_,?_,?_,?_,?_,?_,?_,?_,?_,?_,?_,?_,fun _ => ⟨w1,fun _ => (ps_up (x := x) hx (i2:Int) (c:Int) _ (i2 + 1) R.1 w5 (by omega) (by omega) (Nat.le_refl _)).1⟩,fun _ _ => (ps_up (x := x) hx (i2:Int) (c:Int) _ (i2 + 1) D hs (by omega) (by omega) (Nat.le_refl _)).1⟩ <;> omega
  have hst : pInsM_l0_3_step x (d,((i:Int),(c:Int))) = (if ((i2 - a:Nat):Int) ≥ 2 then (if ((b - i2:Nat):Int) ≥ 2 then Sum.inl ((run (pInsM_l6_3_step x) (R.1,((i2:Int),((c:Int),((i2 + 1:Nat):Int))))).1,((run (pInsM_l6_3_step x) (R.1,((i2:Int),((c:Int),((i2 + 1:Nat):Int))))).2.1,w64 ((run (pInsM_l6_3_step x) (R.1,((i2:Int),((c:Int),((i2 + 1:Nat):Int))))).2.2 + 1))) else Sum.inl (R.1,((i2:Int),((c + 1:Nat):Int)))) else
    (if ((b - i2:Nat):Int) ≥ 2 then Sum.inl ((run (pInsM_l6_3_step x) (D,((i2:Int),((c:Int),((i2 + 1:Nat):Int))))).1,((run (pInsM_l6_3_step x) (D,((i2:Int),((c:Int),((i2 + 1:Nat):Int))))).2.1,w64 ((run (pInsM_l6_3_step x) (D,((i2:Int),((c:Int),((i2 + 1:Nat):Int))))).2.2 + 1))) else Sum.inl (D,((i2:Int),((c + 1:Nat):Int))))) := by
   simp only [pInsM_l0_3_step,letV,u2,hx,hx1,e1,e2,e3,e4,e5,e6,Int.toNat_natCast,hsw,← hR,w3]
   rw [if_pos (by omega),if_neg hne,if_neg (by omega)]
  have fin : ∀ (E : List Int) (A : Array Int),E.toArray = A → E.length = d.length → Fine x.2.2.2 E → pInsM_l0_3_step x (d,((i:Int),(c:Int))) = .inl (E,((i2:Int),((c + 1:Nat):Int))) →
    TR (pInsM_l0_3_step x) (pInsM_l0_3_pre x) (d,((i:Int),(c:Int))) fun r => (psOut r).1.toArray = (Sort.partialIns (ltM x.2.2.2) a b s i2 A).1 ∧ (psOut r).2 = (Sort.partialIns (ltM x.2.2.2) a b s i2 A).2 ∧ (psOut r).1.length = d.length ∧ Fine x.2.2.2 (psOut r).1 := fun E A h1 h2 h3 h4 =>
   TR.go hpre h4 ((ih i2 (c + 1) E h3 (by omega) (by omega) (by omega) (by omega)).mono fun r hr => by rw [h1,h2] at hr; exact hr)
  by_cases hA : i2 - a ≥ 2
  ·by_cases hB : b - i2 ≥ 2
   ·obtain ⟨z1,z2,z3,z4,z5⟩ := ps_up (x := x) hx (i2:Int) (c:Int) _ (i2 + 1) R.1 w5 (by omega) (by omega) (Nat.le_refl _)
    rw [if_pos hB,if_pos hA]
    refine fin _ _ (by rw [z2,w2]) (by omega) z5 ?_
    rw [hst,if_pos (by omega),if_pos (by omega),z3,e6]
   ·rw [if_neg hB,if_pos hA]
    refine fin _ _ w2 (by omega) w5 ?_
    rw [hst,if_pos (by omega),if_neg (by omega)]
  ·by_cases hB : b - i2 ≥ 2
   ·obtain ⟨z1,z2,z3,z4,z5⟩ := ps_up (x := x) hx (i2:Int) (c:Int) _ (i2 + 1) D hs (by omega) (by omega) (Nat.le_refl _)
    rw [if_pos hB,if_neg hA]
    refine fin _ _ z2 (by omega) z5 ?_
    rw [hst,if_neg (by omega),if_pos (by omega),z3,e6]
   ·rw [if_neg hB,if_neg hA]
    refine fin _ _ rfl (by omega) hs ?_
    rw [hst,if_neg (by omega),if_neg (by omega)]
end
theorem ps_law {r : RT} {d : List Int} (hf : Fine r d) {a b : Nat} (hab : a < b) (hb : b ≤ d.length) (hB : Sort.Below (ltM r) a b d.toArray) :
  pInsM_pre (d,((a:Int),((b:Int),r))) ∧ Out r d a b (pInsM (d,((a:Int),((b:Int),r)))).2.1 ∧ ((pInsM (d,((a:Int),((b:Int),r)))).1 = true → Sort.SortedIn (ltM r) a b (pInsM (d,((a:Int),((b:Int),r)))).2.1.toArray) := by
 have hl := hf.len
 have e : w64 ((a:Int) + 1) = ((a + 1:Nat):Int) := w64N (by omega) (by omega)
 obtain ⟨h1,h2,h3,h4,h5⟩ := ps_loop (x := (d,((a:Int),((b:Int),r)))) (a := a) (b := b) rfl rfl 5 (a + 1) 0 d hf rfl (by omega) (by omega) hb
 obtain ⟨k1,k2⟩ := Sort.partialInsertionSort_holds (ltM_swo r) d.toArray a b hab (by simpa using hb) hB
 unfold Sort.partialInsertionSort at k1 k2
 obtain ⟨R,hR⟩ : ∃ R,R = run (pInsM_l0_3_step (d,((a:Int),((b:Int),r)))) (d,(((a + 1:Nat):Int),((0:Nat):Int))) := ⟨_,rfl⟩
 rw [← hR] at h2 h3 h4 h5
 have hM : pInsM (d,((a:Int),((b:Int),r))) = ((psOut R).2,((psOut R).1,(false,(false,false)))) := by
  simp only [pInsM,letV,e]
  rw [show run (pInsM_l0_3_step (d,((a:Int),((b:Int),r)))) (d,(((a + 1:Nat):Int),(0:Int))) = R from hR.symm]
  cases R <;> rfl
 refine ⟨?_,?_,?_⟩
 ·simp only [pInsM_pre,letP,e]
  refine ⟨h1,?_⟩
  rw [show run (pInsM_l0_3_step (d,((a:Int),((b:Int),r)))) (d,(((a + 1:Nat):Int),(0:Int))) = R from hR.symm]
  revert h4
  cases R <;> exact fun h => h
 ·rw [hM]
  exact ⟨by show Sort.PermIn a b d.toArray (psOut R).1.toArray; rw [h2]; exact k1,h4,h5⟩
 ·rw [hM]
  intro h
  show Sort.SortedIn (ltM r) a b (psOut R).1.toArray
  rw [h2]; exact k2 (by rw [← h3]; exact h)
section
variable {lt : Int → Int → Bool} (hS : Sort.SWO lt)
include hS
theorem below_all {a b : Nat} {D : Array Int} (h0 : 0 < a) (h : Sort.Below lt a b D) {pv : Nat} (hp : lt D[a - 1]! D[pv]! = false) : ∀ i,a ≤ i → i < b → lt D[i]! D[pv]! = false := fun i h1 h2 => by
 rcases h with h | h
 ·omega
 ·exact hS.ntrans _ _ _ (h i h1 h2) hp
theorem below_perm {a b : Nat} {D D' : Array Int} (hb : b ≤ D.size) (h : Sort.Below lt a b D) (hp : Sort.PermIn a b D D') : Sort.Below lt a b D' := by
 have _ := hS
 rcases Nat.eq_zero_or_pos a with h0 | h0
 ·exact .inl h0
 ·rcases h with h | h
  ·omega
  ·refine .inr fun i h1 h2 => ?_
   rw [hp.2.1 (a - 1) (.inl (by omega))]
   exact Sort.permIn_all D D' a b (fun e => lt e D[a - 1]! = false) hb hp h i h1 h2
theorem comb_eq {a b m pv : Nat} {D d' r' : Array Int} (hb : b ≤ D.size) (hall : ∀ i,a ≤ i → i < b → lt D[i]! D[pv]! = false) (hm1 : a < m) (hm2 : m ≤ b) (hP : Sort.PermIn a b D d')
  (h1 : ∀ i,a ≤ i → i < m → lt D[pv]! d'[i]! = false) (h2 : ∀ i,m ≤ i → i < b → lt D[pv]! d'[i]! = true) :
  Sort.Below lt m b d' ∧ (Sort.PermIn m b d' r' → Sort.SortedIn lt m b r' → Sort.PermIn a b D r' ∧ Sort.SortedIn lt a b r') := by
 refine ⟨.inr fun i hi1 hi2 => ?_,fun hP2 hs => ?_⟩
 ·rcases hq : lt d'[i]! d'[m - 1]! with _ | _
  ·rfl
  ·have := hS.trans _ _ _ (h2 i hi1 hi2) hq
   rw [h1 (m - 1) (by omega) (by omega)] at this; cases this
 ·have hsz : d'.size = D.size := hP.1
  have hP3 := Sort.permIn_mono d' r' m b a b (by omega) (Nat.le_refl _) (by omega) hP2
  have hP4 := Sort.permIn_trans D d' r' a b hP hP3
  refine ⟨hP4,fun i j hai hij hjb => ?_⟩
  by_cases him : m ≤ i
  ·exact hs i j him hij hjb
  ·have k1 := Sort.permIn_all D r' a b (fun e => lt e D[pv]! = false) hb hP4 hall j (by omega) hjb
   rw [hP2.2.1 i (.inl (by omega))]
   exact hS.ntrans _ _ _ k1 (h1 i hai (by omega))
theorem comb_part {a b m : Nat} {D d' r' : Array Int} (hb : b ≤ D.size) (hm1 : a ≤ m) (hm2 : m < b) (hP : Sort.PermIn a b D d')
  (h1 : ∀ i,a ≤ i → i < m → lt d'[i]! d'[m]! = true) (h2 : ∀ i,m < i → i < b → lt d'[i]! d'[m]! = false)
  {e' : Array Int} (hL : Sort.PermIn a m d' e') (hR : Sort.PermIn (m + 1) b e' r') (sL : Sort.SortedIn lt a m r') (sR : Sort.SortedIn lt (m + 1) b r') :
  Sort.PermIn a b D r' ∧ Sort.SortedIn lt a b r' := by
 have z1 : d'.size = D.size := hP.1
 have z2 : e'.size = d'.size := hL.1
 have q1 := Sort.permIn_mono d' e' a m a b (Nat.le_refl _) (by omega) (by omega) hL
 have q2 := Sort.permIn_mono e' r' (m + 1) b a b (by omega) (Nat.le_refl _) (by omega) hR
 have q3 := Sort.permIn_trans D e' r' a b (Sort.permIn_trans D d' e' a b hP q1) q2
 have em : e'[m]! = d'[m]! := hL.2.1 m (.inr (Nat.le_refl _))
 have rm : r'[m]! = d'[m]! := by rw [hR.2.1 m (.inl (by omega)),em]
 have lowE := Sort.permIn_all d' e' a m (fun e => lt e d'[m]! = true) (by omega) hL h1
 have lowR : ∀ i,a ≤ i → i < m → lt r'[i]! d'[m]! = true := fun i i1 i2 => by rw [hR.2.1 i (.inl (by omega))]; exact lowE i i1 i2
 have higE : ∀ i,m + 1 ≤ i → i < b → lt e'[i]! d'[m]! = false := fun i i1 i2 => by rw [hL.2.1 i (.inr (by omega))]; exact h2 i (by omega) i2
 have higR := Sort.permIn_all e' r' (m + 1) b (fun e => lt e d'[m]! = false) (by omega) hR higE
 refine ⟨q3,fun i j hai hij hjb => ?_⟩
 rcases Nat.lt_trichotomy i m with hi | hi | hi
 ·rcases Nat.lt_or_ge j m with hj | hj
  ·exact sL i j hai hij hj
  ·have k1 := lowR i hai hi
   have k2 : lt r'[j]! d'[m]! = false := by
    rcases Nat.eq_or_lt_of_le hj with e | hj'
    ·rw [← e,rm]; exact hS.irrefl _
    ·exact higR j hj' hjb
   rcases hq : lt r'[j]! r'[i]! with _ | _
   ·rfl
   ·have := hS.trans _ _ _ hq k1
    rw [k2] at this; cases this
 ·rw [hi,rm]; exact higR j (by omega) hjb
 ·exact sR i j hi hij hjb
theorem comb_part2 {a b m : Nat} {D d' r' : Array Int} (hb : b ≤ D.size) (hm1 : a ≤ m) (hm2 : m < b) (hP : Sort.PermIn a b D d')
  (h1 : ∀ i,a ≤ i → i < m → lt d'[i]! d'[m]! = true) (h2 : ∀ i,m < i → i < b → lt d'[i]! d'[m]! = false)
  {e' : Array Int} (hR : Sort.PermIn (m + 1) b d' e') (hL : Sort.PermIn a m e' r') (sL : Sort.SortedIn lt a m r') (sR : Sort.SortedIn lt (m + 1) b r') :
  Sort.PermIn a b D r' ∧ Sort.SortedIn lt a b r' := by
 have z1 : d'.size = D.size := hP.1
 have z2 : e'.size = d'.size := hR.1
 have q1 := Sort.permIn_mono d' e' (m + 1) b a b (by omega) (Nat.le_refl _) (by omega) hR
 have q2 := Sort.permIn_mono e' r' a m a b (Nat.le_refl _) (by omega) (by omega) hL
 have q3 := Sort.permIn_trans D e' r' a b (Sort.permIn_trans D d' e' a b hP q1) q2
 have em : e'[m]! = d'[m]! := hR.2.1 m (.inl (by omega))
 have rm : r'[m]! = d'[m]! := by rw [hL.2.1 m (.inr (Nat.le_refl _)),em]
 have higE := Sort.permIn_all d' e' (m + 1) b (fun e => lt e d'[m]! = false) (by omega) hR fun i i1 i2 => h2 i (by omega) i2
 have higR : ∀ i,m + 1 ≤ i → i < b → lt r'[i]! d'[m]! = false := fun i i1 i2 => by rw [hL.2.1 i (.inr (by omega))]; exact higE i i1 i2
 have lowE : ∀ i,a ≤ i → i < m → lt e'[i]! d'[m]! = true := fun i i1 i2 => by rw [hR.2.1 i (.inl (by omega))]; exact h1 i i1 i2
 have lowR := Sort.permIn_all e' r' a m (fun e => lt e d'[m]! = true) (by omega) hL lowE
 refine ⟨q3,fun i j hai hij hjb => ?_⟩
 rcases Nat.lt_trichotomy i m with hi | hi | hi
 ·rcases Nat.lt_or_ge j m with hj | hj
  ·exact sL i j hai hij hj
  ·have k1 := lowR i hai hi
   have k2 : lt r'[j]! d'[m]! = false := by
    rcases Nat.eq_or_lt_of_le hj with e | hj'
    ·rw [← e,rm]; exact hS.irrefl _
    ·exact higR j hj' hjb
   rcases hq : lt r'[j]! r'[i]! with _ | _
   ·rfl
   ·have := hS.trans _ _ _ hq k1
    rw [k2] at this; cases this
 ·rw [hi,rm]; exact higR j (by omega) hjb
 ·exact sR i j hi hij hjb
end
section
variable [PdqSelf]
abbrev PX : Type := List Int × Int × Int × Int × RT
abbrev PS : Type := List Int × Int × Int × Int × Bool × Bool
noncomputable def partT (x : PX) (s : PS) (d : List Int) (pv lim:Int) : PS ⊕ List Int :=
 (letV (partM (d,(s.2.1,(s.2.2.1,(pv,x.2.2.2.2))))) fun y =>
  (if ((w64 (y.1.1 - s.2.1)) < (w64 (s.2.2.1 - y.1.1))) then
   (letV (pdqR (y.2.1,(s.2.1,(y.1.1,(lim,x.2.2.2.2))))) fun y_1 =>
    (Sum.inl (y_1.2.1,((w64 (y.1.1 + (1:Int))),(s.2.2.1,(lim,((decide ((w64 (y.1.1 - s.2.1)) ≥ (w64 (Int.tdiv (w64 (s.2.2.1 - s.2.1)) (8:Int))))),y.1.2))))))) else
   (letV (pdqR (y.2.1,((w64 (y.1.1 + (1:Int))),(s.2.2.1,(lim,x.2.2.2.2))))) fun y_1 =>
    (Sum.inl (y_1.2.1,(s.2.1,(y.1.1,(lim,((decide ((w64 (s.2.2.1 - y.1.1)) ≥ (w64 (Int.tdiv (w64 (s.2.2.1 - s.2.1)) (8:Int))))),y.1.2)))))))))
noncomputable def tailS (x : PX) (s : PS) (d : List Int) (pv lim:Int) : PS ⊕ List Int :=
 (if (s.2.1 > (0:Int)) then
  (letV (byM (x.2.2.2.2,((List.getD d (Int.toNat (w64 (s.2.1 - (1:Int)))) (0:Int)),(List.getD d (Int.toNat pv) (0:Int))))) fun y =>
   (if ((!(decide (y < (0:Int)))) = true) then
    (letV (partEM (d,(s.2.1,(s.2.2.1,(pv,x.2.2.2.2))))) fun y_1 =>
     (Sum.inl (y_1.2.1,(y_1.1,(s.2.2.1,(lim,(s.2.2.2.2.1,s.2.2.2.2.2))))))) else
    partT x s d pv lim)) else
  partT x s d pv lim)
noncomputable def tryS (x : PX) (s : PS) (d : List Int) (pv lim:Int) : PS ⊕ List Int :=
 (letV (pInsM (d,(s.2.1,(s.2.2.1,x.2.2.2.2)))) fun y =>
  (if (y.1 = true) then Sum.inr y.2.1 else tailS x s y.2.1 pv lim))
noncomputable def hintS (x : PX) (s : PS) (d : List Int) (lim:Int) : PS ⊕ List Int :=
 (letV (pivM (d,(s.2.1,(s.2.2.1,x.2.2.2.2)))) fun y =>
  (if ((y.2 == (2:Int)) = true) then
   (letV (revM (d,(s.2.1,(s.2.2.1,x.2.2.2.2)))) fun y_1 =>
    (if (s.2.2.2.2.1 = true) then
     (if (s.2.2.2.2.2 = true) then tryS x s y_1.2.1 (w64 ((w64 (s.2.2.1 - (1:Int))) - (w64 (y.1 - s.2.1)))) lim else tailS x s y_1.2.1 (w64 ((w64 (s.2.2.1 - (1:Int))) - (w64 (y.1 - s.2.1)))) lim) else
     tailS x s y_1.2.1 (w64 ((w64 (s.2.2.1 - (1:Int))) - (w64 (y.1 - s.2.1)))) lim)) else
   (if (s.2.2.2.2.1 = true) then
    (if (s.2.2.2.2.2 = true) then
     (if ((y.2 == (1:Int)) = true) then tryS x s d y.1 lim else tailS x s d y.1 lim) else tailS x s d y.1 lim) else
    tailS x s d y.1 lim)))
theorem step_eq (x : PX) (s : PS) : pdqM_l0_3_step x s =
  (if ((w64 (s.2.2.1 - s.2.1)) ≤ (12:Int)) then
   (letV (insM (s.1,(s.2.1,(s.2.2.1,x.2.2.2.2)))) fun y => Sum.inr y.2.1) else
   (if ((s.2.2.2.1 == (0:Int)) = true) then
    (letV (heapM (s.1,(s.2.1,(s.2.2.1,x.2.2.2.2)))) fun y => Sum.inr y.2.1) else
    (if ((!s.2.2.2.2.1) = true) then
     (letV (brkM (s.1,(s.2.1,(s.2.2.1,x.2.2.2.2)))) fun y => hintS x s y.2.1 (w64 (s.2.2.2.1 - (1:Int)))) else
     hintS x s s.1 s.2.2.2.1))) := by kernel_rfl
def partP (x : PX) (s : PS) (d : List Int) (pv lim:Int) : Prop :=
 ((partM_pre (d,(s.2.1,(s.2.2.1,(pv,x.2.2.2.2))))) ∧
  letP (partM (d,(s.2.1,(s.2.2.1,(pv,x.2.2.2.2))))) fun y =>
   ((((w64 (y.1.1 - s.2.1)) < (w64 (s.2.2.1 - y.1.1))) → (pdqR_pre (y.2.1,(s.2.1,(y.1.1,(lim,x.2.2.2.2)))))) ∧
    (¬ ((w64 (y.1.1 - s.2.1)) < (w64 (s.2.2.1 - y.1.1))) → (pdqR_pre (y.2.1,((w64 (y.1.1 + (1:Int))),(s.2.2.1,(lim,x.2.2.2.2))))))))
def tailP (x : PX) (s : PS) (d : List Int) (pv lim:Int) : Prop :=
 (((s.2.1 > (0:Int)) →
  ((((0:Int) ≤ (w64 (s.2.1 - (1:Int)))) ∧ ((w64 (s.2.1 - (1:Int))) < (((List.length d):Nat):Int))) ∧
  (((Int.toNat (w64 (s.2.1 - (1:Int)))) < (List.length d)) ∧
  (((Int.toNat (w64 (s.2.1 - (1:Int)))) < (List.length d)) ∧
  ((((0:Int) ≤ pv) ∧ (pv < (((List.length d):Nat):Int))) ∧
  (((Int.toNat pv) < (List.length d)) ∧
  (((Int.toNat pv) < (List.length d)) ∧
  ((byM_pre (x.2.2.2.2,((List.getD d (Int.toNat (w64 (s.2.1 - (1:Int)))) (0:Int)),(List.getD d (Int.toNat pv) (0:Int))))) ∧
  letP (byM (x.2.2.2.2,((List.getD d (Int.toNat (w64 (s.2.1 - (1:Int)))) (0:Int)),(List.getD d (Int.toNat pv) (0:Int))))) fun y =>
  ((((!(decide (y < (0:Int)))) = true) → (partEM_pre (d,(s.2.1,(s.2.2.1,(pv,x.2.2.2.2)))))) ∧
  (¬ ((!(decide (y < (0:Int)))) = true) → partP x s d pv lim)))))))))) ∧
 (¬ (s.2.1 > (0:Int)) → partP x s d pv lim))
def tryP (x : PX) (s : PS) (d : List Int) (pv lim:Int) : Prop :=
 ((pInsM_pre (d,(s.2.1,(s.2.2.1,x.2.2.2.2)))) ∧
  letP (pInsM (d,(s.2.1,(s.2.2.1,x.2.2.2.2)))) fun y => (¬ (y.1 = true) → tailP x s y.2.1 pv lim))
def hintP (x : PX) (s : PS) (d : List Int) (lim:Int) : Prop :=
 ((pivM_pre (d,(s.2.1,(s.2.2.1,x.2.2.2.2)))) ∧
  letP (pivM (d,(s.2.1,(s.2.2.1,x.2.2.2.2)))) fun y =>
   ((((y.2 == (2:Int)) = true) →
    ((revM_pre (d,(s.2.1,(s.2.2.1,x.2.2.2.2)))) ∧
     letP (revM (d,(s.2.1,(s.2.2.1,x.2.2.2.2)))) fun y_1 =>
      (((s.2.2.2.2.1 = true) →
       (((s.2.2.2.2.2 = true) → tryP x s y_1.2.1 (w64 ((w64 (s.2.2.1 - (1:Int))) - (w64 (y.1 - s.2.1)))) lim) ∧
       (¬ (s.2.2.2.2.2 = true) → tailP x s y_1.2.1 (w64 ((w64 (s.2.2.1 - (1:Int))) - (w64 (y.1 - s.2.1)))) lim))) ∧
      (¬ (s.2.2.2.2.1 = true) → tailP x s y_1.2.1 (w64 ((w64 (s.2.2.1 - (1:Int))) - (w64 (y.1 - s.2.1)))) lim)))) ∧
   (¬ ((y.2 == (2:Int)) = true) →
    (((s.2.2.2.2.1 = true) →
     (((s.2.2.2.2.2 = true) →
      ((((y.2 == (1:Int)) = true) → tryP x s d y.1 lim) ∧
      (¬ ((y.2 == (1:Int)) = true) → tailP x s d y.1 lim))) ∧
     (¬ (s.2.2.2.2.2 = true) → tailP x s d y.1 lim))) ∧
    (¬ (s.2.2.2.2.1 = true) → tailP x s d y.1 lim)))))
theorem pre_eq (x : PX) (s : PS) : pdqM_l0_3_pre x s =
  ((((w64 (s.2.2.1 - s.2.1)) ≤ (12:Int)) → (insM_pre (s.1,(s.2.1,(s.2.2.1,x.2.2.2.2))))) ∧
  (¬ ((w64 (s.2.2.1 - s.2.1)) ≤ (12:Int)) →
   ((((s.2.2.2.1 == (0:Int)) = true) → (heapM_pre (s.1,(s.2.1,(s.2.2.1,x.2.2.2.2))))) ∧
   (¬ ((s.2.2.2.1 == (0:Int)) = true) →
    ((((!s.2.2.2.2.1) = true) →
     ((brkM_pre (s.1,(s.2.1,(s.2.2.1,x.2.2.2.2)))) ∧
      letP (brkM (s.1,(s.2.1,(s.2.2.1,x.2.2.2.2)))) fun y => hintP x s y.2.1 (w64 (s.2.2.2.1 - (1:Int))))) ∧
    (¬ ((!s.2.2.2.2.1) = true) → hintP x s s.1 s.2.2.2.1)))))) := by kernel_rfl
end
def Srt (r : RT) (d : List Int) (a b:Nat) (d' : List Int) : Prop := Out r d a b d' ∧ Sort.SortedIn (ltM r) a b d'.toArray
theorem Srt.from {r : RT} {d d' e : List Int} {a b : Nat} (h : Out r d a b d') (hs : Srt r d' a b e) : Srt r d a b e :=
 ⟨⟨Sort.permIn_trans _ _ _ _ _ h.1 hs.1.1,by rw [hs.1.2.1,h.2.1],hs.1.2.2⟩,hs.2⟩
section
variable [PdqSelf]
def Self (r : RT) (N:Nat) : Prop := ∀ (d : List Int) (a b:Nat) (lim:Int),Fine r d → a ≤ b → b ≤ d.length → b - a < N → Sort.Below (ltM r) a b d.toArray →
 pdqR_pre (d,((a:Int),((b:Int),(lim,r)))) ∧ Srt r d a b (pdqR (d,((a:Int),((b:Int),(lim,r))))).2.1
def Res (x : PX) (d : List Int) (a b:Nat) (v : PS ⊕ List Int) : Prop := match v with
 | .inl s' => TR (pdqM_l0_3_step x) (pdqM_l0_3_pre x) s' (Srt x.2.2.2.2 d a b)
 | .inr r' => Srt x.2.2.2.2 d a b r'
theorem TR.of {x : PX} {s : PS} {d : List Int} {a b : Nat} (hp : pdqM_l0_3_pre x s) (h : Res x d a b (pdqM_l0_3_step x s)) : TR (pdqM_l0_3_step x) (pdqM_l0_3_pre x) s (Srt x.2.2.2.2 d a b) := by
 cases e : pdqM_l0_3_step x s with
 | inl s' => rw [e] at h; exact TR.go hp e h
 | inr r' => rw [e] at h; exact TR.stop hp e h
theorem Res.from {x : PX} {d d' : List Int} {a b : Nat} (h : Out x.2.2.2.2 d a b d') {v : PS ⊕ List Int} (hs : Res x d' a b v) : Res x d a b v := by
 cases v with
 | inl s' => exact TR.mono hs fun r hr => Srt.from h hr
 | inr r' => exact Srt.from h hs
def Next (x : PX) (N:Nat) : Prop := ∀ (d : List Int) (a b:Nat) (lim:Int) (wb wp : Bool),Fine x.2.2.2.2 d → a ≤ b → b ≤ d.length → b - a < N → Sort.Below (ltM x.2.2.2.2) a b d.toArray →
 TR (pdqM_l0_3_step x) (pdqM_l0_3_pre x) (d,((a:Int),((b:Int),(lim,(wb,wp))))) (Srt x.2.2.2.2 d a b)
theorem part_res {x : PX} {a b pv : Nat} {d : List Int} (lim0 lim:Int) (wb wp : Bool) (hf : Fine x.2.2.2.2 d) (hb : b ≤ d.length) (hap : a ≤ pv) (hpb : pv < b) (hB : Sort.Below (ltM x.2.2.2.2) a b d.toArray)
  (hS : Self x.2.2.2.2 (b - a)) (hN : Next x (b - a)) (d0 : List Int) :
  partP x (d0,((a:Int),((b:Int),(lim0,(wb,wp))))) d (pv:Int) lim ∧ Res x d a b (partT x (d0,((a:Int),((b:Int),(lim0,(wb,wp))))) d (pv:Int) lim) := by
 have hl := hf.len
 obtain ⟨p1,p2,p3,p4,p5⟩ := pt_law hf hap hpb hb
 obtain ⟨m,hm⟩ : ∃ m,m = (Sort.partition (ltM x.2.2.2.2) d.toArray a b pv).1 := ⟨_,rfl⟩
 obtain ⟨k1,k2,k3,k4,k5⟩ := Sort.partition_holds (ltM x.2.2.2.2) (ltM_swo _) d.toArray a b pv hap hpb (by simpa using hb)
 obtain ⟨Y,hY⟩ : ∃ Y,Y = partM (d,((a:Int),((b:Int),((pv:Int),x.2.2.2.2)))) := ⟨_,rfl⟩
 rw [← hY] at p2 p3 p4 p5
 rw [← p3] at k3 k4 k5
 rw [← hm] at p2 k1 k2 k4 k5
 have e1 : w64 ((m:Int) - (a:Int)) = ((m - a:Nat):Int) := w64N (by omega) (by omega)
 have e2 : w64 ((b:Int) - (m:Int)) = ((b - m:Nat):Int) := w64N (by omega) (by omega)
 have e3 : w64 ((m:Int) + 1) = ((m + 1:Nat):Int) := w64N (by omega) (by omega)
 have hB' := below_perm (ltM_swo _) (by simpa using hb) hB k3
 have hBL : Sort.Below (ltM x.2.2.2.2) a m Y.2.1.toArray := hB'.imp_right fun h i i1 i2 => h i i1 (by omega)
 have hBR : Sort.Below (ltM x.2.2.2.2) (m + 1) b Y.2.1.toArray := .inr fun i i1 i2 => k5 i (by omega) i2
 obtain ⟨l1,l2⟩ := hS Y.2.1 a m lim p5 (by omega) (by omega) (by omega) hBL
 obtain ⟨r1,r2⟩ := hS Y.2.1 (m + 1) b lim p5 (by omega) (by omega) (by omega) hBR
 refine ⟨?_,?_⟩
 ·simp only [partP,letP,← hY,p2,e1,e2,e3]
  exact ⟨p1,fun _ => l1,fun _ => r1⟩
 ·simp only [partT,letV,← hY,p2,e1,e2,e3]
  split
  ·obtain ⟨E,hE⟩ : ∃ E,E = (pdqR (Y.2.1,((a:Int),((m:Int),(lim,x.2.2.2.2))))).2.1 := ⟨_,rfl⟩
   rw [← hE] at l2 ⊢
   have hBE : Sort.Below (ltM x.2.2.2.2) (m + 1) b E.toArray := .inr fun i i1 i2 => by
    rw [l2.1.1.2.1 i (.inr (by omega)),l2.1.1.2.1 (m + 1 - 1) (.inr (by omega))]
    exact k5 i (by omega) i2
   refine (hN E (m + 1) b lim _ _ l2.1.2.2 (by omega) (by rw [l2.1.2.1]; omega) (by omega) hBE).mono fun z hz => ?_
   have hsl : Sort.SortedIn (ltM x.2.2.2.2) a m z.toArray := fun i j i1 i2 i3 => by
    rw [hz.1.1.2.1 i (.inl (by omega)),hz.1.1.2.1 j (.inl (by omega))]; exact l2.2 i j i1 i2 i3
   obtain ⟨c1,c2⟩ := comb_part (ltM_swo x.2.2.2.2) (by simpa using hb) k1 k2 k3 k4 k5 l2.1.1 hz.1.1 hsl hz.2
   exact ⟨⟨c1,by rw [hz.1.2.1,l2.1.2.1,p4],hz.1.2.2⟩,c2⟩
  ·obtain ⟨E,hE⟩ : ∃ E,E = (pdqR (Y.2.1,(((m + 1:Nat):Int),((b:Int),(lim,x.2.2.2.2))))).2.1 := ⟨_,rfl⟩
   rw [← hE] at r2 ⊢
   have hBE : Sort.Below (ltM x.2.2.2.2) a m E.toArray := hBL.imp_right fun h i i1 i2 => by
    rw [r2.1.1.2.1 i (.inl (by omega)),r2.1.1.2.1 (a - 1) (.inl (by omega))]
    exact h i i1 i2
   refine (hN E a m lim _ _ r2.1.2.2 (by omega) (by rw [r2.1.2.1]; omega) (by omega) hBE).mono fun z hz => ?_
   have hsr : Sort.SortedIn (ltM x.2.2.2.2) (m + 1) b z.toArray := fun i j i1 i2 i3 => by
    rw [hz.1.1.2.1 i (.inr (by omega)),hz.1.1.2.1 j (.inr (by omega))]; exact r2.2 i j i1 i2 i3
   obtain ⟨c1,c2⟩ := comb_part2 (ltM_swo x.2.2.2.2) (by simpa using hb) k1 k2 k3 k4 k5 r2.1.1 hz.1.1 hz.2 hsr
   exact ⟨⟨c1,by rw [hz.1.2.1,r2.1.2.1,p4],hz.1.2.2⟩,c2⟩
theorem tail_res {x : PX} {a b pv : Nat} {d : List Int} (lim0 lim:Int) (wb wp : Bool) (hf : Fine x.2.2.2.2 d) (hb : b ≤ d.length) (hap : a ≤ pv) (hpb : pv < b) (hB : Sort.Below (ltM x.2.2.2.2) a b d.toArray)
  (hS : Self x.2.2.2.2 (b - a)) (hN : Next x (b - a)) (d0 : List Int) :
  tailP x (d0,((a:Int),((b:Int),(lim0,(wb,wp))))) d (pv:Int) lim ∧ Res x d a b (tailS x (d0,((a:Int),((b:Int),(lim0,(wb,wp))))) d (pv:Int) lim) := by
 have hl := hf.len
 obtain ⟨q1,q2⟩ := part_res lim0 lim wb wp hf hb hap hpb hB hS hN d0
 by_cases h0 : 0 < a
 ·have e1 : w64 ((a:Int) - 1) = ((a - 1:Nat):Int) := w64N (by omega) (by omega)
  obtain ⟨p1,p2,p3,p4,p5⟩ := pe_law hf hap hpb hb
  have hby := hf.by_ (i := a - 1) (j := pv) (by omega) (by omega)
  refine ⟨?_,?_⟩
  ·simp only [tailP,letP,e1,Int.toNat_natCast]
   exact ⟨fun _ => ⟨by omega,by omega,by omega,by omega,by omega,by omega,hby,fun _ => p1,fun _ => q1⟩,fun _ => q1⟩
  ·simp only [tailS,letV,e1,Int.toNat_natCast]
   rw [if_pos (by omega)]
   by_cases hlt : (!ltM x.2.2.2.2 (d.getD (a - 1) 0) (d.getD pv 0)) = true
   ·rw [if_pos ((nlt _ _ _).2 hlt)]
    have hlt' : ltM x.2.2.2.2 d.toArray[a - 1]! d.toArray[pv]! = false := by rw [getBang,getBang]; simpa using hlt
    have hall := below_all (ltM_swo x.2.2.2.2) h0 hB hlt'
    obtain ⟨k1,k2,k3,k4,k5⟩ := Sort.partitionEqual_holds (ltM x.2.2.2.2) (ltM_swo _) d.toArray a b pv hap hpb (by simpa using hb) hall
    obtain ⟨m,hm⟩ : ∃ m,m = (Sort.partitionEqual (ltM x.2.2.2.2) d.toArray a b pv).1 := ⟨_,rfl⟩
    obtain ⟨Y,hY⟩ : ∃ Y,Y = partEM (d,((a:Int),((b:Int),((pv:Int),x.2.2.2.2)))) := ⟨_,rfl⟩
    rw [← hY] at p2 p3 p4 p5
    rw [← p3] at k3 k4 k5
    rw [← hm] at p2 k1 k2 k4 k5
    rw [← hY,p2]
    have hc := fun z => comb_eq (ltM_swo x.2.2.2.2) (r' := z) (by simpa using hb) hall k1 k2 k3 k4 k5
    refine (hN Y.2.1 m b lim wb wp p5 k2 (by omega) (by omega) (hc d.toArray).1).mono fun z hz => ?_
    obtain ⟨c1,c2⟩ := (hc z.toArray).2 hz.1.1 hz.2
    exact ⟨⟨c1,by rw [hz.1.2.1,p4],hz.1.2.2⟩,c2⟩
   ·rw [if_neg (fun h => hlt ((nlt _ _ _).1 h))]
    exact q2
 ·refine ⟨?_,?_⟩
  ·simp only [tailP]
   exact ⟨fun h => absurd h (show ¬ ((a:Int) > 0) by omega),fun _ => q1⟩
  ·simp only [tailS]
   rw [if_neg (by omega)]
   exact q2
theorem try_res {x : PX} {a b pv : Nat} {d : List Int} (lim0 lim:Int) (wb wp : Bool) (hf : Fine x.2.2.2.2 d) (hb : b ≤ d.length) (hap : a ≤ pv) (hpb : pv < b) (hB : Sort.Below (ltM x.2.2.2.2) a b d.toArray)
  (hS : Self x.2.2.2.2 (b - a)) (hN : Next x (b - a)) (d0 : List Int) :
  tryP x (d0,((a:Int),((b:Int),(lim0,(wb,wp))))) d (pv:Int) lim ∧ Res x d a b (tryS x (d0,((a:Int),((b:Int),(lim0,(wb,wp))))) d (pv:Int) lim) := by
 obtain ⟨p1,p2,p3⟩ := ps_law hf (show a < b by omega) hb hB
 obtain ⟨Y,hY⟩ : ∃ Y,Y = pInsM (d,((a:Int),((b:Int),x.2.2.2.2))) := ⟨_,rfl⟩
 rw [← hY] at p2 p3
 have hB' := below_perm (ltM_swo _) (by simpa using hb) hB p2.1
 obtain ⟨q1,q2⟩ := tail_res lim0 lim wb wp p2.2.2 (by rw [p2.2.1]; exact hb) hap hpb hB' hS hN d0
 refine ⟨?_,?_⟩
 ·simp only [tryP,letP,← hY]
  exact ⟨p1,fun _ => q1⟩
 ·simp only [tryS,letV,← hY]
  split
  ·rename_i h
   exact ⟨p2,p3 h⟩
  ·exact Res.from p2 q2
theorem hint_res {x : PX} {a b : Nat} {d : List Int} (lim0 lim:Int) (wb wp : Bool) (hf : Fine x.2.2.2.2 d) (hab : a < b) (hb : b ≤ d.length) (hB : Sort.Below (ltM x.2.2.2.2) a b d.toArray)
  (hS : Self x.2.2.2.2 (b - a)) (hN : Next x (b - a)) (d0 : List Int) :
  hintP x (d0,((a:Int),((b:Int),(lim0,(wb,wp))))) d lim ∧ Res x d a b (hintS x (d0,((a:Int),((b:Int),(lim0,(wb,wp))))) d lim) := by
 have hl := hf.len
 obtain ⟨p1,p2,p3⟩ := piv_law hf hab hb
 obtain ⟨Y,hY⟩ : ∃ Y,Y = pivM (d,((a:Int),((b:Int),x.2.2.2.2))) := ⟨_,rfl⟩
 rw [← hY] at p2 p3
 obtain ⟨pv,hpv⟩ : ∃ pv : Nat,Y.1 = (pv:Int) := ⟨Y.1.toNat,by omega⟩
 rw [hpv] at p2 p3
 have e1 : w64 ((b:Int) - 1) = ((b - 1:Nat):Int) := w64N (by omega) (by omega)
 have e2 : w64 ((pv:Int) - (a:Int)) = ((pv - a:Nat):Int) := w64N (by omega) (by omega)
 have e3 : w64 (((b - 1:Nat):Int) - ((pv - a:Nat):Int)) = ((b - 1 - (pv - a):Nat):Int) := w64N (by omega) (by omega)
 obtain ⟨r1,r2⟩ := rev_law hf hab hb
 obtain ⟨Z,hZ⟩ : ∃ Z,Z = revM (d,((a:Int),((b:Int),x.2.2.2.2))) := ⟨_,rfl⟩
 rw [← hZ] at r2
 have hB' := below_perm (ltM_swo _) (by simpa using hb) hB r2.1
 have T1 := tail_res (pv := b - 1 - (pv - a)) lim0 lim wb wp r2.2.2 (by rw [r2.2.1]; exact hb) (by omega) (by omega) hB' hS hN d0
 have T2 := try_res (pv := b - 1 - (pv - a)) lim0 lim wb wp r2.2.2 (by rw [r2.2.1]; exact hb) (by omega) (by omega) hB' hS hN d0
 have T3 := tail_res (pv := pv) lim0 lim wb wp hf hb (by omega) (by omega) hB hS hN d0
 have T4 := try_res (pv := pv) lim0 lim wb wp hf hb (by omega) (by omega) hB hS hN d0
 refine ⟨?_,?_⟩
 ·simp only [hintP,letP,← hY,← hZ,hpv,e1,e2,e3]
  exact ⟨p1,fun _ => ⟨r1,fun _ => ⟨fun _ => T2.1,fun _ => T1.1⟩,fun _ => T1.1⟩,fun _ => ⟨fun _ => ⟨fun _ => ⟨fun _ => T4.1,fun _ => T3.1⟩,fun _ => T3.1⟩,fun _ => T3.1⟩⟩
 ·simp only [hintS,letV,← hY,← hZ,hpv,e1,e2,e3]
  split
  ·refine Res.from r2 ?_
   split
   ·split
    ·exact T2.2
    ·exact T1.2
   ·exact T1.2
  ·split
   ·split
    ·split
     ·exact T4.2
     ·exact T3.2
    ·exact T3.2
   ·exact T3.2
theorem pdq_next (x : PX) (N:Nat) (hS : Self x.2.2.2.2 N) : ∀ n,n ≤ N + 1 → Next x n := by
 intro n
 induction n with
 | zero => intro _ d a b lim wb wp _ _ _ h; omega
 | succ n ih =>
  intro hn d a b lim wb wp hf hab hb hlt hB
  have hl := hf.len
  have ih := ih (by omega)
  have hN : Next x (b - a) := fun d a2 b2 lim wb wp h1 h2 h3 h4 h5 => ih d a2 b2 lim wb wp h1 h2 h3 (by omega) h5
  have hS' : Self x.2.2.2.2 (b - a) := fun d a2 b2 lim h1 h2 h3 h4 h5 => hS d a2 b2 lim h1 h2 h3 (by omega) h5
  have e : w64 ((b:Int) - (a:Int)) = ((b - a:Nat):Int) := w64N (by omega) (by omega)
  obtain ⟨i1,i2,i3⟩ := ins_law hf hab hb
  obtain ⟨h1,h2,h3⟩ := heap_law hf hab hb
  obtain ⟨b1,b2⟩ := brk_law hf hab hb
  by_cases h12 : b - a ≤ 12
  ·refine TR.of ?_ ?_
   ·rw [pre_eq]
    simp only [letP,e]
    exact ⟨fun _ => i1,fun h => absurd (show ((b - a:Nat):Int) ≤ 12 by omega) h⟩
   ·rw [step_eq]
    simp only [letV,e]
    rw [if_pos (by omega)]
    exact ⟨i2,i3⟩
  ·have hB' := below_perm (ltM_swo _) (by simpa using hb) hB b2.1
   have T1 := hint_res lim (w64 (lim - 1)) wb wp b2.2.2 (by omega) (by rw [b2.2.1]; exact hb) hB' hS' hN d
   have T2 := hint_res lim lim wb wp hf (by omega) hb hB hS' hN d
   refine TR.of ?_ ?_
   ·rw [pre_eq]
    simp only [letP,e]
    exact ⟨fun h => absurd h (show ¬ ((b - a:Nat):Int) ≤ 12 by omega),fun _ => ⟨fun _ => h1,fun _ => ⟨fun _ => ⟨b1,T1.1⟩,fun _ => T2.1⟩⟩⟩
   ·rw [step_eq]
    simp only [letV,e]
    rw [if_neg (by omega)]
    split
    ·exact ⟨h2,h3⟩
    ·split
     ·exact Res.from b2 T1.2
     ·exact T2.2
theorem pdq_call {r : RT} {N : Nat} (hS : Self r N) {d : List Int} {a b : Nat} (lim:Int) (hf : Fine r d) (hab : a ≤ b) (hb : b ≤ d.length) (hn : b - a < N + 1) (hB : Sort.Below (ltM r) a b d.toArray) :
  pdqM_pre (d,((a:Int),((b:Int),(lim,r)))) ∧ Srt r d a b (pdqM (d,((a:Int),((b:Int),(lim,r))))).2.1 := by
 obtain ⟨h1,h2⟩ := pdq_next (d,((a:Int),((b:Int),(lim,r)))) N hS (N + 1) (Nat.le_refl _) d a b lim true true hf hab hb hn hB
 refine ⟨⟨h1,?_⟩,h2⟩
 exact h2.1.2.1
end
theorem none_ok : SpecOk Try.prog 45 (fnSpecW ⟨pdqP,.none,fun _ => False,fun x => (false,(x.1,(false,(false,(false,false)))))⟩) := by
 intro X args hp nm k hs
 unfold fnSpecW at hs
 split at hs
 ·split at hs
  ·obtain ⟨_,h,_⟩ := ob_spec hs
   exact h.elim
  ·exact hs.elim
 ·exact hs.elim
@[reducible] noncomputable def pdqF : Nat → PdqSelf
 | 0 => ⟨fun _ => False,fun x => (false,(x.1,(false,(false,(false,false))))),none_ok⟩
 | n + 1 => ⟨@pdqM_pre (pdqF n),@pdqM (pdqF n),@pdqM_ok (pdqF n)⟩
theorem pdqF_self (r : RT) : ∀ n,@Self (pdqF n) r n := by
 intro n
 induction n with
 | zero => intro d a b lim _ _ _ h; omega
 | succ n ih =>
  intro d a b lim hf hab hb hn hB
  exact @pdq_call (pdqF n) r n ih d a b lim hf hab hb hn hB
noncomputable def pdqT_pre (x : List Int × Int × Int × Int × RT) : Prop := @pdqR_pre (pdqF ((x.2.2.1 - x.2.1).toNat + 1)) x
noncomputable def pdqT (x : List Int × Int × Int × Int × RT) : Bool × List Int × Bool × Bool × Bool × Bool := @pdqR (pdqF ((x.2.2.1 - x.2.1).toNat + 1)) x
noncomputable abbrev pdqT_S : FnW := ⟨pdqP,.none,pdqT_pre,pdqT⟩
theorem pdqT_ok : SpecOk Try.prog 45 (fnSpecW pdqT_S) := by
 intro X args hp nm k hs
 unfold fnSpecW at hs
 split at hs
 rotate_left
 ·exact hs.elim
 rename_i x tc ws b hd
 refine (pdqF ((x.2.2.1 - x.2.1).toNat + 1)).ok X args hp nm k ?_
 unfold fnSpecW
 rw [show decW hp pdqP args = some (x,[],tc,ws,b) from hd]
 exact hs
theorem pdqT_law {r : RT} {d : List Int} {a b : Nat} (lim:Int) (hf : Fine r d) (hab : a ≤ b) (hb : b ≤ d.length) (hB : Sort.Below (ltM r) a b d.toArray) :
  pdqT_pre (d,((a:Int),((b:Int),(lim,r)))) ∧ Srt r d a b (pdqT (d,((a:Int),((b:Int),(lim,r))))).2.1 := by
 have e : (((b:Int) - (a:Int)).toNat + 1) = (b - a) + 1 := by omega
 show @pdqR_pre (pdqF (((b:Int) - (a:Int)).toNat + 1)) _ ∧ Srt r d a b (@pdqR (pdqF (((b:Int) - (a:Int)).toNat + 1)) _).2.1
 rw [e]
 exact pdqF_self r _ d a b lim hf hab hb (by omega) hB

end Go.Proofs.Ytbjfokijjefoeaa
