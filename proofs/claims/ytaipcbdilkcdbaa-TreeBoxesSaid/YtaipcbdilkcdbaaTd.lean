/- Tools for plain laws: loops. -/
import Derived.Test.YtaipcbdilkcdbaaEvR
import Derived.Test.YtaipcbdilkcdbaaTb
import Derived.Sort.AssemblyPlain
noncomputable section
set_option linter.unusedSectionVars false
set_option linter.unusedVariables false
set_option linter.unusedSimpArgs false
namespace Go.Proofs.Ytaipcbdilkcdbaa
open Go Go.Ev Go.Proofs
theorem row_loop {α R : Type} [Inhabited R] (l : List α) (step : Int → Int ⊕ R) (pre : Int → Prop) (out : List α → R)
  (hp : ∀ i : Nat,i ≤ l.length → pre i)
  (hs : ∀ (i:Nat) (x : α),l[i]? = some x → (step i = .inl ((i:Int) + 1) ∧ out (l.drop i) = out (l.drop (i + 1))) ∨ step i = .inr (out (l.drop i)))
  (he : step l.length = .inr (out [])) : Term step pre 0 ∧ run step 0 = out l := by
 refine ⟨Term.of (fun s : Int => ∃ i : Nat,s = i ∧ i ≤ l.length) (fun s : Int => l.length - s.toNat) (fun s ⟨i,e,hi⟩ => ?_) 0 ⟨0,rfl,Nat.zero_le _⟩,?_⟩
 ·subst e
  refine ⟨hp i hi,fun s' h => ?_⟩
  rcases Nat.lt_or_ge i l.length with hlt | hge
  ·rcases hs i _ (List.getElem?_eq_getElem hlt) with ⟨h1,_⟩ | h1
   ·rw [h1] at h
    cases h
    exact ⟨⟨i + 1,by omega,hlt⟩,by simp only [Int.toNat_natCast]; omega⟩
   ·rw [h1] at h; cases h
  ·have : i = l.length := by omega
   subst this
   rw [he] at h; cases h
 ·have main : ∀ k i : Nat,i + k = l.length → run step i = out (l.drop i) := by
   intro k
   induction k with
   | zero =>
    intro i hi
    have : i = l.length := by omega
    subst this
    rw [run_eq,he,List.drop_length]
   | succ k ih =>
    intro i hi
    have hlt : i < l.length := by omega
    rw [run_eq]
    rcases hs i _ (List.getElem?_eq_getElem hlt) with ⟨h1,h2⟩ | h1
    ·rw [h1,h2]
     exact ih (i + 1) (by omega)
    ·rw [h1]
  simpa using main l.length 0 (by omega)
def allOut {α : Type} (bad : α → Bool) (l : List α) : Unit ⊕ Unit := if l.any bad = true then .inl () else .inr ()
theorem getD_of {α : Type} {l : List α} {i : Nat} {x d : α} (h : l[i]? = some x) : l.getD i d = x := by rw [List.getD_eq_getElem?_getD,h]; rfl
theorem lt_of_get {α : Type} {l : List α} {i : Nat} {x : α} (h : l[i]? = some x) : i < l.length := (List.getElem?_eq_some_iff.1 h).1
theorem drop_of {α : Type} {l : List α} {i : Nat} {x : α} (h : l[i]? = some x) : l.drop i = x :: l.drop (i + 1) := by
 obtain ⟨h1,h2⟩ := List.getElem?_eq_some_iff.1 h
 rw [List.drop_eq_getElem_cons h1,h2]
theorem all_loop {α : Type} (l : List α) (hl : l.length < 4611686018427387904) (bad : α → Bool) (step : Int → Int ⊕ (Unit ⊕ Unit)) (pre : Int → Prop)
  (hp : ∀ i : Nat,i ≤ l.length → pre i)
  (hs : ∀ (i:Nat) (x : α),l[i]? = some x → step i = if bad x = true then .inr (.inl ()) else .inl (w64 ((i:Int) + 1)))
  (he : step l.length = .inr (.inr ())) : Term step pre 0 ∧ Sum.elim (fun _ => false) (fun _ => true) (run step 0) = !l.any bad := by
 obtain ⟨h1,h2⟩ := row_loop l step pre (allOut bad) hp (fun i x hx => by
  have hlt := lt_of_get hx
  rw [hs i x hx,drop_of hx]
  unfold allOut
  simp only [List.any_cons]
  by_cases hb : bad x = true
  ·exact .inr (by simp [hb])
  ·refine .inl ⟨?_,by simp [hb]⟩
   rw [if_neg hb,w64_id (by omega) (by omega)]) (by rw [he]; simp [allOut])
 refine ⟨h1,?_⟩
 rw [h2]
 unfold allOut
 cases l.any bad <;> rfl
theorem loop_inv {S R : Type} [Inhabited R] {step : S → S ⊕ R} {pre : S → Prop} (J : S → Prop) (μ : S → Nat) (Post : R → Prop)
  (h : ∀ s,J s → pre s ∧ (∀ s',step s = .inl s' → J s' ∧ μ s' < μ s) ∧ ∀ r,step s = .inr r → Post r) (s : S) (hs : J s) : Term step pre s ∧ Post (run step s) := by
 refine ⟨Term.of J μ (fun s hs => ⟨(h s hs).1,(h s hs).2.1⟩) s hs,?_⟩
 obtain ⟨n,hn⟩ : ∃ n,n = μ s := ⟨_,rfl⟩
 induction n using Nat.strongRecOn generalizing s with
 | _ n ih =>
  obtain ⟨_,h2,h3⟩ := h s hs
  rw [run_eq]
  cases e : step s with
  | inl s' =>
   obtain ⟨h4,h5⟩ := h2 s' e
   exact ih (μ s') (by omega) s' h4 rfl
  | inr r => exact h3 r e
theorem cnt {i n : Nat} (h : i < n) (hn : n < 4611686018427387904) : w64 ((i:Int) + 1) = ((i + 1:Nat):Int) := by rw [w64_id (by omega) (by omega)]; omega
theorem index_loop {α : Type} (l : List α) (hl : l.length < 4611686018427387904) (bad : α → Bool) (step : Int → Int ⊕ (Int ⊕ Unit)) (pre : Int → Prop)
  (hp : ∀ i : Nat,i ≤ l.length → pre i)
  (hs : ∀ (i:Nat) (x : α),l[i]? = some x → step i = if bad x = true then .inr (.inl i) else .inl (w64 ((i:Int) + 1)))
  (he : step l.length = .inr (.inr ())) : Term step pre 0 ∧ Sum.elim (fun a => a) (fun _ => -1) (run step 0) = match l.findIdx? bad with | some i => (i:Int) | none => -1 := by
 have key : ∀ i : Nat,i ≤ l.length → (∀ j x,j < i → l[j]? = some x → bad x = false) → True := fun _ _ _ => trivial
 obtain ⟨h1,h2⟩ := loop_inv (step := step) (pre := pre) (fun s => ∃ i : Nat,s = i ∧ i ≤ l.length ∧ ∀ j x,j < i → l[j]? = some x → bad x = false) (fun s => l.length - s.toNat)
  (fun r => Sum.elim (fun a => a) (fun _ => -1) r = match l.findIdx? bad with | some i => (i:Int) | none => -1) (fun s ⟨i,e,hi,hb⟩ => by
   subst e
   refine ⟨hp i hi,fun s' h => ?_,fun r h => ?_⟩
   ·rcases Nat.lt_or_ge i l.length with hlt | hge
    ·have hg := List.getElem?_eq_getElem hlt
     rw [hs i _ hg] at h
     split at h
     ·cases h
     ·rename_i hn
      cases h
      refine ⟨⟨i + 1,by rw [w64_id (by omega) (by omega)]; rfl,hlt,fun j x hj hx => ?_⟩,?_⟩
      ·rcases Nat.lt_or_ge j i with h1 | h1
       ·exact hb j x h1 hx
       ·have : j = i := by omega
        subst this
        rw [hg] at hx; cases hx
        simpa using hn
      ·rw [w64_id (by omega) (by omega),Int.toNat_natCast,show ((i:Int) + 1).toNat = i + 1 by omega]; omega
    ·have : i = l.length := by omega
     subst this
     rw [he] at h; cases h
   ·rcases Nat.lt_or_ge i l.length with hlt | hge
    ·have hg := List.getElem?_eq_getElem hlt
     rw [hs i _ hg] at h
     split at h
     ·rename_i hy
      cases h
      have : l.findIdx? bad = some i := by
       rw [List.findIdx?_eq_some_iff_getElem]
       refine ⟨hlt,hy,fun j hj => ?_⟩
       rw [hb j _ hj (List.getElem?_eq_getElem (by omega))]; simp
      rw [this]; rfl
     ·cases h
    ·have : i = l.length := by omega
     subst this
     rw [he] at h; cases h
     have : l.findIdx? bad = none := by
      rw [List.findIdx?_eq_none_iff]
      intro x hx
      obtain ⟨j,hj,rfl⟩ := List.getElem_of_mem hx
      exact hb j _ hj (List.getElem?_eq_getElem hj)
     rw [this]; rfl) 0 ⟨0,rfl,Nat.zero_le _,fun j x hj => absurd hj (Nat.not_lt_zero _)⟩
 exact ⟨h1,h2⟩
theorem find_any {α : Type} (l : List α) (bad : α → Bool) : decide ((match l.findIdx? bad with | some i => (i:Int) | none => -1) ≥ 0) = l.any bad := by
 cases h : l.findIdx? bad with
 | none =>
  rw [List.findIdx?_eq_none_iff] at h
  symm
  simp only [List.any_eq_false]
  refine Eq.trans ?_ (by decide : false = decide ((-1:Int) ≥ 0))
  rw [List.any_eq_false]
  exact fun x hx => by rw [h x hx]; simp
 | some i =>
  rw [List.findIdx?_eq_some_iff_getElem] at h
  obtain ⟨h1,h2,_⟩ := h
  have : l.any bad = true := List.any_eq_true.2 ⟨_,List.getElem_mem h1,h2⟩
  rw [this]
  exact decide_eq_true (by dsimp only; omega)
end Go.Proofs.Ytaipcbdilkcdbaa

namespace Go.Proofs.Ytaipcbdilkcdbaa
open Go Go.Ev Go.Proofs

def TR {S R : Type} [Inhabited R] (step : S → S ⊕ R) (pre : S → Prop) (s : S) (Post : R → Prop) : Prop := Term step pre s ∧ Post (run step s)
theorem TR.stop {S R : Type} [Inhabited R] {step : S → S ⊕ R} {pre : S → Prop} {s : S} {Post : R → Prop} {r : R} (hp : pre s) (h : step s = .inr r) (hq : Post r) : TR step pre s Post :=
 ⟨.mk s hp (fun s' e => by rw [h] at e; cases e),by rw [run_eq,h]; exact hq⟩
theorem TR.go {S R : Type} [Inhabited R] {step : S → S ⊕ R} {pre : S → Prop} {s s' : S} {Post : R → Prop} (hp : pre s) (h : step s = .inl s') (hn : TR step pre s' Post) : TR step pre s Post :=
 ⟨.mk s hp (fun t e => by rw [h] at e; cases e; exact hn.1),by rw [run_eq,h]; exact hn.2⟩
theorem TR.mono {S R : Type} [Inhabited R] {step : S → S ⊕ R} {pre : S → Prop} {s : S} {Post Post' : R → Prop} (h : TR step pre s Post) (hq : ∀ r,Post r → Post' r) : TR step pre s Post' := ⟨h.1,hq _ h.2⟩

theorem getBang (l : List Int) (i:Nat) : l.toArray[i]! = l.getD i 0 := by
 rw [List.getD_eq_getElem?_getD]
 simp only [List.getElem!_toArray]
 rw [List.getElem!_eq_getElem?_getD]; rfl
def sw (l : List Int) (i j:Nat) : List Int := (l.set i (l.getD j 0)).set j (l.getD i 0)
theorem sw_arr (l : List Int) (i j:Nat) : (sw l i j).toArray = Sort.swp l.toArray i j := by
 unfold sw Sort.swp
 rw [getBang,getBang]
 simp
theorem sw_len (l : List Int) (i j:Nat) : (sw l i j).length = l.length := by simp [sw]
theorem getD_mem {l : List Int} {i : Nat} (h : i < l.length) : l.getD i 0 ∈ l := by
 rw [List.getD_eq_getElem?_getD,List.getElem?_eq_getElem h]; exact List.getElem_mem h
end Go.Proofs.Ytaipcbdilkcdbaa

namespace Go.Proofs.Ytaipcbdilkcdbaa
open Go Go.Ev Go.Proofs
def okE (r : RT) (e:Int) : Prop := 0 ≤ e ∧ e < (r.1.length:Int)
def RO (r : RT) : Prop := 0 ≤ r.2 ∧ r.2 < 3
theorem isNaN_f (x:Int) : isNaN x = false := by simp [isNaN]
theorem compare_eq (a b:Int) : compare (a,b) = if a < b then -1 else if a > b then 1 else 0 := by
 simp [compare,isNaN_f,letV]
theorem cmpOr_law (a b:Int) : cmpOr_pre [a,b] ∧ cmpOr [a,b] = if a ≠ 0 then a else b := by
 have key : TR (cmpOr_l0_step [a,b]) (cmpOr_l0_pre [a,b]) 0 fun r => Sum.elim (fun a => a) (fun _ => (0:Int)) r = if a ≠ 0 then a else b := by
  by_cases ha : a = 0
  ·subst ha
   refine TR.go (s' := 1) (by simp [cmpOr_l0_pre]) (by simp [cmpOr_l0_step,w64_id]) ?_
   by_cases hb : b = 0
   ·subst hb
    refine TR.go (s' := 2) (by simp [cmpOr_l0_pre]) (by simp [cmpOr_l0_step,w64_id]) ?_
    exact TR.stop (r := .inr ()) (by simp [cmpOr_l0_pre]) (by simp [cmpOr_l0_step]) (by simp)
   ·exact TR.stop (r := .inl b) (by simp [cmpOr_l0_pre]) (by simp [cmpOr_l0_step,hb]) (by simp)
  ·exact TR.stop (r := .inl a) (by simp [cmpOr_l0_pre]) (by simp [cmpOr_l0_step,ha]) (by simp [ha])
 exact ⟨key.1,by unfold cmpOr letV; exact key.2⟩
def ltM (r : RT) (x y:Int) : Bool := decide (byM (r,(x,y)) < 0)
def mid (r : RT) (x:Int) : Int := middle (r,x)
theorem byM_eq (r : RT) (x y:Int) : byM (r,(x,y)) = if mid r x < mid r y then -1 else if mid r x > mid r y then 1 else if x < y then -1 else if x > y then 1 else 0 := by
 simp only [byM,letV,compare_eq,(cmpOr_law _ _).2]
 unfold mid
 generalize middle (r,x) = p
 generalize middle (r,y) = q
 split
 ·simp
 ·split <;> simp
theorem ltM_iff (r : RT) (x y:Int) : ltM r x y = true ↔ mid r x < mid r y ∨ (mid r x = mid r y ∧ x < y) := by
 unfold ltM
 rw [byM_eq,decide_eq_true_eq]
 split
 ·simp; omega
 ·split
  ·simp; omega
  ·split
   ·simp; omega
   ·split <;> simp <;> omega
theorem ltM_f (r : RT) (x y:Int) : ltM r x y = false ↔ ¬ (mid r x < mid r y ∨ (mid r x = mid r y ∧ x < y)) := by
 rw [← ltM_iff]; simp
theorem ltM_swo (r : RT) : Sort.SWO (ltM r) where
 irrefl x := by rw [ltM_f]; omega
 trans x y z h1 h2 := by rw [ltM_iff] at *; omega
 ntrans x y z h1 h2 := by rw [ltM_f] at *; omega
theorem ltM_total (r : RT) (x y:Int) (h1 : ltM r x y = false) (h2 : ltM r y x = false) : x = y := by
 rw [ltM_f] at *; omega
theorem middle_p {r : RT} (hr : RO r) {x : Int} (h : okE r x) : middle_pre (r,x) := by
 obtain ⟨h1,h2⟩ := hr
 have h : 0 ≤ x ∧ x < (r.1.length:Int) := h
 simp only [middle_pre]
 refine ⟨h,by omega,by omega,⟨h1,h2⟩,⟨h1,h2⟩,h1,h2⟩
theorem byM_p {r : RT} (hr : RO r) {x y : Int} (hx : okE r x) (hy : okE r y) : byM_pre (r,(x,y)) := by
 simp only [byM_pre,letP]
 exact ⟨middle_p hr hx,middle_p hr hy,(cmpOr_law _ _).1⟩
end Go.Proofs.Ytaipcbdilkcdbaa

namespace Go.Proofs.Ytaipcbdilkcdbaa
open Go Go.Ev Go.Proofs

def Ok (r : RT) (d : List Int) : Prop := ∀ e ∈ d,okE r e
theorem Ok.at_ {r : RT} {d : List Int} (h : Ok r d) {i : Nat} (hi : i < d.length) : okE r (d.getD i 0) := h _ (getD_mem hi)
theorem Ok.sw {r : RT} {d : List Int} (h : Ok r d) {i j : Nat} (hi : i < d.length) (hj : j < d.length) : Ok r (sw d i j) := by
 intro e he
 unfold Go.Proofs.Ytaipcbdilkcdbaa.sw at he
 rcases List.mem_or_eq_of_mem_set he with he | rfl
 ·rcases List.mem_or_eq_of_mem_set he with he | rfl
  ·exact h e he
  ·exact h.at_ hj
 ·exact h.at_ hi

structure Fine (r : RT) (d : List Int) : Prop where
 len : d.length < 4611686018427387904
 ok : Ok r d
 ro : RO r
theorem Fine.sw {r : RT} {d : List Int} (h : Fine r d) {i j : Nat} (hi : i < d.length) (hj : j < d.length) : Fine r (sw d i j) := ⟨by rw [sw_len]; exact h.len,h.ok.sw hi hj,h.ro⟩
theorem Fine.by_ {r : RT} {d : List Int} (h : Fine r d) {i j : Nat} (hi : i < d.length) (hj : j < d.length) : byM_pre (r,(d.getD i 0,d.getD j 0)) := byM_p h.ro (h.ok.at_ hi) (h.ok.at_ hj)
theorem by_lt (r : RT) (x y:Int) : (byM (r,(x,y)) < 0) ↔ ltM r x y = true := by unfold ltM; simp

theorem rev_loop (x : List Int × Int × Int × RT) : ∀ (n:Nat) (d : List Int) (i j:Nat),Fine x.2.2.2 d → j < d.length → j - i ≤ n →
  TR (revM_l0_3_step x) (revM_l0_3_pre x) (d,((i:Int),(j:Int))) fun r => r.toArray = Sort.reverseLoop i j d.toArray ∧ r.length = d.length ∧ Fine x.2.2.2 r := by
 intro n
 induction n with
 | zero =>
  intro d i j hf hj hn
  have hij : ¬ i < j := by omega
  refine TR.stop (r := d) ?_ ?_ ⟨?_,rfl,hf⟩
  ·simp only [revM_l0_3_pre]; intro h; exfalso; omega
  ·simp only [revM_l0_3_step]; rw [if_neg (by omega)]
  ·rw [Sort.reverseLoop,if_neg hij]
 | succ n ih =>
  intro d i j hf hj hn
  have hl := hf.len
  by_cases hij : i < j
  ·refine TR.go (s' := (sw d i j,(((i + 1:Nat):Int),((j - 1:Nat):Int)))) ?_ ?_ ((ih _ _ _ (hf.sw (by omega) hj) (by rw [sw_len]; omega) (by omega)).mono fun r hr => ⟨?_,?_,hr.2.2⟩)
   ·simp only [revM_l0_3_pre,letP,List.length_set,Int.toNat_natCast]
    intro _
    refine ⟨?_,?_,?_,?_,?_,?_,?_,?_,?_,?_,?_,?_⟩ <;> omega
   ·simp only [revM_l0_3_step,letV,Int.toNat_natCast]
    rw [if_pos (by omega),w64_id (by omega) (by omega),w64_id (by omega) (by omega)]
    congr 3 <;> omega
   ·rw [hr.1,sw_arr]
    conv => rhs; rw [Sort.reverseLoop,if_pos hij]
   ·rw [hr.2.1,sw_len]
  ·refine TR.stop (r := d) ?_ ?_ ⟨?_,rfl,hf⟩
   ·simp only [revM_l0_3_pre]; intro h; exfalso; omega
   ·simp only [revM_l0_3_step]; rw [if_neg (by omega)]
   ·rw [Sort.reverseLoop,if_neg hij]
def Out (r : RT) (d : List Int) (a b:Nat) (d' : List Int) : Prop := Sort.PermIn a b d.toArray d'.toArray ∧ d'.length = d.length ∧ Fine r d'
theorem rev_law {r : RT} {d : List Int} (hf : Fine r d) {a b : Nat} (hab : a < b) (hb : b ≤ d.length) :
  revM_pre (d,((a:Int),((b:Int),r))) ∧ Out r d a b (revM (d,((a:Int),((b:Int),r)))).2.1 := by
 have hl := hf.len
 have e : w64 ((b:Int) - 1) = ((b - 1:Nat):Int) := by rw [w64_id (by omega) (by omega)]; omega
 obtain ⟨h1,h2,h3,h4⟩ := rev_loop (d,((a:Int),((b:Int),r))) _ d a (b - 1) hf (by omega) (Nat.le_refl _)
 refine ⟨?_,?_⟩
 ·simp only [revM_pre,letP,e]
  exact ⟨h1,h3⟩
 ·simp only [revM,letV,e]
  refine ⟨?_,h3,h4⟩
  rw [h2]
  exact Sort.reverseRange_holds d.toArray a b (by omega) (by simpa using hb)

theorem ins_inner (x : List Int × Int × Int × RT) (a:Nat) (hx : x.2.1 = (a:Int)) : ∀ (j:Nat) (d : List Int) (i:Int),Fine x.2.2.2 d → j < d.length →
  TR (insM_l2_3_step x) (insM_l2_3_pre x) (d,(i,(j:Int))) fun r => r.1.toArray = Sort.insInner (ltM x.2.2.2) a j d.toArray ∧ r.2 = i ∧ r.1.length = d.length ∧ Fine x.2.2.2 r.1 := by
 intro j
 induction j with
 | zero =>
  intro d i hf hj
  refine TR.stop (r := (d,i)) ?_ ?_ ⟨?_,rfl,rfl,hf⟩
  ·simp only [insM_l2_3_pre,hx]; intro h; exfalso; omega
  ·simp only [insM_l2_3_step,hx]; rw [if_neg (by omega)]
  ·rw [Sort.insInner]
 | succ j ih =>
  intro d i hf hj
  have hl := hf.len
  have e : w64 (((j + 1:Nat):Int) - 1) = (j:Int) := by rw [w64_id (by omega) (by omega)]; omega
  by_cases hja : j + 1 > a
  ·by_cases hlt : ltM x.2.2.2 (d.getD (j + 1) 0) (d.getD j 0) = true
   ·refine TR.go (s' := (sw d (j + 1) j,(i,(j:Int)))) ?_ ?_ ((ih _ i (hf.sw hj (by omega)) (by rw [sw_len]; omega)).mono fun r hr => ⟨?_,hr.2.1,?_,hr.2.2.2⟩)
    ·simp only [insM_l2_3_pre,letP,List.length_set,Int.toNat_natCast,e]
     intro _
     refine ⟨?_,?_,?_,?_,?_,?_,hf.by_ hj (by omega),fun _ => ?_⟩ <;> omega
    ·simp only [insM_l2_3_step,letV,Int.toNat_natCast,e,hx]
     rw [if_pos (by omega),if_pos ((by_lt _ _ _).2 hlt)]; rfl
    ·rw [hr.1,sw_arr]
     conv => rhs; rw [Sort.insInner,getBang,getBang,if_pos (by rw [Bool.and_eq_true]; exact ⟨decide_eq_true hja,hlt⟩)]
    ·rw [hr.2.2.1,sw_len]
   ·refine TR.stop (r := (d,i)) ?_ ?_ ⟨?_,rfl,rfl,hf⟩
    ·simp only [insM_l2_3_pre,letP,List.length_set,Int.toNat_natCast,e]
     intro _
     refine ⟨?_,?_,?_,?_,?_,?_,hf.by_ hj (by omega),fun h => absurd ((by_lt _ _ _).1 h) hlt⟩ <;> omega
    ·simp only [insM_l2_3_step,letV,Int.toNat_natCast,e,hx]
     rw [if_pos (by omega),if_neg (fun h => hlt ((by_lt _ _ _).1 h))]
    ·rw [Sort.insInner,getBang,getBang,if_neg (by rw [Bool.and_eq_true]; exact fun h => hlt h.2)]
  ·refine TR.stop (r := (d,i)) ?_ ?_ ⟨?_,rfl,rfl,hf⟩
   ·simp only [insM_l2_3_pre,hx]; intro h; exfalso; omega
   ·simp only [insM_l2_3_step,hx]; rw [if_neg (by omega)]
   ·rw [Sort.insInner,if_neg (by simp [hja])]
theorem ins_outer (x : List Int × Int × Int × RT) (a b:Nat) (hx : x.2.1 = (a:Int)) (hx2 : x.2.2.1 = (b:Int)) : ∀ (n:Nat) (d : List Int) (i:Nat),Fine x.2.2.2 d → b ≤ d.length → b - i ≤ n →
  TR (insM_l0_3_step x) (insM_l0_3_pre x) (d,(i:Int)) fun r => r.toArray = Sort.insOuter (ltM x.2.2.2) a b i d.toArray ∧ r.length = d.length ∧ Fine x.2.2.2 r := by
 intro n
 induction n with
 | zero =>
  intro d i hf hj hn
  refine TR.stop (r := d) ?_ ?_ ⟨?_,rfl,hf⟩
  ·simp only [insM_l0_3_pre,hx2]; intro h; exfalso; omega
  ·simp only [insM_l0_3_step,hx2]; rw [if_neg (by omega)]
  ·rw [Sort.insOuter,if_neg (by omega)]
 | succ n ih =>
  intro d i hf hb hn
  have hl := hf.len
  by_cases hi : i < b
  ·obtain ⟨k1,k2,k3,k4,k5⟩ := ins_inner x a hx i d i hf (by omega)
   refine TR.go (s' := ((run (insM_l2_3_step x) (d,((i:Int),(i:Int)))).1,((i + 1:Nat):Int))) ?_ ?_ ((ih _ _ k5 (by omega) (by omega)).mono fun r hr => ⟨?_,by omega,hr.2.2⟩)
   ·simp only [insM_l0_3_pre]; exact fun _ => k1
   ·simp only [insM_l0_3_step,letV,hx2,k3]
    rw [if_pos (by omega),w64_id (by omega) (by omega)]; rfl
   ·rw [hr.1,k2]
    conv => rhs; rw [Sort.insOuter,if_pos hi]
  ·refine TR.stop (r := d) ?_ ?_ ⟨?_,rfl,hf⟩
   ·simp only [insM_l0_3_pre,hx2]; intro h; exfalso; omega
   ·simp only [insM_l0_3_step,hx2]; rw [if_neg (by omega)]
   ·rw [Sort.insOuter,if_neg hi]
theorem ins_law {r : RT} {d : List Int} (hf : Fine r d) {a b : Nat} (hab : a ≤ b) (hb : b ≤ d.length) :
  insM_pre (d,((a:Int),((b:Int),r))) ∧ Out r d a b (insM (d,((a:Int),((b:Int),r)))).2.1 ∧ Sort.SortedIn (ltM r) a b (insM (d,((a:Int),((b:Int),r)))).2.1.toArray := by
 have hl := hf.len
 have e : w64 ((a:Int) + 1) = ((a + 1:Nat):Int) := by rw [w64_id (by omega) (by omega)]; omega
 obtain ⟨h1,h2,h3,h4⟩ := ins_outer (d,((a:Int),((b:Int),r))) a b rfl rfl _ d (a + 1) hf hb (Nat.le_refl _)
 obtain ⟨k1,k2⟩ := Sort.insertionSort_holds (ltM_swo r) d.toArray a b hab (by simpa using hb)
 unfold Sort.insertionSort at k1 k2
 refine ⟨?_,?_,?_⟩
 ·simp only [insM_pre,letP,e]
  exact ⟨h1,h3⟩
 ·simp only [insM,letV,e]
  exact ⟨by rw [h2]; exact k1,h3,h4⟩
 ·simp only [insM,letV,e]
  rw [h2]; exact k2
end Go.Proofs.Ytaipcbdilkcdbaa
