/- What is done to what is named. -/
import Derived.Test.YtleemdeodmdnkaaEvD3
noncomputable section
set_option linter.unusedSectionVars false
set_option linter.unusedVariables false
set_option linter.unusedSimpArgs false
namespace Go.Ev
open Go.RowKit

theorem St.less {bor : Bor} {W w : World} {ρ : Env} {Kn Kn' : Nat → Prop} {Γ Γ' : HP} (h : St bor W ρ Kn Γ w) (hs : ∀ m o,Γ' m = some o → Γ m = some o ∧ Kn' m ∧ o.ok Kn') : St bor W ρ Kn' Γ' w := by
 have hsome : ∀ n,(Γ' n).isSome = true → (Γ n).isSome = true := fun n hn => by
  obtain ⟨o,ho⟩ := Option.isSome_iff_exists.1 hn
  rw [(hs n o ho).1]; rfl
 refine ⟨h.fr,fun n o ho => ?_,fun n o ho => (hs n o ho).2,fun n m b hn hm => h.injH n m b (hsome n hn) (hsome m hm),fun n b hn => h.ownH n b (hsome n hn),fun b ⟨m,S,h1,h2⟩ => ?_,fun n o ho => h.noe n o (hs n o ho).1⟩
 rotate_right
 ·obtain ⟨h3,h4⟩ := h.hid b ⟨m,S,(hs m _ h1).1,h2⟩
  exact ⟨h3,fun ⟨n,h5,h6⟩ => h4 ⟨n,hsome n h5,h6⟩⟩
 have h1 := (hs n o ho).1
 refine objAt_keep (Kn := Kn) (h.at_ n o h1) (fun _ _ => rfl) (h.kn n o h1).1 (h.kn n o h1).2 (fun b hb => ⟨⟨hb.1,?_⟩,rfl⟩) (fun _ _ h => h) fun _ _ => rfl
 rintro (⟨m,h2,h3⟩ | ⟨m,S,h2,h3⟩)
 ·exact hb.2 (.inl ⟨m,hsome m h2,h3⟩)
 ·exact hb.2 (.inr ⟨m,S,(hs m _ h2).1,h3⟩)
theorem live_liveAt (h : List AObj) (m:Nat) : liveAt h m = live h[m]? := by
 unfold liveAt live; split <;> simp_all
theorem liveAt_lt {h : List AObj} {n : Nat} {o : AObj} (ho : liveAt h n = some o) : n < h.length := by
 rcases Nat.lt_or_ge n h.length with hn | hn
 ·exact hn
 ·simp [liveAt,List.getElem?_eq_none hn] at ho
theorem isPin_spec {o : Option AObj} {ρ : Env} {n : Nat} {K : Prop} (h : isPin o ρ n K) : o = some (.pin ρ n) ∧ K := by
 unfold isPin at h
 split at h
 ·obtain ⟨rfl,rfl,h⟩ := h; exact ⟨rfl,h⟩
 ·exact h.elim
theorem heapOf_length (hp : HP) : ∀ n,(heapOf hp n).length = n
 | 0 => rfl
 | n + 1 => by simp [heapOf,heapOf_length hp n]
theorem heapOf_get (hp : HP) : ∀ n m,m < n → (heapOf hp n)[m]? = some (match hp m with | some o => o | none => .gone)
 | 0,_,h => by omega
 | n + 1,m,h => by
  simp only [heapOf]
  rcases Nat.lt_or_ge m n with h1 | h1
  ·rw [List.getElem?_append_left (by rw [heapOf_length]; exact h1),heapOf_get hp n m h1]
  ·have : m = n := by omega
   subst this
   rw [List.getElem?_append_right (by rw [heapOf_length]; exact Nat.le_refl _),heapOf_length]
   simp only [Nat.sub_self,List.getElem?_cons_zero]
   cases hp m <;> rfl
theorem live_heapOf {hp : HP} {n m : Nat} (hm : m < n) (hg : hp m ≠ some .gone) : live ((heapOf hp n)[m]?) = hp m := by
 rw [heapOf_get hp n m hm]
 cases h : hp m with
 | none => rfl
 | some o => cases o <;> first | rfl | exact absurd h hg
theorem hpWr_mem {hp : HP} {h : List AObj} : ∀ {n : Nat} {p : Nat × AObj},p ∈ hpWr hp h n → hp p.1 ≠ none
 | 0,p,hm => by simp [hpWr] at hm
 | n + 1,p,hm => by
  simp only [hpWr] at hm
  split at hm
  ·rename_i o ho
   rcases List.mem_append.1 hm with h1 | h1
   ·exact hpWr_mem h1
   ·simp only [List.mem_singleton] at h1; subst h1; simp [ho]
  ·exact hpWr_mem hm
theorem lastW_append (a b : List (Nat × AObj)) (m:Nat) : lastW (a ++ b) m = match lastW b m with | some o => some o | none => lastW a m := by
 induction a with
 | nil => simp [lastW]; cases lastW b m <;> rfl
 | cons p r ih =>
  simp only [List.cons_append,lastW,ih]
  cases lastW b m with
  | some o => rfl
  | none => rfl
theorem lastW_hpWr {hp : HP} {h : List AObj} {m : Nat} : ∀ n,lastW (hpWr hp h n) m = if m < n ∧ (hp m).isSome = true then some (match h[m]? with | some o => o | none => .gone) else none
 | 0 => by simp [hpWr,lastW]
 | n + 1 => by
  simp only [hpWr]
  cases hn : hp n with
  | none =>
   dsimp only
   rw [lastW_hpWr n]
   by_cases e : m = n
   ·subst e; simp [hn]
   ·have : (m < n + 1) = (m < n) := by apply propext; omega
    simp [this]
  | some o =>
   dsimp only
   rw [lastW_append,lastW_hpWr n]
   simp only [lastW]
   by_cases e : n = m
   ·subst e
    simp [hn]
    cases h[n]? <;> rfl
   ·have : (m < n + 1) = (m < n) := by apply propext; omega
    rw [if_neg e]; simp [this]
theorem appH_diffV {hp : HP} {nm : Nat} {h : List AObj} {v : AV} (hl : nm < h.length) : (∀ m o,appH (diffV hp nm h v) nm hp m = some o → hp m ≠ some .gone → (∀ m,(hp m).isSome = true → m < nm) → liveAt h m = some o) ∧ knR (· < nm) nm (diffV hp nm h v) = (· < h.length) := by
 constructor
 ·intro m o hm hg hk
  simp only [appH,diffV,List.length_drop,List.length_set] at hm
  rw [live_liveAt]
  split at hm
  ·rename_i hc
   rw [List.getElem?_drop,show nm + (m - nm) = m by omega,List.getElem?_set] at hm
   split at hm
   ·rename_i e
    simp [live] at hm
   ·exact hm
  ·rw [lastW_hpWr] at hm
   by_cases hc : m < nm ∧ (hp m).isSome = true
   ·rw [if_pos hc] at hm
    have : m < h.length := by omega
    rw [List.getElem?_eq_getElem this] at hm ⊢
    exact hm
   ·rw [if_neg hc] at hm
    have : (hp m).isSome = true := by simp [hm]
    exact absurd ⟨hk m this,this⟩ hc
 ·funext m
  simp only [knR,diffV,List.length_drop,List.length_set]
  apply propext; omega
theorem St.pinned {bor : Bor} {W w : World} {ρ : Env} {hp : HP} {nm : Nat} (hst : St bor W ρ (· < nm) hp w) :
  ∃ ρ3 : Env,(∀ m,m < nm → ρ3 m = ρ m) ∧ St bor W ρ3 (· < nm + 1) (liveAt (heapOf hp nm ++ [.pin ρ nm])) w := by
 have hgone : ∀ m,hp m ≠ some .gone := fun m e => hst.at_ m _ e
 have h3l : (heapOf hp nm ++ [AObj.pin ρ nm]).length = nm + 1 := by simp [heapOf_length]
 have hold3 : ∀ m,m < nm → updE ρ nm {} m = ρ m := fun m hm => by simp only [updE]; rw [if_neg (by omega)]
 have hl3 : ∀ m o,liveAt (heapOf hp nm ++ [AObj.pin ρ nm]) m = some o → (m < nm ∧ hp m = some o) ∨ (m = nm ∧ o = .pin ρ nm) := by
  intro m o ho
  have hlt := liveAt_lt ho
  rw [live_liveAt] at ho
  rcases Nat.lt_or_ge m nm with h1 | h1
  ·rw [List.getElem?_append_left (by rw [heapOf_length]; exact h1),live_heapOf h1 (hgone m)] at ho
   exact .inl ⟨h1,ho⟩
  ·have : m = nm := by omega
   subst this
   rw [List.getElem?_append_right (by rw [heapOf_length]; exact Nat.le_refl _),heapOf_length] at ho
   simp only [Nat.sub_self,List.getElem?_cons_zero,live,Option.some.injEq] at ho
   exact .inr ⟨rfl,ho.symm⟩
 have hfz3 : ∀ b,fzB ρ hp w b → fzB (updE ρ nm {}) (liveAt (heapOf hp nm ++ [AObj.pin ρ nm])) w b ∧ w.heap[b]? = w.heap[b]? := fun b hb => by
  refine ⟨⟨hb.1,?_⟩,rfl⟩
  rintro (⟨m,h1,h2⟩ | ⟨m,S,h1,h2⟩)
  ·obtain ⟨o,ho⟩ := Option.isSome_iff_exists.1 h1
   rcases hl3 m o ho with ⟨h3,h4⟩ | ⟨rfl,rfl⟩
   ·rw [hold3 m h3] at h2
    exact hb.2 (.inl ⟨m,by simp [h4],h2⟩)
   ·simp [updE] at h2
  ·rcases hl3 m _ h1 with ⟨h3,h4⟩ | ⟨rfl,e⟩
   ·exact hb.2 (.inr ⟨m,S,h4,h2⟩)
   ·cases e
 refine ⟨updE ρ nm {},hold3,hst.fr,fun m o ho => ?_,fun m o ho => ?_,fun m m' b hm hm' hb1 hb2 => ?_,fun m b hm hb => ?_,fun b ⟨m,S,h1,h2⟩ => ?_,fun m o ho => ?_⟩
 rotate_right
 ·rcases hl3 m o ho with ⟨h1,h2⟩ | ⟨rfl,rfl⟩
  ·rw [hold3 m h1]; exact hst.noe m o h2
  ·exact .inr (by simp [updE])
 rotate_right
 ·rcases hl3 m _ h1 with ⟨_,h4⟩ | ⟨_,e⟩
  ·obtain ⟨h5,h6⟩ := hst.hid b ⟨m,S,h4,h2⟩
   refine ⟨h5,fun ⟨n,h7,h8⟩ => ?_⟩
   obtain ⟨o,ho⟩ := Option.isSome_iff_exists.1 h7
   rcases hl3 n o ho with ⟨h9,h10⟩ | ⟨rfl,rfl⟩
   ·rw [hold3 n h9] at h8
    exact h6 ⟨n,by simp [h10],h8⟩
   ·simp [updE] at h8
  ·cases e
 ·rcases hl3 m o ho with ⟨h1,h2⟩ | ⟨rfl,rfl⟩
  ·have hk := hst.kn m o h2
   exact objAt_keep (Kn := (· < nm)) (hst.at_ m o h2) hold3 h1 hk.2 hfz3 (fun _ _ h => h) fun _ _ => rfl
  ·exact ⟨by simp [updE],hold3⟩
 ·rcases hl3 m o ho with ⟨h1,h2⟩ | ⟨rfl,rfl⟩
  ·exact ⟨by omega,AObj.ok_mono (fun i hi => by omega) o (hst.kn m o h2).2⟩
  ·exact ⟨by omega,fun i hi => by omega⟩
 ·obtain ⟨o,ho⟩ := Option.isSome_iff_exists.1 hm
  obtain ⟨o',ho'⟩ := Option.isSome_iff_exists.1 hm'
  rcases hl3 m o ho with ⟨h1,h2⟩ | ⟨rfl,rfl⟩
  ·rcases hl3 m' o' ho' with ⟨h3,h4⟩ | ⟨rfl,rfl⟩
   ·rw [hold3 m h1] at hb1; rw [hold3 m' h3] at hb2
    exact hst.injH m m' b (by simp [h2]) (by simp [h4]) hb1 hb2
   ·simp [updE] at hb2
  ·simp [updE] at hb1
 ·obtain ⟨o,ho⟩ := Option.isSome_iff_exists.1 hm
  rcases hl3 m o ho with ⟨h1,h2⟩ | ⟨rfl,rfl⟩
  ·rw [hold3 m h1] at hb
   exact hst.ownH m b (by simp [h2]) hb
  ·simp [updE] at hb
theorem St.diff {bor : Bor} {W w : World} {ρ' : Env} {hp : HP} {nm : Nat} {h : List AObj} {v : AV} (hst : St bor W ρ' (· < h.length) (liveAt h) w) (hl : nm < h.length) (hg : ∀ m,hp m ≠ some .gone) (hk : ∀ m,(hp m).isSome = true → m < nm) :
  St bor W ρ' (knR (· < nm) nm (diffV hp nm h v)) (appH (diffV hp nm h v) nm hp) w := by
 obtain ⟨e1,e2⟩ := appH_diffV (hp := hp) (v := v) hl
 rw [e2]
 refine hst.less fun i o ho => ?_
 have := e1 i o ho (hg i) hk
 exact ⟨this,hst.kn i o this⟩
theorem St.dropN {bor : Bor} {W w : World} {ρ : Env} {h : List AObj} (hst : St bor W ρ (· < h.length) (liveAt h) w) (n:Nat) : St bor W ρ (· < (h.set n .gone).length) (liveAt (h.set n .gone)) w := by
 rw [List.length_set]
 refine hst.less fun i o ho => ?_
 rw [live_liveAt,List.getElem?_set] at ho
 have : liveAt h i = some o := by
  split at ho
  ·split at ho <;> simp [live] at ho
  ·rw [live_liveAt]; exact ho
 exact ⟨this,hst.kn i o this⟩
end Go.Ev
