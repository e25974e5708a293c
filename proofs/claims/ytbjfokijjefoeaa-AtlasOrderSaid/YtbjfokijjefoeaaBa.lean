/- Plain laws: shelves: places under a sky. -/
import Derived.Test.YtbjfokijjefoeaaAa
import Derived.Test.YtbjfokijjefoeaaTp
import Derived.Test.YtbjfokijjefoeaaQe
namespace Go.Proofs.Ytbjfokijjefoeaa
open Go Go.Ev Go.Proofs
set_option linter.unusedVariables false
set_option linter.unusedSimpArgs false
theorem for_loop {S R : Type} [Inhabited R] {step : S → S ⊕ R} {pre : S → Prop} (n:Nat) (J : Nat → S → Prop) (Post : R → Prop)
  (h1 : ∀ i s,i < n → J i s → pre s ∧ ((∃ s',step s = .inl s' ∧ J (i + 1) s') ∨ (∃ r,step s = .inr r ∧ Post r)))
  (h2 : ∀ s,J n s → pre s ∧ ∃ r,step s = .inr r ∧ Post r) {s : S} (h0 : J 0 s) : TR step pre s Post := by
 have key : ∀ k i,i + k = n → ∀ s,J i s → TR step pre s Post := by
  intro k
  induction k with
  | zero =>
   intro i e s hj
   have : i = n := by omega
   subst this
   obtain ⟨hp,r,e1,hq⟩ := h2 s hj
   exact TR.stop hp e1 hq
  | succ k ih =>
   intro i e s hj
   obtain ⟨hp,⟨s',e1,hj'⟩ | ⟨r,e1,hq⟩⟩ := h1 i s (by omega) hj
   ·exact TR.go hp e1 (ih (i + 1) (by omega) s' hj')
   ·exact TR.stop hp e1 hq
 exact key n 0 (by omega) s h0
theorem take_snoc {α : Type} {l : List α} {i : Nat} (h : i < l.length) (d : α) : l.take (i + 1) = l.take i ++ [l.getD i d] := by
 rw [List.take_add_one,List.getD_eq_getElem?_getD,List.getElem?_eq_getElem h]; rfl
theorem getD_in {α : Type} {l : List α} {i : Nat} (h : i < l.length) (d : α) : l.getD i d ∈ l := by
 rw [List.getD_eq_getElem?_getD,List.getElem?_eq_getElem h]; exact List.getElem_mem h
theorem cntI {i n : Nat} (h : i < n) (hn : n < 4611686018427387904) : w64 ((i:Int) + 1) = ((i + 1:Nat):Int) := cnt h hn
def In1 (v:Int) : Prop := 1 ≤ v ∧ v ≤ 256
theorem swithin_law (x : List Int) (hl : x.length < 4611686018427387904) : swithin_pre x ∧ (swithin x = true ↔ ∀ v ∈ x,In1 v) := by
 have h := all_loop x hl (fun v => decide (v < 1) || decide (v > 256)) (swithin_l0_step x) (swithin_l0_pre x) (fun i hi => by
   unfold swithin_l0_pre
   intro h
   simp only [Int.toNat_natCast]; omega) (fun i v hv => by
   have hlt := lt_of_get hv
   unfold swithin_l0_step
   rw [if_pos (by omega),Int.toNat_natCast,getD_of hv]
   by_cases h1 : v < 1
   ·simp [h1]
   ·by_cases h2 : v > 256
    ·simp [h1,h2]
    ·simp [h1,h2]) (by
   unfold swithin_l0_step
   rw [if_neg (by omega)])
 refine ⟨h.1,?_⟩
 have e : swithin x = !x.any (fun v => decide (v < 1) || decide (v > 256)) := h.2
 rw [e]
 simp only [Bool.not_eq_true',List.any_eq_false,Bool.or_eq_true,decide_eq_true_eq,In1]
 exact ⟨fun q v hv => by have := q v hv; omega,fun q v hv => by have := q v hv; omega⟩
def IsMax (l : List Int) (m:Int) : Prop := m ∈ l ∧ ∀ v ∈ l,v ≤ m
theorem IsMax.uniq {l : List Int} {m m' : Int} (h : IsMax l m) (h' : IsMax l m') : m = m' := by
 have := h.2 _ h'.1
 have := h'.2 _ h.1
 omega
theorem IsMax.snoc {l : List Int} {m : Int} (h : IsMax l m) (v:Int) : IsMax (l ++ [v]) (maxI m v) := by
 have g := maxI_le m v
 refine ⟨?_,fun u hu => ?_⟩
 ·rcases g.2.2 with e | e
  ·rw [e]; simp [h.1]
  ·rw [e]; simp
 ·rcases List.mem_append.1 hu with hu | hu
  ·have := h.2 u hu; omega
  ·simp at hu; omega
theorem maxM_law (x : List Int) (h0 : 0 < x.length) (hl : x.length < 4611686018427387904) : maxM_pre x ∧ IsMax x (maxM x) := by
 have hn : ¬ (((x.length:Nat):Int) < 1) := by omega
 have key : TR (maxM_l0_step x) (maxM_l0_pre x) (x.getD 0 0,1) (IsMax x) := by
  refine for_loop (x.length - 1) (fun i s => s.2 = ((i + 1:Nat):Int) ∧ IsMax (x.take (i + 1)) s.1) _ (fun i s hi hj => ?_) (fun s hj => ?_) ⟨rfl,?_⟩
  ·obtain ⟨m,z⟩ := s
   obtain ⟨e,hm⟩ := hj
   dsimp only at e hm; subst e
   refine ⟨?_,.inl ⟨(maxI m (x.getD (i + 1) 0),w64 (((i + 1:Nat):Int) + 1)),?_,?_,?_⟩⟩
   ·unfold maxM_l0_pre
    intro _
    simp only [Int.toNat_natCast]; omega
   ·unfold maxM_l0_step
    rw [if_pos (by dsimp only; omega)]
    simp only [Int.toNat_natCast]
   ·exact cntI (n := x.length) (by omega) hl
   ·rw [take_snoc (by omega) 0]; exact hm.snoc _
  ·obtain ⟨m,z⟩ := s
   obtain ⟨e,hm⟩ := hj
   dsimp only at e hm; subst e
   refine ⟨?_,m,?_,?_⟩
   ·unfold maxM_l0_pre
    intro h
    dsimp only at h; omega
   ·unfold maxM_l0_step
    rw [if_neg (by dsimp only; omega)]
   ·rw [List.take_of_length_le (by omega)] at hm; exact hm
  ·rw [take_snoc h0 0]
   simp [IsMax]
 refine ⟨?_,?_⟩
 ·unfold maxM_pre
  exact ⟨fun h => absurd h hn,fun _ => ⟨by omega,h0,h0,key.1⟩⟩
 ·unfold maxM letV
  rw [if_neg hn]; exact key.2
noncomputable def hi (s : List Int) (w x:Nat) : Int := maxM (List.take w (List.drop x s))
def Sky (s : List Int) : Prop := s.length ≤ 256 ∧ ∀ v ∈ s,0 ≤ v ∧ v ≤ 256
theorem hi_len {s : List Int} {w x : Nat} (h : x + w ≤ s.length) : (List.take w (List.drop x s)).length = w := by
 rw [List.length_take,List.length_drop]; omega
theorem hi_law {s : List Int} (hs : Sky s) {w x : Nat} (hw : 0 < w) (h : x + w ≤ s.length) : maxM_pre (List.take w (List.drop x s)) ∧ IsMax (List.take w (List.drop x s)) (hi s w x) :=
 maxM_law _ (by rw [hi_len h]; exact hw) (by rw [hi_len h]; have := hs.1; omega)
theorem hi_in {s : List Int} (hs : Sky s) {w x : Nat} (hw : 0 < w) (h : x + w ≤ s.length) : 0 ≤ hi s w x ∧ hi s w x ≤ 256 :=
 hs.2 _ (List.mem_of_mem_drop (List.mem_of_mem_take (hi_law hs hw h).2.1))
theorem hi_le {s : List Int} (hs : Sky s) {w x c : Nat} (hw : 0 < w) (h : x + w ≤ s.length) (hc : x ≤ c ∧ c < x + w) : s.getD c 0 ≤ hi s w x := by
 refine (hi_law hs hw h).2.2 _ ?_
 have : s.getD c 0 = (List.take w (List.drop x s)).getD (c - x) 0 := by
  rw [List.getD_eq_getElem?_getD,List.getD_eq_getElem?_getD,List.getElem?_take,if_pos (by omega),List.getElem?_drop,show x + (c - x) = c by omega]
 rw [this]
 exact getD_in (by rw [hi_len h]; omega) 0
def FO (s : List Int) (w:Nat) (h most:Int) (k:Nat) (a low:Int) (f : Bool) : Prop :=
 (f = true → 0 ≤ a ∧ a.toNat < k ∧ low = hi s w a.toNat ∧ low + h ≤ most ∧ ∀ x,x < k → hi s w x + h ≤ most → low ≤ hi s w x ∧ (x < a.toNat → low < hi s w x)) ∧
 (f = false → a = 0 ∧ low = 0 ∧ ∀ x,x < k → ¬ hi s w x + h ≤ most)
theorem sfind_law {s : List Int} (hs : Sky s) {w : Nat} (hw : 0 < w) (hw2 : w ≤ 256) {h : Int} (hh : 0 ≤ h ∧ h ≤ 256) (most:Int) :
  sfind_pre (s,((w:Int),(h,most))) ∧ FO s w h most (s.length + 1 - w) (sfind (s,((w:Int),(h,most)))).1 (sfind (s,((w:Int),(h,most)))).2.1 (sfind (s,((w:Int),(h,most)))).2.2 := by
 have hl := hs.1
 have hbound : maxI (w64 ((w64 (((s.length:Nat):Int) - (w:Int))) + (1:Int))) (0:Int) = ((s.length + 1 - w:Nat):Int) := by
  have e0 : w64 (((s.length:Nat):Int) - (w:Int)) = (s.length:Int) - (w:Int) := w64_id (by omega) (by omega)
  rw [e0,w64_id (by omega) (by omega)]
  have := maxI_le (((s.length:Nat):Int) - (w:Int) + 1) 0
  omega
 have key : TR (sfind_l0_step (s,((w:Int),(h,most)))) (sfind_l0_pre (s,((w:Int),(h,most)))) (0,(0,(false,0))) fun r => FO s w h most (s.length + 1 - w) r.1 r.2.1 r.2.2 := by
  refine for_loop (s.length + 1 - w) (fun k st => st.2.2.2 = (k:Int) ∧ FO s w h most k st.1 st.2.1 st.2.2.1) _ (fun k st hk hj => ?_) (fun st hj => ?_) ⟨rfl,fun q => (by cases q),fun _ => ⟨rfl,rfl,fun x hx => absurd hx (by omega)⟩⟩
  ·obtain ⟨a,low,f,z⟩ := st
   obtain ⟨e,hF⟩ := hj
   dsimp only at e hF; subst e
   have hkw : k + w ≤ s.length := by omega
   have e1 : w64 ((k:Int) + (w:Int)) = ((k + w:Nat):Int) := by rw [w64_id (by omega) (by omega)]; omega
   have e2 : List.take (Int.toNat (w64 ((k:Int) + (w:Int))) - Int.toNat (k:Int)) (List.drop (Int.toNat (k:Int)) s) = List.take w (List.drop k s) := by
    rw [e1,Int.toNat_natCast,Int.toNat_natCast,Nat.add_sub_cancel_left]
   obtain ⟨hp,hm⟩ := hi_law hs hw hkw
   have hin := hi_in hs hw hkw
   refine ⟨?_,.inl ?_⟩
   ·unfold sfind_l0_pre
    intro _
    dsimp only
    rw [e2,e1]
    simp only [Int.toNat_natCast]
    exact ⟨by omega,by omega,by omega,hp⟩
   ·have e3 : w64 (hi s w k + h) = hi s w k + h := w64_id (by omega) (by omega)
    have e4 : w64 ((k:Int) + 1) = ((k + 1:Nat):Int) := cntI (n := 300) (by omega) (by omega)
    have hst : sfind_l0_step (s,((w:Int),(h,most))) (a,(low,(f,(k:Int)))) = .inl (if hi s w k + h ≤ most ∧ (f = false ∨ hi s w k < low) then ((k:Int),(hi s w k,(true,((k + 1:Nat):Int)))) else (a,(low,(f,((k + 1:Nat):Int))))) := by
     unfold sfind_l0_step letV
     dsimp only
     rw [hbound,if_pos (by omega),e2,show maxM (List.take w (List.drop k s)) = hi s w k from rfl,e3,e4]
     by_cases c1 : hi s w k + h ≤ most
     ·rw [if_pos c1]
      cases f with
      | false => simp [c1]
      | true =>
       by_cases c2 : hi s w k < low
       ·simp [c1,c2]
       ·simp [c1,c2]
     ·simp [c1]
    refine ⟨_,hst,?_⟩
    by_cases c : hi s w k + h ≤ most ∧ (f = false ∨ hi s w k < low)
    ·rw [if_pos c]
     refine ⟨rfl,fun _ => ⟨by dsimp only; omega,by dsimp only; omega,by simp,c.1,fun x hx hm' => ?_⟩,fun q => (by cases q)⟩
     simp only [Int.toNat_natCast]
     rcases Nat.lt_or_ge x k with hxk | hxk
     ·rcases c.2 with hf | hf
      ·exact absurd hm' ((hF.2 hf).2.2 x hxk)
      ·cases f with
       | false => exact absurd hm' ((hF.2 rfl).2.2 x hxk)
       | true => have := ((hF.1 rfl).2.2.2.2 x hxk hm').1; exact ⟨by omega,fun _ => by omega⟩
     ·have : x = k := by omega
      subst this
      exact ⟨Int.le_refl _,fun q => absurd q (Nat.lt_irrefl _)⟩
    ·rw [if_neg c]
     refine ⟨rfl,fun q => ?_,fun q => ?_⟩
     ·obtain ⟨q1,q2,q3,q4,q5⟩ := hF.1 q
      refine ⟨q1,by dsimp only at q2 ⊢; omega,q3,q4,fun x hx hm' => ?_⟩
      rcases Nat.lt_or_ge x k with hxk | hxk
      ·exact q5 x hxk hm'
      ·have : x = k := by omega
       subst this
       have c2 : ¬ hi s w x < low := fun q => c ⟨hm',.inr q⟩
       exact ⟨by dsimp only; omega,fun q => absurd q (by dsimp only at q2 ⊢; omega)⟩
     ·obtain ⟨q1,q2,q3⟩ := hF.2 q
      refine ⟨q1,q2,fun x hx hm' => ?_⟩
      rcases Nat.lt_or_ge x k with hxk | hxk
      ·exact q3 x hxk hm'
      ·have : x = k := by omega
       subst this
       exact c ⟨hm',.inl q⟩
  ·obtain ⟨a,low,f,z⟩ := st
   obtain ⟨e,hF⟩ := hj
   dsimp only at e hF; subst e
   refine ⟨?_,(a,(low,f)),?_,hF⟩
   ·unfold sfind_l0_pre
    intro q
    dsimp only at q
    rw [hbound] at q
    omega
   ·unfold sfind_l0_step
    dsimp only
    rw [hbound,if_neg (by omega)]
 exact ⟨key.1,by unfold sfind letV; exact key.2⟩
def rise (s : List Int) (x w:Nat) (to:Int) : List Int := s.take x ++ List.replicate w to ++ s.drop (x + w)
theorem rise_len (s : List Int) (x w:Nat) (to:Int) (h : x + w ≤ s.length) : (rise s x w to).length = s.length := by
 simp only [rise,List.length_append,List.length_take,List.length_replicate,List.length_drop]; omega
theorem rise_get (s : List Int) (x w:Nat) (to:Int) (h : x + w ≤ s.length) (c:Nat) : (rise s x w to).getD c 0 = if x ≤ c ∧ c < x + w then to else s.getD c 0 := by
 simp only [rise,List.getD_eq_getElem?_getD,List.getElem?_append,List.length_append,List.length_take,List.length_replicate,List.getElem?_replicate,List.getElem?_take,List.getElem?_drop]
 have e : min x s.length = x := by omega
 rw [e]
 by_cases h1 : c < x
 ·rw [if_pos (by omega),if_pos h1,if_pos h1,if_neg (by omega)]
 ·by_cases h2 : c < x + w
  ·rw [if_pos h2,if_neg h1,if_pos (by omega),if_pos (by omega)]; rfl
  ·rw [if_neg h2,if_neg (by omega),show x + w + (c - (x + w)) = c by omega]
theorem rise_mem {s : List Int} {x w : Nat} {to v : Int} (h : v ∈ rise s x w to) : v ∈ s ∨ v = to := by
 simp only [rise,List.mem_append] at h
 rcases h with (h | h) | h
 ·exact .inl (List.mem_of_mem_take h)
 ·exact .inr (List.eq_of_mem_replicate h)
 ·exact .inl (List.mem_of_mem_drop h)
theorem rise_set (s : List Int) (x i:Nat) (to:Int) (h : x + i < s.length) : (rise s x i to).set (x + i) to = rise s x (i + 1) to := by
 apply List.ext_getElem?
 intro c
 simp only [rise,List.getElem?_set,List.getElem?_append,List.length_append,List.length_take,List.length_replicate,List.getElem?_replicate,List.getElem?_take,List.getElem?_drop,List.length_drop]
 have e : min x s.length = x := by omega
 rw [e]
 by_cases h0 : x + i = c
 ·subst h0
  simp
  rw [if_pos (by omega),if_neg (by omega)]
 ·rw [if_neg h0]
  by_cases h1 : c < x
  ·simp [h1,show c < x + i by omega,show c < x + (i + 1) by omega]
  ·by_cases h2 : c < x + i
   ·simp [h1,h2,show c < x + (i + 1) by omega,show c - x < i by omega,show c - x < i + 1 by omega]
   ·simp [h2,show ¬ c < x + (i + 1) by omega,show x + i + (c - (x + i)) = c by omega,show x + (i + 1) + (c - (x + (i + 1))) = c by omega]
theorem srise_law {s : List Int} (hs : s.length ≤ 256) {x w : Nat} (h : x + w ≤ s.length) (to:Int) : srise_pre (s,((x:Int),((w:Int),to))) ∧ (srise (s,((x:Int),((w:Int),to)))).2.1 = rise s x w to := by
 have key : TR (srise_l0_2_step (s,((x:Int),((w:Int),to)))) (srise_l0_2_pre (s,((x:Int),((w:Int),to)))) (s,0) fun r => r = rise s x w to := by
  refine for_loop w (fun i st => st.2 = (i:Int) ∧ st.1 = rise s x i to) _ (fun i st hi' hj => ?_) (fun st hj => ?_) ⟨rfl,by simp [rise]⟩
  ·obtain ⟨l,z⟩ := st
   obtain ⟨e,e'⟩ := hj
   dsimp only at e e'; subst e; subst e'
   have e1 : w64 ((x:Int) + (i:Int)) = ((x + i:Nat):Int) := by rw [w64_id (by omega) (by omega)]; omega
   have hlen := rise_len s x i to (by omega)
   refine ⟨?_,.inl ⟨(rise s x (i + 1) to,((i + 1:Nat):Int)),?_,rfl,rfl⟩⟩
   ·unfold srise_l0_2_pre
    intro _
    dsimp only
    rw [e1,Int.toNat_natCast,hlen]
    omega
   ·unfold srise_l0_2_step letV
    dsimp only
    rw [if_pos (by omega),e1,Int.toNat_natCast,rise_set s x i to (by omega),cntI (n := 300) (by omega) (by omega)]
  ·obtain ⟨l,z⟩ := st
   obtain ⟨e,e'⟩ := hj
   dsimp only at e e'; subst e; subst e'
   refine ⟨?_,_,?_,rfl⟩
   ·unfold srise_l0_2_pre
    intro q
    dsimp only at q; omega
   ·unfold srise_l0_2_step
    dsimp only
    rw [if_neg (by omega)]
 refine ⟨⟨key.1,?_⟩,?_⟩
 ·show letP _ _
  unfold letP
  dsimp only
  rw [key.2]; exact rise_len s x w to h
 ·unfold srise letV
  exact key.2
end Go.Proofs.Ytbjfokijjefoeaa
