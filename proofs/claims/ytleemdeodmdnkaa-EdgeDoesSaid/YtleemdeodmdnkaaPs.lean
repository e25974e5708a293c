/- Plain laws: edges and neighbours. -/
import Derived.Test.YtleemdeodmdnkaaPu
noncomputable section
set_option linter.unusedSectionVars false
set_option linter.unusedVariables false
set_option linter.unusedSimpArgs false
namespace Go.Proofs.Ytleemdeodmdnkaa
open Go Go.Ev Go.Proofs
abbrev Mp : Type := List (P2 × List Int)
def lk (l : Mp) (p : P2) : List Int := lookD (k := yy2) l p []
theorem eq2 (x y : P2) : eqT yy2 x y = true ↔ x = y := eqT_iff (t := yy2) rfl x y
theorem lk_put (x : P2) (z : List Int) (q : P2) : ∀ (l : Mp),lk (putM (k := yy2) l x z) q = if q = x then z else lk l q
 | [] => by
  unfold lk lookD
  simp only [putM,lookM]
  cases h : eqT yy2 q x with
  | true => rw [if_pos ((eq2 _ _).1 h)]; rfl
  | false => rw [if_neg (fun e => by rw [(eq2 _ _).2 e] at h; cases h)]
 | p :: r => by
  have ih := lk_put x z q r
  unfold lk lookD at ih ⊢
  simp only [putM]
  cases h : eqT yy2 x p.1 with
  | true =>
   have hx := (eq2 _ _).1 h
   simp only [lookM]
   cases h2 : eqT yy2 q x with
   | true => rw [if_pos ((eq2 _ _).1 h2)]; rfl
   | false =>
    rw [if_neg (fun e => by rw [(eq2 _ _).2 e] at h2; cases h2),← hx,h2]
  | false =>
   simp only [lookM]
   cases h2 : eqT yy2 q p.1 with
   | true =>
    have hq := (eq2 _ _).1 h2
    rw [if_neg (fun e => by rw [← e,h2] at h; cases h)]
   | false => exact ih
def Pr (a b:Int) : List P2 := if a ≠ b then [(minI a b,maxI a b)] else []
def Prs (t : T3) : List P2 := Pr t.1.1 t.2.1.1 ++ Pr t.2.1.1 t.2.2.1 ++ Pr t.2.2.1 t.1.1
theorem pr_len (a b:Int) : (Pr a b).length ≤ 1 := by unfold Pr; split <;> simp
theorem prs_len (t : T3) : (Prs t).length ≤ 3 := by
 have h1 := pr_len t.1.1 t.2.1.1
 have h2 := pr_len t.2.1.1 t.2.2.1
 have h3 := pr_len t.2.2.1 t.1.1
 simp only [Prs,List.length_append]; omega
theorem pr_step {R : Type} (a b:Int) (s : List P2) (k:Int) : (if ((a != b) = true) then (Sum.inl (s ++ [(minI a b,maxI a b)],k) : (List P2 × Int) ⊕ R) else Sum.inl (s,k)) = Sum.inl (s ++ Pr a b,k) := by
 unfold Pr
 by_cases h : a = b
 ·subst h; simp
 ·rw [if_pos (by simp [h]),if_pos h]
theorem epairs_step (t : T3) (s : List P2) : epairs_l0_step t (s,0) = .inl (s ++ Pr t.1.1 t.2.1.1,1) ∧ epairs_l0_step t (s,1) = .inl (s ++ Pr t.2.1.1 t.2.2.1,2) ∧ epairs_l0_step t (s,2) = .inl (s ++ Pr t.2.2.1 t.1.1,3) ∧ epairs_l0_step t (s,3) = .inr s := by
 have e0 : w64 (0 + 1) = 1 := by decide
 have e1 : w64 (1 + 1) = 2 := by decide
 have e2 : w64 (2 + 1) = 3 := by decide
 refine ⟨?_,?_,?_,?_⟩
 ·unfold epairs_l0_step
  dsimp only
  rw [if_pos (by decide),e0]
  exact pr_step _ _ _ _
 ·unfold epairs_l0_step
  dsimp only
  rw [if_pos (by decide),e1]
  exact pr_step _ _ _ _
 ·unfold epairs_l0_step
  dsimp only
  rw [if_pos (by decide),e2]
  exact pr_step _ _ _ _
 ·unfold epairs_l0_step
  dsimp only
  rw [if_neg (by decide)]
theorem epairs_pre' (t : T3) (s : List P2) (i:Int) (h : i = 0 ∨ i = 1 ∨ i = 2 ∨ i = 3) (hs : s.length ≤ 100) : epairs_l0_pre t (s,i) := by
 have e0 : w64 (0 + 1) = 1 := by decide
 have e1 : w64 (1 + 1) = 2 := by decide
 have e2 : w64 (2 + 1) = 3 := by decide
 unfold epairs_l0_pre
 dsimp only
 intro hi
 rcases h with rfl | rfl | rfl | rfl
 ·rw [e0]; exact ⟨by decide,by decide,by decide,fun _ => by omega⟩
 ·rw [e1]; exact ⟨by decide,by decide,by decide,fun _ => by omega⟩
 ·rw [e2]; exact ⟨by decide,by decide,by decide,fun _ => by omega⟩
 ·exact absurd hi (by decide)
theorem epairs_law (t : T3) : epairs_pre t ∧ epairs t = Prs t := by
 obtain ⟨_,_,_,_⟩ := epairs_step t []
 have h1 := pr_len t.1.1 t.2.1.1
 have h2 := pr_len t.2.1.1 t.2.2.1
 have h3 := pr_len t.2.2.1 t.1.1
 have key : TR (epairs_l0_step t) (epairs_l0_pre t) ([],0) (fun r => r = Prs t) := by
  refine TR.go (epairs_pre' t _ _ (.inl rfl) (by simp)) (epairs_step t []).1 ?_
  refine TR.go (epairs_pre' t _ _ (.inr (.inl rfl)) (by simp; omega)) (epairs_step t _).2.1 ?_
  refine TR.go (epairs_pre' t _ _ (.inr (.inr (.inl rfl))) (by simp; omega)) (epairs_step t _).2.2.1 ?_
  refine TR.stop (epairs_pre' t _ _ (.inr (.inr (.inr rfl))) (by simp; omega)) (epairs_step t _).2.2.2 ?_
  rfl
 exact ⟨key.1,key.2⟩
def MapB (l : Mp) (B:Nat) : Prop := ∀ p,(lk l p).length ≤ B
def TabOf (m : Msh) (l : Mp) (i j:Nat) : Prop := ∀ p k,k ∈ lk l p ↔ (∃ a : Nat,a < i ∧ k = a ∧ p ∈ Prs (Trg m a)) ∨ (k = (i:Int) ∧ p ∈ (Prs (Trg m i)).take j)
theorem last_mem (y : List Int) (h : y ≠ []) (i:Int) (e : y.getD (w64 ((y.length:Int) - 1)).toNat 0 = i) (hl : y.length < 4611686018427387904) : i ∈ y := by
 have hp : 0 < y.length := List.length_pos_iff.2 h
 rw [w64_id (by omega) (by omega)] at e
 rw [← e]
 exact getD_in (by omega) _
theorem put_mem (x : P2) (z : List Int) : ∀ {l : Mp} {e : P2 × List Int},e ∈ putM (k := yy2) l x z → e = (x,z) ∨ e ∈ l
 | [],e,h => by
  simp only [putM,List.mem_singleton] at h
  exact .inl h
 | p :: r,e,h => by
  simp only [putM] at h
  cases h2 : eqT yy2 x p.1 with
  | true =>
   rw [h2] at h
   rcases List.mem_cons.1 h with h | h
   ·exact .inl h
   ·exact .inr (List.mem_cons_of_mem _ h)
  | false =>
   rw [h2] at h
   rcases List.mem_cons.1 h with h | h
   ·exact .inr (by rw [h]; exact List.mem_cons_self)
   ·rcases put_mem x z h with h | h
    ·exact .inl h
    ·exact .inr (List.mem_cons_of_mem _ h)
theorem put_key (x : P2) (z : List Int) : ∀ {l : Mp} {q : P2},q ∈ (putM (k := yy2) l x z).map (·.1) → q = x ∨ q ∈ l.map (·.1) := fun {l q} h => by
 obtain ⟨e,he,rfl⟩ := List.mem_map.1 h
 rcases put_mem x z he with h | h
 ·exact .inl (by rw [h])
 ·exact .inr (List.mem_map.2 ⟨e,h,rfl⟩)
theorem put_nodup (x : P2) (z : List Int) : ∀ {l : Mp},(l.map (·.1)).Nodup → ((putM (k := yy2) l x z).map (·.1)).Nodup
 | [],_ => by simp [putM]
 | p :: r,h => by
  rw [List.map_cons,List.nodup_cons] at h
  simp only [putM]
  cases h2 : eqT yy2 x p.1 with
  | true =>
   show (x :: r.map (·.1)).Nodup
   rw [(eq2 _ _).1 h2]
   exact List.nodup_cons.2 h
  | false =>
   show (p.1 :: (putM (k := yy2) r x z).map (·.1)).Nodup
   refine List.nodup_cons.2 ⟨fun hm => ?_,put_nodup x z h.2⟩
   rcases put_key x z hm with e | e
   ·rw [(eq2 _ _).2 e.symm] at h2; cases h2
   ·exact h.1 e
theorem lk_mem {p : P2} : ∀ {l : Mp},lk l p ≠ [] → (p,lk l p) ∈ l
 | [],h => absurd rfl h
 | e :: r,h => by
  unfold lk lookD at h ⊢
  simp only [lookM] at h ⊢
  cases h2 : eqT yy2 p e.1 with
  | true =>
   have := (eq2 _ _).1 h2
   subst this
   exact List.mem_cons_self
  | false =>
   rw [h2] at h
   exact List.mem_cons_of_mem _ (lk_mem (l := r) h)
theorem mem_lk : ∀ {l : Mp} {e : P2 × List Int},(l.map (·.1)).Nodup → e ∈ l → lk l e.1 = e.2
 | [],e,_,h => by cases h
 | a :: r,e,hn,h => by
  rw [List.map_cons,List.nodup_cons] at hn
  unfold lk lookD
  simp only [lookM]
  rcases List.mem_cons.1 h with h | h
  ·subst h
   rw [(eq2 _ _).2 rfl]; rfl
  ·cases h2 : eqT yy2 e.1 a.1 with
   | true => exact absurd (List.mem_map.2 ⟨e,h,(eq2 _ _).1 h2⟩) hn.1
   | false => exact mem_lk hn.2 h
def Ord (M : Mp) (i:Int) : Prop := (M.map (·.1)).Nodup ∧ ∀ e ∈ M,e.2 ≠ [] ∧ e.2.Pairwise (· < ·) ∧ ∀ k ∈ e.2,k ≤ i
theorem Ord.le {M : Mp} {i j : Int} (h : Ord M i) (hij : i ≤ j) : Ord M j := ⟨h.1,fun e he => ⟨(h.2 e he).1,(h.2 e he).2.1,fun k hk => Int.le_trans ((h.2 e he).2.2 k hk) hij⟩⟩
theorem Ord.put {M : Mp} {i : Int} (h : Ord M i) {p : P2} (hi : i ∉ lk M p) : Ord (putM (k := yy2) M p (lk M p ++ [i])) i := by
 refine ⟨put_nodup _ _ h.1,fun e he => ?_⟩
 rcases put_mem _ _ he with e1 | e1
 ·subst e1
  refine ⟨by simp,?_,?_⟩
  ·by_cases h0 : lk M p = []
   ·simp only [h0]; simp
   ·obtain ⟨_,h2,h3⟩ := h.2 _ (lk_mem h0)
    refine List.pairwise_append.2 ⟨h2,by simp,fun a ha b hb => ?_⟩
    rw [List.mem_singleton.1 hb]
    have h4 := h3 a ha
    have h5 : a ≠ i := fun e => hi (e ▸ ha)
    show a < i
    omega
  ·intro k hk
   rcases List.mem_append.1 hk with hk | hk
   ·by_cases h0 : lk M p = []
    ·rw [h0] at hk; cases hk
    ·exact (h.2 _ (lk_mem h0)).2.2 k hk
   ·rw [List.mem_singleton.1 hk]; exact Int.le_refl _
 ·exact h.2 e e1
theorem last_not {y : List Int} {i : Int} (hs : y.Pairwise (· < ·)) (hi : ∀ k ∈ y,k ≤ i) (hl : y.length < 4611686018427387904) (h : y.getD (w64 ((y.length:Int) - 1)).toNat 0 ≠ i) : i ∉ y := fun hm => by
 obtain ⟨j,hj,e⟩ := mem_getD hm 0
 apply h
 rw [w64_id (by omega) (by omega)]
 by_cases hjl : j = y.length - 1
 ·rw [show ((y.length:Int) - 1).toNat = j by omega]; exact e
 ·exfalso
  have h1 := List.pairwise_iff_getElem.1 hs j (y.length - 1) hj (by omega) (by omega)
  have h2 := hi (y[y.length - 1]'(by omega)) (List.getElem_mem _)
  rw [List.getD_eq_getElem?_getD,List.getElem?_eq_getElem hj] at e
  have e : y[j] = i := e
  have h1 : y[j] < y[y.length - 1]'(by omega) := h1
  omega
theorem etable_in (m : Msh) (i:Nat) (l : Mp) (B:Nat) (hB : B ≤ 100000) (hl : MapB l B) (ht : TabOf m l i 0) (ho : Ord l i) :
  TR (etable_l2_step m) (etable_l2_pre m) (l,((i:Int),((i:Int),(Prs (Trg m i),(((Prs (Trg m i)).length:Int),0))))) (fun r => r.2 = (i:Int) ∧ MapB r.1 (B + 3) ∧ TabOf m r.1 i 3 ∧ Ord r.1 i) := by
 have hp3 := prs_len (Trg m i)
 refine for_loop (Prs (Trg m i)).length (fun j s => ∃ M,s = (M,((i:Int),((i:Int),(Prs (Trg m i),(((Prs (Trg m i)).length:Int),(j:Int)))))) ∧ MapB M (B + j) ∧ TabOf m M i j ∧ Ord M i) _ (fun j s hj ⟨M,e,h1,h2,h9⟩ => ?_) (fun s ⟨M,e,h1,h2,h9⟩ => ?_) ⟨l,rfl,by simpa using hl,ht,ho⟩
 ·subst e
  obtain ⟨p,hp⟩ : ∃ p,p = (Prs (Trg m i)).getD j (0,0) := ⟨_,rfl⟩
  have hy : (lk M p).length ≤ B + j := h1 p
  have hw : ∀ n : Nat,n ≠ 0 → n ≤ B + 3 → w64 ((n:Int) - 1) = ((n - 1:Nat):Int) := fun n h0 hn => by rw [w64_id (by omega) (by omega)]; omega
  have hput : (i:Int) ∉ lk M p → ∀ z,z = lk M p ++ [(i:Int)] → MapB (putM (k := yy2) M p z) (B + (j + 1)) ∧ TabOf m (putM (k := yy2) M p z) i (j + 1) ∧ Ord (putM (k := yy2) M p z) i := fun hni z hz => by
   refine ⟨fun q => ?_,fun q k => ?_,by rw [hz]; exact h9.put hni⟩
   ·rw [lk_put]
    split
    ·rw [hz,List.length_append,List.length_singleton]; omega
    ·exact Nat.le_trans (h1 q) (by omega)
   ·rw [lk_put,take_snoc hj (0,0),← hp]
    by_cases hq : q = p
    ·subst hq
     rw [if_pos rfl,hz,List.mem_append,List.mem_singleton,h2 q k,List.mem_append,List.mem_singleton]
     constructor
     ·rintro ((h | ⟨h,h'⟩) | h)
      ·exact .inl h
      ·exact .inr ⟨h,.inl h'⟩
      ·exact .inr ⟨h,.inr rfl⟩
     ·rintro (h | ⟨h,_⟩)
      ·exact .inl (.inl h)
      ·exact .inr h
    ·rw [if_neg hq,h2 q k,List.mem_append,List.mem_singleton]
     constructor
     ·rintro (h | ⟨h,h'⟩)
      ·exact .inl h
      ·exact .inr ⟨h,.inl h'⟩
     ·rintro (h | ⟨h,h' | h'⟩)
      ·exact .inl h
      ·exact .inr ⟨h,h'⟩
      ·exact absurd h' hq
  have hkeep : (i:Int) ∈ lk M p → MapB M (B + (j + 1)) ∧ TabOf m M i (j + 1) ∧ Ord M i := fun hm => by
   refine ⟨fun q => Nat.le_trans (h1 q) (by omega),fun q k => ?_,h9⟩
   rw [take_snoc hj (0,0),← hp,h2 q k,List.mem_append,List.mem_singleton]
   constructor
   ·rintro (h | ⟨h,h'⟩)
    ·exact .inl h
    ·exact .inr ⟨h,.inl h'⟩
   ·rintro (h | ⟨h,h' | h'⟩)
    ·exact .inl h
    ·exact .inr ⟨h,h'⟩
    ·subst h h'
     exact (h2 _ _).1 hm
  constructor
  ·unfold etable_l2_pre
   dsimp only [letP]
   intro _
   rw [Int.toNat_natCast,← hp]
   refine ⟨⟨by omega,by omega⟩,hj,hj,fun _ => by show (lk M p).length + 1 < _; omega,fun h0 => ?_⟩
   have h0 : (lk M p).length ≠ 0 := fun e => h0 (by show (((lk M p).length:Int) == 0) = true; rw [e]; rfl)
   have e1 := hw _ h0 (by omega)
   show ((0 ≤ w64 (((lk M p).length:Int) - 1) ∧ w64 (((lk M p).length:Int) - 1) < ((lk M p).length:Int)) ∧ (w64 (((lk M p).length:Int) - 1)).toNat < (lk M p).length ∧ (w64 (((lk M p).length:Int) - 1)).toNat < (lk M p).length ∧ (_ → (lk M p).length + 1 < 1099511627776))
   rw [e1,Int.toNat_natCast]
   exact ⟨⟨by omega,by omega⟩,by omega,by omega,fun _ => by omega⟩
  ·refine .inl ?_
   unfold etable_l2_step
   dsimp only [letV]
   rw [if_pos (by omega),Int.toNat_natCast,← hp,cnt (n := 100) (by omega) (by omega)]
   by_cases h0 : (((lookD (k := yy2) M p []).length:Int) == 0) = true
   ·rw [if_pos h0]
    have h00 : lk M p = [] := List.eq_nil_of_length_eq_zero (by simpa [lk] using h0)
    exact ⟨_,rfl,_,rfl,hput (by rw [h00]; simp) _ rfl⟩
   ·rw [if_neg h0]
    by_cases h3 : ((List.getD (lookD (k := yy2) M p []) (Int.toNat (w64 (((lookD (k := yy2) M p []).length:Int) - 1))) 0) != (i:Int)) = true
    ·rw [if_pos h3]
     have h00 : lk M p ≠ [] := fun e => h0 (by show (((lk M p).length:Int) == 0) = true; rw [e]; rfl)
     obtain ⟨_,o2,o3⟩ := h9.2 _ (lk_mem h00)
     exact ⟨_,rfl,_,rfl,hput (last_not o2 o3 (by show (lk M p).length < _; omega) (by simpa [lk] using h3)) _ rfl⟩
    ·rw [if_neg h3]
     refine ⟨_,rfl,_,rfl,hkeep (last_mem (lk M p) (fun e => h0 ?_) _ (by unfold lk; simpa using h3) (by omega))⟩
     show (((lk M p).length:Int) == 0) = true
     rw [e]; rfl
 ·subst e
  constructor
  ·unfold etable_l2_pre
   dsimp only
   intro h; omega
  ·unfold etable_l2_step
   dsimp only
   rw [if_neg (by omega)]
   refine ⟨_,rfl,rfl,fun q => Nat.le_trans (h1 q) (by omega),?_,h9⟩
   have e : (Prs (Trg m i)).take (Prs (Trg m i)).length = (Prs (Trg m i)).take 3 := by rw [List.take_length,List.take_of_length_le hp3]
   intro q k
   rw [h2 q k,e]
theorem tab_next {m : Msh} {l : Mp} {i : Nat} (h : TabOf m l i 3) : TabOf m l (i + 1) 0 := fun p k => by
 rw [h p k,List.take_of_length_le (prs_len _)]
 constructor
 ·rintro (⟨a,h1,h2,h3⟩ | ⟨h1,h2⟩)
  ·exact .inl ⟨a,by omega,h2,h3⟩
  ·exact .inl ⟨i,by omega,h1,h2⟩
 ·rintro (⟨a,h1,h2,h3⟩ | ⟨_,h2⟩)
  ·rcases Nat.lt_or_ge a i with h4 | h4
   ·exact .inl ⟨a,h4,h2,h3⟩
   ·have : a = i := by omega
    subst this
    exact .inr ⟨h2,h3⟩
  ·simp at h2
theorem etable_law4 (m : Msh) (hn : m.2.2.2.length ≤ 500) : etable_pre m ∧ MapB (etable m) 1500 ∧ TabOf m (etable m) m.2.2.2.length 0 ∧ Ord (etable m) m.2.2.2.length := by
 have key : TR (etable_l0_step m) (etable_l0_pre m) ([],0) (fun r => MapB r 1500 ∧ TabOf m r m.2.2.2.length 0 ∧ Ord r m.2.2.2.length) := by
  refine for_loop m.2.2.2.length (fun i s => ∃ M,s = (M,(i:Int)) ∧ MapB M (3 * i) ∧ TabOf m M i 0 ∧ Ord M i) _ (fun i s hi ⟨M,e,h1,h2,h9⟩ => ?_) (fun s ⟨M,e,h1,h2,h9⟩ => ?_) ⟨[],rfl,fun p => by simp [lk,lookD,lookM],fun p k => by simp [lk,lookD,lookM],by simp,fun e he => by cases he⟩
  ·subst e
   have hin := etable_in m i M (3 * i) (by omega) h1 h2 h9
   have eT : m.2.2.2.getD i ((0,(0,0)),((0,(0,0)),(0,(0,0)))) = Trg m i := by unfold Trg; rw [Int.toNat_natCast]
   constructor
   ·unfold etable_l0_pre
    dsimp only [letP]
    intro _
    rw [Int.toNat_natCast,eT,(epairs_law _).2]
    exact ⟨⟨by omega,by omega⟩,hi,hi,(epairs_law _).1,hin.1⟩
   ·refine .inl ?_
    unfold etable_l0_step
    dsimp only [letV]
    rw [if_pos (by omega),Int.toNat_natCast,eT,(epairs_law _).2]
    obtain ⟨g1,g2,g3,g4⟩ := hin.2
    rw [g1,cnt (n := 500) (by omega) (by omega)]
    exact ⟨_,rfl,_,rfl,fun p => Nat.le_trans (g2 p) (by omega),tab_next g3,g4.le (by omega)⟩
  ·subst e
   constructor
   ·unfold etable_l0_pre
    dsimp only
    intro h; omega
   ·unfold etable_l0_step
    dsimp only
    rw [if_neg (by omega)]
    exact ⟨_,rfl,fun p => Nat.le_trans (h1 p) (by omega),h2,h9⟩
 exact ⟨key.1,key.2⟩
theorem etable_law (m : Msh) (hn : m.2.2.2.length ≤ 500) : etable_pre m ∧ MapB (etable m) 1500 ∧ TabOf m (etable m) m.2.2.2.length 0 :=
 have h := etable_law4 m hn
 ⟨h.1,h.2.1,h.2.2.1⟩
end Go.Proofs.Ytleemdeodmdnkaa

namespace Go.Proofs.Ytleemdeodmdnkaa
open Go Go.Ev Go.Proofs
theorem mem_sortZ (l : List Int) (z:Int) : z ∈ sortZ l ↔ z ∈ l := List.mem_mergeSort
theorem mem_compZ (l : List Int) (z:Int) : z ∈ compZ l ↔ z ∈ l := by
 unfold compZ Lib.compact Lib.compactUpTo
 have hb : ∀ j,j < l.length → l.toArray[j]! = l.getD j 0 := fun j hj => by
  rw [getElem!_pos l.toArray j (by simpa using hj),List.getD_eq_getElem?_getD,List.getElem?_eq_getElem hj]; rfl
 rw [List.mem_map]
 constructor
 ·rintro ⟨j,hj,rfl⟩
  have hj : j < l.length := List.mem_range.1 (List.mem_filter.1 hj).1
  rw [hb j hj]; exact getD_in hj 0
 ·intro hz
  obtain ⟨j,hj,rfl⟩ := mem_getD hz 0
  induction j with
  | zero => exact ⟨0,List.mem_filter.2 ⟨List.mem_range.2 hj,by simp [Lib.keeps]⟩,hb 0 hj⟩
  | succ j ih =>
   by_cases hk : Lib.keeps l.toArray (j + 1) = true
   ·exact ⟨j + 1,List.mem_filter.2 ⟨List.mem_range.2 hj,hk⟩,hb _ hj⟩
   ·have e : l.toArray[j + 1]! = l.toArray[j]! := by
     simp only [Lib.keeps,decide_eq_true_eq,not_or,Decidable.not_not] at hk
     exact hk.2
    rw [hb _ hj,hb _ (by omega)] at e
    rw [e]
    exact ih (by omega) (getD_in (by omega) 0)
abbrev NX : Type := Mp × (Msh × Int)
theorem enear_in (x : NX) (ps : List P2) (i:Nat) (p : P2) (y : List Int) (hy : y.length ≤ 1500) (out : List Int) (ho : out.length ≤ 5000) :
  TR (enear_l2_7_step x) (enear_l2_7_pre x) (out,(ps,((ps.length:Int),((i:Int),(p,(y,((y.length:Int),0))))))) (fun r => ∃ o,r = (o,(ps,((ps.length:Int),(i:Int)))) ∧ o.length ≤ out.length + 1500 ∧ ∀ k,k ∈ o ↔ k ∈ out ∨ (k ≠ x.2.2 ∧ k ∈ y)) := by
 refine for_loop y.length (fun j s => ∃ o,s = (o,(ps,((ps.length:Int),((i:Int),(p,(y,((y.length:Int),(j:Int)))))))) ∧ o.length ≤ out.length + j ∧ ∀ k,k ∈ o ↔ k ∈ out ∨ (k ≠ x.2.2 ∧ k ∈ y.take j)) _ (fun j s hj ⟨o,e,h1,h2⟩ => ?_) (fun s ⟨o,e,h1,h2⟩ => ?_) ⟨out,rfl,Nat.le_refl _,fun k => by simp⟩
 ·subst e
  constructor
  ·unfold enear_l2_7_pre
   dsimp only
   intro _
   rw [Int.toNat_natCast]
   exact ⟨⟨by omega,by omega⟩,hj,hj,fun _ => by omega⟩
  ·refine .inl ?_
   unfold enear_l2_7_step
   dsimp only
   rw [if_pos (by omega),Int.toNat_natCast,cnt (n := 1500) (by omega) (by omega)]
   by_cases hk : y.getD j 0 = x.2.2
   ·rw [if_neg (by simpa using hk)]
    refine ⟨_,rfl,o,rfl,by omega,fun k => ?_⟩
    rw [h2 k,take_snoc hj 0,List.mem_append,List.mem_singleton]
    constructor
    ·rintro (h | ⟨h,h'⟩)
     ·exact .inl h
     ·exact .inr ⟨h,.inl h'⟩
    ·rintro (h | ⟨h,h' | h'⟩)
     ·exact .inl h
     ·exact .inr ⟨h,h'⟩
     ·exact absurd (h'.trans hk) h
   ·rw [if_pos (by simpa using hk)]
    refine ⟨_,rfl,_,rfl,by rw [List.length_append,List.length_singleton]; omega,fun k => ?_⟩
    rw [List.mem_append,List.mem_singleton,h2 k,take_snoc hj 0,List.mem_append,List.mem_singleton]
    constructor
    ·rintro ((h | ⟨h,h'⟩) | h)
     ·exact .inl h
     ·exact .inr ⟨h,.inl h'⟩
     ·exact .inr ⟨fun e => hk (h ▸ e),.inr h⟩
    ·rintro (h | ⟨h,h' | h'⟩)
     ·exact .inl (.inl h)
     ·exact .inl (.inr ⟨h,h'⟩)
     ·exact .inr h'
 ·subst e
  constructor
  ·unfold enear_l2_7_pre
   dsimp only
   intro h; omega
  ·unfold enear_l2_7_step
   dsimp only
   rw [if_neg (by omega)]
   refine ⟨_,rfl,o,rfl,by omega,fun k => ?_⟩
   rw [h2 k,List.take_length]
theorem enear_out (x : NX) (ps : List P2) (hps : ps.length ≤ 3) (hB : MapB x.1 1500) :
  TR (enear_l0_7_step x) (enear_l0_7_pre x) ([],(ps,((ps.length:Int),0))) (fun r => r.length ≤ 4500 ∧ ∀ k,k ∈ r ↔ k ≠ x.2.2 ∧ ∃ p ∈ ps,k ∈ lk x.1 p) := by
 refine for_loop ps.length (fun j s => ∃ o,s = (o,(ps,((ps.length:Int),(j:Int)))) ∧ o.length ≤ 1500 * j ∧ ∀ k,k ∈ o ↔ k ≠ x.2.2 ∧ ∃ p ∈ ps.take j,k ∈ lk x.1 p) _ (fun j s hj ⟨o,e,h1,h2⟩ => ?_) (fun s ⟨o,e,h1,h2⟩ => ?_) ⟨[],rfl,by simp,fun k => by simp⟩
 ·subst e
  have hin := enear_in x ps j (ps.getD j (0,0)) (lk x.1 (ps.getD j (0,0))) (hB _) o (by omega)
  constructor
  ·unfold enear_l0_7_pre
   dsimp only [letP]
   intro _
   rw [Int.toNat_natCast]
   exact ⟨⟨by omega,by omega⟩,hj,hj,hin.1⟩
  ·refine .inl ?_
   unfold enear_l0_7_step
   dsimp only [letV]
   rw [if_pos (by omega),Int.toNat_natCast]
   obtain ⟨o',g1,g2,g3⟩ := hin.2
   unfold lk at g1
   rw [g1]
   dsimp only
   rw [cnt (n := 100) (by omega) (by omega)]
   refine ⟨_,rfl,o',rfl,by omega,fun k => ?_⟩
   rw [g3 k,h2 k,take_snoc hj (0,0)]
   constructor
   ·rintro (⟨h,p,h',h''⟩ | ⟨h,h'⟩)
    ·exact ⟨h,p,by simp [h'],h''⟩
    ·exact ⟨h,_,by simp,h'⟩
   ·rintro ⟨h,p,h',h''⟩
    rw [List.mem_append,List.mem_singleton] at h'
    rcases h' with h' | rfl
    ·exact .inl ⟨h,p,h',h''⟩
    ·exact .inr ⟨h,h''⟩
 ·subst e
  constructor
  ·unfold enear_l0_7_pre
   dsimp only
   intro h; omega
  ·unfold enear_l0_7_step
   dsimp only
   rw [if_neg (by omega)]
   refine ⟨_,rfl,by omega,fun k => ?_⟩
   rw [h2 k,List.take_length]
theorem enear_law (M : Mp) (m : Msh) (i:Int) (hi : Has m i) (hB : MapB M 1500) : enear_pre (M,(m,i)) ∧ (∀ k,k ∈ (enear (M,(m,i))).1 ↔ k ≠ i ∧ ∃ p ∈ Prs (Trg m i),k ∈ lk M p) ∧ (enear (M,(m,i))).1.length ≤ 4500 := by
 have eT : m.2.2.2.getD i.toNat ((0,(0,0)),((0,(0,0)),(0,(0,0)))) = Trg m i := rfl
 have h := enear_out (M,(m,i)) (Prs (Trg m i)) (prs_len _) hB
 have hl : ∀ l : List Int,(sortZ l).length = l.length := fun l => List.length_mergeSort l
 refine ⟨?_,fun k => ?_,?_⟩
 ·unfold enear_pre
  dsimp only [letP]
  rw [eT,(epairs_law _).2]
  have := h.2.1
  exact ⟨hi,by omega,by omega,(epairs_law _).1,h.1,by omega,by rw [hl]; omega⟩
 ·unfold enear
  dsimp only [letV]
  rw [eT,(epairs_law _).2,mem_compZ,mem_sortZ]
  exact h.2.2 k
 ·unfold enear
  dsimp only [letV]
  rw [eT,(epairs_law _).2]
  refine Nat.le_trans (compact_le _) ?_
  rw [hl]; exact h.2.1
def Adj (m : Msh) (i k:Int) : Prop := k ≠ i ∧ Has m k ∧ ∃ p ∈ Prs (Trg m i),p ∈ Prs (Trg m k)
theorem enext_law {m : Msh} (hm : meshB m = true) {i : Int} (hi : Has m i) : enext_pre (m,i) ∧ (∀ k,k ∈ (enext (m,i)).1 ↔ Adj m i k) ∧ (enext (m,i)).1.length ≤ 4500 := by
 have hn := (mesh_len hm).2.2.2
 obtain ⟨t1,t2,t3⟩ := etable_law m hn
 obtain ⟨n1,n2,n3⟩ := enear_law (etable m) m i hi t2
 refine ⟨?_,fun k => ?_,?_⟩
 rotate_right
 ·unfold enext
  dsimp only [letV]
  rw [(meshis_law m).2,hm,if_neg (by decide),if_neg (by omega),if_neg (by omega)]
  exact n3
 ·unfold enext_pre
  dsimp only [letP]
  exact ⟨(meshis_law m).1,fun _ _ _ => ⟨t1,n1⟩⟩
 ·unfold enext
  dsimp only [letV]
  rw [(meshis_law m).2,hm,if_neg (by decide),if_neg (by omega),if_neg (by omega),n2 k]
  unfold Adj
  constructor
  ·rintro ⟨h1,p,h2,h3⟩
   rcases (t3 p k).1 h3 with ⟨a,a1,rfl,a3⟩ | ⟨_,h4⟩
   ·exact ⟨h1,⟨by omega,by omega⟩,p,h2,a3⟩
   ·simp at h4
  ·rintro ⟨h1,h2,p,h3,h4⟩
   refine ⟨h1,p,h3,(t3 p k).2 (.inl ⟨k.toNat,by omega,by omega,?_⟩)⟩
   rw [show ((k.toNat:Nat):Int) = k by omega]; exact h4
end Go.Proofs.Ytleemdeodmdnkaa

namespace Go.Proofs.Ytleemdeodmdnkaa
open Go Go.Ev Go.Proofs
theorem sortZ_le (l : List Int) : (sortZ l).Pairwise (· ≤ ·) := by
 have h := List.pairwise_mergeSort (le := fun x y : Int => decide (x ≤ y)) (fun a b c h1 h2 => by simp only [decide_eq_true_eq] at *; omega) (fun a b => by simp only [Bool.or_eq_true,decide_eq_true_eq]; omega) l
 exact h.imp fun h => of_decide_eq_true h
theorem compZ_lt {l : List Int} (h : l.Pairwise (· ≤ ·)) : (compZ l).Pairwise (· < ·) := by
 unfold compZ Lib.compact Lib.compactUpTo
 have hb : ∀ j,j < l.length → l.toArray[j]! = l.getD j 0 := fun j hj => by
  rw [getElem!_pos l.toArray j (by simpa using hj),List.getD_eq_getElem?_getD,List.getElem?_eq_getElem hj]; rfl
 have hle : ∀ i j,i ≤ j → j < l.length → l.getD i 0 ≤ l.getD j 0 := fun i j hij hj => by
  rcases Nat.lt_or_ge i j with h1 | h1
  ·have := List.pairwise_iff_getElem.1 h i j (by omega) hj h1
   rw [List.getD_eq_getElem?_getD,List.getElem?_eq_getElem (by omega),List.getD_eq_getElem?_getD,List.getElem?_eq_getElem hj]
   exact this
  ·rw [show i = j by omega]; exact Int.le_refl _
 rw [List.pairwise_map]
 have h1 : ((List.range l.length).filter (Lib.keeps l.toArray)).Pairwise (· < ·) := List.pairwise_lt_range.filter _
 refine List.Pairwise.imp_of_mem (fun {a b} ha hb' hab => ?_) h1
 have a1 := List.mem_range.1 (List.mem_filter.1 ha).1
 have b1 := List.mem_range.1 (List.mem_filter.1 hb').1
 have b2 := (List.mem_filter.1 hb').2
 simp only [Lib.keeps,decide_eq_true_eq] at b2
 rcases b2 with b2 | b2
 ·omega
 ·rw [hb b b1,hb (b - 1) (by omega)] at b2
  rw [hb a a1,hb b b1]
  have q1 := hle a (b - 1) (by omega) (by omega)
  have q2 := hle (b - 1) b (by omega) b1
  omega
theorem enear_lt (x : NX) : (enear x).1.Pairwise (· < ·) := compZ_lt (sortZ_le _)
theorem ext_lt {a b : List Int} (ha : a.Pairwise (· < ·)) (hb : b.Pairwise (· < ·)) (h : ∀ k,k ∈ a ↔ k ∈ b) : a = b := by
 have na : a.Nodup := ha.imp fun h => Int.ne_of_lt h
 have nb : b.Nodup := hb.imp fun h => Int.ne_of_lt h
 refine ((List.perm_ext_iff_of_nodup na nb).2 h).eq_of_pairwise (le := (· < ·)) (fun x y _ _ h1 h2 => ?_) ha hb
 have h1 : x < y := h1
 have h2 : y < x := h2
 omega
theorem enext_full {m : Msh} (hm : meshB m = true) {i : Int} (hi : Has m i) : enext_pre (m,i) ∧ (∀ k,k ∈ (enext (m,i)).1 ↔ Adj m i k) ∧ (enext (m,i)).1.length ≤ 4500 ∧ (enext (m,i)).1.Pairwise (· < ·) ∧ (enext (m,i)).2 = 0 := by
 obtain ⟨h1,h2,h3⟩ := enext_law hm hi
 refine ⟨h1,h2,h3,?_,?_⟩
 ·unfold enext
  dsimp only [letV]
  rw [(meshis_law m).2,hm,if_neg (by decide),if_neg (by have := hi.1; omega),if_neg (by have := hi.2; omega)]
  exact enear_lt _
 ·unfold enext
  dsimp only [letV]
  rw [(meshis_law m).2,hm,if_neg (by decide),if_neg (by have := hi.1; omega),if_neg (by have := hi.2; omega)]
theorem enext_bad {m : Msh} {i : Int} (h : meshB m = false ∨ ¬ Has m i) : enext_pre (m,i) ∧ enext (m,i) = ([],1) := by
 constructor
 ·unfold enext_pre
  dsimp only [letP]
  refine ⟨(meshis_law m).1,fun q1 q2 q3 => ?_⟩
  exfalso
  rw [(meshis_law m).2] at q1
  rcases h with h | h
  ·rw [h] at q1; exact q1 rfl
  ·exact h ⟨by omega,by omega⟩
 ·unfold enext
  dsimp only [letV]
  rw [(meshis_law m).2]
  rcases h with h | h
  ·rw [h,if_pos (by decide)]
  ·cases meshB m with
   | false => rw [if_pos (by decide)]
   | true =>
    rw [if_neg (by decide)]
    by_cases h1 : i < 0
    ·rw [if_pos h1]
    ·rw [if_neg h1]
     by_cases h2 : i ≥ (m.2.2.2.length:Int)
     ·rw [if_pos h2]
     ·exact absurd ⟨by omega,by omega⟩ h
end Go.Proofs.Ytleemdeodmdnkaa
