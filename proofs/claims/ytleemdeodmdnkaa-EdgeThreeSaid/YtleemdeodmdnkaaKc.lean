/- Plain laws: EdgeThree. -/
import Derived.Test.YtleemdeodmdnkaaKl
import Derived.Test.YtleemdeodmdnkaaEi
noncomputable section
set_option linter.unusedSectionVars false
set_option linter.unusedVariables false
set_option linter.unusedSimpArgs false
namespace Go.Proofs.Ytleemdeodmdnkaa
open Go Go.Ev Go.Proofs
theorem mesh_tri {m : Msh} (h : meshB m = true) {k : Int} (hk : Has m k) : triB m (Trg m k) = true := by
 unfold meshB at h
 simp only [Bool.and_eq_true] at h
 exact List.all_eq_true.1 h.2 _ (tr_mem hk)
theorem pr_facts {a b : Int} {p : P2} (h : p ∈ Pr a b) : p.1 < p.2 ∧ (p.1 = a ∨ p.1 = b) ∧ (p.2 = a ∨ p.2 = b) := by
 unfold Pr at h
 split at h
 ·rw [List.mem_singleton.1 h]
  unfold minI maxI
  dsimp only
  split <;> split <;> omega
 ·cases h
theorem prs_facts {t : T3} {p : P2} (h : p ∈ Prs t) : p.1 < p.2 ∧ (p.1 = t.1.1 ∨ p.1 = t.2.1.1 ∨ p.1 = t.2.2.1) ∧ (p.2 = t.1.1 ∨ p.2 = t.2.1.1 ∨ p.2 = t.2.2.1) := by
 unfold Prs at h
 rcases List.mem_append.1 h with h | h
 ·rcases List.mem_append.1 h with h | h
  ·have := pr_facts h; omega
  ·have := pr_facts h; omega
 ·have := pr_facts h; omega
theorem ed_facts {m : Msh} (hm : meshB m = true) {l : List EdgeV} (hl : EdOf m l) {e : EdgeV} (he : e ∈ l) : e.1 < e.2.1 ∧ 0 ≤ e.1 ∧ e.2.1 < (m.1.length:Int) ∧ e.2.2.length ≠ 0 := by
 obtain ⟨h1,h2⟩ := (hl.2 e).1 he
 obtain ⟨k,hk⟩ := List.exists_mem_of_ne_nil _ h2
 rw [h1,tris_mem] at hk
 have hf := prs_facts hk.2
 have hv := triB_v (mesh_tri hm hk.1)
 have h3 : e.2.2.length ≠ 0 := fun h => h2 (List.eq_nil_of_length_eq_zero h)
 dsimp only at hf
 refine ⟨hf.1,?_,?_,h3⟩ <;> omega
theorem three_l0 {m : Msh} (hm : meshB m = true) {l : List EdgeV} (hl : EdOf m l) (hs : Sml l) : TR (edgeThree_l0_step m) (edgeThree_l0_pre m) (l,0) (fun r => r = .inr l) := by
 have hs1 := hs.1
 refine for_loop l.length (fun i s => s = (l,(i:Int))) _ (fun i s hi e => ?_) (fun s e => ?_) rfl
 ·subst e
  obtain ⟨e,he⟩ : ∃ e,e = l.getD i ((0:Int),((0:Int),([] : List Int))) := ⟨_,rfl⟩
  have hel : e ∈ l := by rw [he]; exact getD_in hi _
  obtain ⟨a1,a2,a3,a4⟩ := ed_facts hm hl hel
  obtain ⟨f1,f2⟩ := efind_hit hs (a := e.2.1) (b := e.1) hel (.inr ⟨rfl,rfl⟩) fun x hx hb => by
   have hb1 := (ed_facts hm hl hx).1
   have hk : x.1 = e.1 ∧ x.2.1 = e.2.1 := by
    rcases hb with hb | hb <;> omega
   have h1 := ((hl.2 x).1 hx).1
   have h2 := ((hl.2 e).1 hel).1
   rw [hk.1,hk.2,← h2] at h1
   exact Prod.ext hk.1 (Prod.ext hk.2 h1)
  obtain ⟨s1,s2⟩ := same01_law (x := e.2.2) (y := e.2.2) (hs.2 e hel)
  rw [decide_eq_true rfl] at s2
  have hw : 0 < i → w64 ((i:Int) - 1) = ((i - 1:Nat):Int) := fun h => by rw [w64_id (by omega) (by omega)]; omega
  have s1' : same01_pre ((efind (l,(e.2.1,e.1))).1.2.2,e.2.2) := by rw [f2]; exact s1
  have b : (0:Int) ≤ (i:Int) ∧ (i:Int) < ((l.length:Nat):Int) := ⟨by omega,by omega⟩
  have tail : (efind_pre (l,(e.2.1,e.1))) ∧ (¬ ((!(efind (l,(e.2.1,e.1))).2) = true) → ((0:Int) ≤ (i:Int) ∧ (i:Int) < ((l.length:Nat):Int)) ∧ i < l.length ∧ i < l.length ∧ i < l.length ∧ same01_pre ((efind (l,(e.2.1,e.1))).1.2.2,e.2.2)) := ⟨f1,fun _ => ⟨b,hi,hi,hi,s1'⟩⟩
  constructor
  ·unfold edgeThree_l0_pre
   dsimp only [letP]
   intro _
   rw [Int.toNat_natCast,← he]
   refine ⟨b,hi,hi,hi,b,hi,hi,hi,fun _ => ⟨b,hi,hi,hi,fun _ => ⟨b,hi,hi,hi,fun _ => ⟨b,hi,hi,hi,fun _ => ⟨fun h0 => ?_,fun _ => ⟨b,hi,hi,hi,b,hi,hi,hi,tail⟩⟩⟩⟩⟩⟩
   rw [hw (by omega),Int.toNat_natCast]
   have b' : (0:Int) ≤ ((i - 1:Nat):Int) ∧ ((i - 1:Nat):Int) < ((l.length:Nat):Int) := ⟨by omega,by omega⟩
   have hi' : i - 1 < l.length := by omega
   exact ⟨b',hi',hi',hi',b,hi,hi,hi,fun _ => ⟨b',hi',hi',hi',b,hi,hi,hi,fun _ => ⟨b',hi',hi',hi',b,hi,hi,hi,fun _ => ⟨b,hi,hi,hi,b,hi,hi,hi,tail⟩⟩,fun _ => ⟨b,hi,hi,hi,b,hi,hi,hi,tail⟩⟩⟩
  ·refine .inl ?_
   unfold edgeThree_l0_step
   dsimp only [letV]
   rw [Int.toNat_natCast,← he,if_pos b.2,if_neg (by omega),if_neg (by omega),if_neg (by omega),if_neg (by simp only [beq_iff_eq]; omega),f2,cnt (n := 1000000) (by omega) (by omega)]
   dsimp only
   rw [s2]
   by_cases h0 : 0 < i
   ·rw [if_pos (by omega),hw h0,Int.toNat_natCast]
    have hlt : ltE (l.getD (i - 1) ((0:Int),((0:Int),([] : List Int)))) e = true := by
     have := List.pairwise_iff_getElem.1 hl.1 (i - 1) i (by omega) hi (by omega)
     rw [he,List.getD_eq_getElem?_getD,List.getElem?_eq_getElem (by omega),List.getD_eq_getElem?_getD,List.getElem?_eq_getElem hi]
     exact this
    rw [ltE_iff] at hlt
    rw [if_neg (by omega)]
    by_cases h2 : (l.getD (i - 1) ((0:Int),((0:Int),([] : List Int)))).1 = e.1
    ·rw [if_pos (by simp only [beq_iff_eq]; exact h2),if_neg (by omega)]
     exact ⟨_,rfl,rfl⟩
    ·rw [if_neg (by simp only [beq_iff_eq]; exact h2)]
     exact ⟨_,rfl,rfl⟩
   ·rw [if_neg (by omega)]
    exact ⟨_,rfl,rfl⟩
 ·subst e
  constructor
  ·unfold edgeThree_l0_pre
   dsimp only
   intro h; omega
  ·unfold edgeThree_l0_step
   dsimp only
   rw [if_neg (by omega)]
   exact ⟨_,rfl,rfl⟩
def hasT (i:Int) (e : EdgeV) : Bool := decide (i ∈ e.2.2)
theorem keys_of {m : Msh} {l : List EdgeV} (hl : EdOf m l) {i : Int} (hi : Has m i) : ((l.filter (hasT i)).map ekey).Nodup ∧ ∀ p,p ∈ (l.filter (hasT i)).map ekey ↔ p ∈ Prs (Trg m i) := by
 constructor
 ·show List.Pairwise _ _
  rw [List.pairwise_map]
  refine (hl.1.filter (hasT i)).imp fun {x y} h e => ?_
  rw [ltE_iff] at h
  unfold ekey at e
  rw [Prod.mk.injEq] at e
  omega
 ·intro p
  rw [List.mem_map]
  constructor
  ·rintro ⟨e,he,rfl⟩
   obtain ⟨h1,h2⟩ := List.mem_filter.1 he
   have h2 := of_decide_eq_true h2
   rw [((hl.2 e).1 h1).1,tris_mem] at h2
   exact h2.2
  ·intro h
   have ht : i ∈ Tris m p := tris_mem.2 ⟨hi,h⟩
   refine ⟨(p.1,(p.2,Tris m p)),List.mem_filter.2 ⟨(hl.2 _).2 ⟨rfl,fun e => ?_⟩,decide_eq_true ht⟩,rfl⟩
   have e : Tris m p = [] := e
   rw [e] at ht; cases ht
theorem mm_comm (a b:Int) : (minI a b,maxI a b) = (minI b a,maxI b a) := by
 unfold minI maxI
 rw [Prod.mk.injEq]
 constructor <;> split <;> split <;> omega
theorem mm_ne {a b c : Int} (h : a ≠ c) : (minI a b,maxI a b) ≠ (minI b c,maxI b c) := by
 unfold minI maxI
 rw [Ne,Prod.mk.injEq]
 split <;> split <;> split <;> split <;> omega
theorem count_of {t : T3} {K : List P2} (hn : K.Nodup) (h : ∀ p,p ∈ K ↔ p ∈ Prs t) :
  (t.1.1 ≠ t.2.1.1 → t.2.1.1 ≠ t.2.2.1 → t.1.1 ≠ t.2.2.1 → K.length = 3) ∧ (t.1.1 = t.2.1.1 → t.2.1.1 = t.2.2.1 → K.length = 0) ∧
  (t.1.1 = t.2.1.1 → t.2.1.1 ≠ t.2.2.1 → K.length = 1) ∧ (t.1.1 ≠ t.2.1.1 → t.2.1.1 = t.2.2.1 → K.length = 1) ∧ (t.1.1 ≠ t.2.1.1 → t.1.1 = t.2.2.1 → K.length = 1) := by
 obtain ⟨⟨a,_⟩,⟨b,_⟩,⟨c,_⟩⟩ := t
 unfold Prs Pr at h
 dsimp only at h ⊢
 have go : ∀ P : List P2,P.Nodup → (∀ p,p ∈ K ↔ p ∈ P) → K.length = P.length := fun P hP hq => ((List.perm_ext_iff_of_nodup hn hP).2 hq).length_eq
 refine ⟨fun h1 h2 h3 => ?_,fun h1 h2 => ?_,fun h1 h2 => ?_,fun h1 h2 => ?_,fun h1 h2 => ?_⟩
 ·rw [if_pos h1,if_pos h2,if_pos (Ne.symm h3)] at h
  refine go _ ?_ h
  have e1 := mm_ne (a := a) (b := b) (c := c) h3
  have e2 := mm_ne (a := b) (b := c) (c := a) (Ne.symm h1)
  have e3 := mm_ne (a := b) (b := a) (c := c) h2
  rw [mm_comm b a,mm_comm a c] at e3
  simp only [List.cons_append,List.nil_append,List.nodup_cons,List.mem_cons,List.not_mem_nil,or_false,not_or,not_false_eq_true,List.nodup_nil,and_true]
  exact ⟨⟨e1,e3⟩,e2⟩
 ·subst h1; subst h2
  rw [if_neg (by simp)] at h
  exact go [] List.nodup_nil h
 ·subst h1
  rw [if_neg (by simp),if_pos h2,if_pos (Ne.symm h2),mm_comm c a] at h
  refine go [(minI a c,maxI a c)] (by simp) fun p => (h p).trans ?_
  simp
 ·subst h2
  rw [if_pos h1,if_neg (by simp),if_pos (Ne.symm h1),mm_comm b a] at h
  refine go [(minI a b,maxI a b)] (by simp) fun p => (h p).trans ?_
  simp
 ·subst h2
  rw [if_pos h1,if_pos (Ne.symm h1),if_neg (by simp),mm_comm b a] at h
  refine go [(minI a b,maxI a b)] (by simp) fun p => (h p).trans ?_
  simp
theorem three_l4 {m : Msh} {l : List EdgeV} (hs : Sml l) (i:Int) : TR (edgeThree_l4_step m) (edgeThree_l4_pre m) (l,(i,(0,0))) (fun r => r = (l,(i,((l.filter (hasT i)).length:Int)))) := by
 have hs1 := hs.1
 refine for_loop l.length (fun k s => s = (l,(i,((((l.take k).filter (hasT i)).length:Int),(k:Int))))) _ (fun k s hk e => ?_) (fun s e => ?_) rfl
 ·subst e
  have hin := hs.2 _ (getD_in hk ((0:Int),((0:Int),([] : List Int))))
  obtain ⟨a1,a2⟩ := in14_law hin i
  have hsn : (l.take (k + 1)).filter (hasT i) = (l.take k).filter (hasT i) ++ [l.getD k (0,(0,[]))].filter (hasT i) := by rw [take_snoc hk (0,(0,[])),List.filter_append]
  have hle : ((l.take k).filter (hasT i)).length ≤ 1000000 := Nat.le_trans (List.length_filter_le _ _) (by rw [List.length_take]; omega)
  constructor
  ·unfold edgeThree_l4_pre
   dsimp only
   intro _
   rw [Int.toNat_natCast]
   exact ⟨⟨by omega,by omega⟩,hk,hk,hk,a1⟩
  ·refine .inl ?_
   unfold edgeThree_l4_step
   dsimp only [letV]
   rw [Int.toNat_natCast,if_pos (by omega),a2,cnt (n := 1000002) (by omega) (by omega),cnt (n := 1000002) (by omega) (by omega)]
   by_cases h : i ∈ (l.getD k (0,(0,[]))).2.2
   ·have hL : hasT i (l.getD k (0,(0,[]))) = true := decide_eq_true h
    rw [if_pos (decide_eq_true h),hsn,List.filter_cons_of_pos hL,List.filter_nil,List.length_append,List.length_singleton]
    exact ⟨_,rfl,rfl⟩
   ·have hL : ¬ hasT i (l.getD k (0,(0,[]))) = true := fun q => h (of_decide_eq_true q)
    rw [if_neg (by simpa using h),hsn,List.filter_cons_of_neg hL,List.filter_nil,List.append_nil]
    exact ⟨_,rfl,rfl⟩
 ·subst e
  constructor
  ·unfold edgeThree_l4_pre
   dsimp only
   intro h; omega
  ·unfold edgeThree_l4_step
   dsimp only
   rw [if_neg (by omega)]
   exact ⟨_,rfl,by rw [List.take_length]⟩
theorem three_l2 {m : Msh} (hn : m.2.2.2.length ≤ 500) {l : List EdgeV} (hl : EdOf m l) (hs : Sml l) : TR (edgeThree_l2_step m) (edgeThree_l2_pre m) (l,0) (fun r => r = .inr ()) := by
 refine for_loop m.2.2.2.length (fun i s => s = (l,(i:Int))) _ (fun i s hi e => ?_) (fun s e => ?_) rfl
 ·subst e
  have hi' : Has m (i:Int) := ⟨by omega,by omega⟩
  have h4 := three_l4 (m := m) hs (i:Int)
  obtain ⟨k1,k2⟩ := keys_of hl hi'
  obtain ⟨c1,c2,c3,c4,c5⟩ := count_of k1 k2
  rw [List.length_map] at c1 c2 c3 c4 c5
  constructor
  ·unfold edgeThree_l2_pre
   intro _
   refine ⟨h4.1,letP_i ?_⟩
   dsimp only
   rw [h4.2]
   dsimp only
   rw [Int.toNat_natCast]
   exact ⟨⟨by omega,by omega⟩,hi,hi⟩
  ·refine .inl ?_
   unfold edgeThree_l2_step
   rw [if_pos (by dsimp only; omega),letV_e]
   dsimp only
   rw [h4.2]
   dsimp only
   obtain ⟨t,ht⟩ : ∃ t,t = Trg m (i:Int) := ⟨_,rfl⟩
   rw [show m.2.2.2.getD (Int.toNat (i:Int)) ((0,(0,0)),((0,(0,0)),(0,(0,0)))) = t from ht.symm,cnt (n := 500) (by omega) (by omega)]
   rw [← ht] at c1 c2 c3 c4 c5
   obtain ⟨n,hn⟩ : ∃ n,n = (l.filter (hasT (i:Int))).length := ⟨_,rfl⟩
   rw [← hn] at c1 c2 c3 c4 c5 ⊢
   refine ⟨(l,((i + 1:Nat):Int)),?_,rfl⟩
   clear hn ht h4 k1 k2
   obtain ⟨⟨a,a'⟩,⟨b,b'⟩,⟨c,c'⟩⟩ := t
   dsimp only at c1 c2 c3 c4 c5 ⊢
   by_cases h1 : a = b
   ·subst h1
    by_cases h2 : a = c
    ·subst h2
     rw [c2 rfl rfl]; simp
    ·rw [c3 rfl h2]; simp [h2]
   ·by_cases h2 : b = c
    ·subst h2
     rw [c4 h1 rfl]; simp [h1]
    ·by_cases h3 : a = c
     ·subst h3
      rw [c5 h1 rfl]; simp [h1,h2]
     ·rw [c1 h1 h2 h3]; simp [h1,h2,h3]
 ·subst e
  constructor
  ·unfold edgeThree_l2_pre
   dsimp only
   intro h; omega
  ·unfold edgeThree_l2_step
   rw [if_neg (by dsimp only; omega)]
   exact ⟨_,rfl,rfl⟩
theorem three_law (m : Msh) : edgeThree_pre m ∧ edgeThree m = true := by
 obtain ⟨e1,e2⟩ := edged_law
 obtain ⟨t1,t2⟩ := meshis_law m
 cases hf : few14 m with
 | false =>
  constructor
  ·unfold edgeThree_pre
   exact letP_i fun h => by rw [hf] at h; exact absurd rfl h
  ·unfold edgeThree
   rw [letV_e,hf,if_pos (by decide)]
 | true =>
  cases hm : meshB m with
  | false =>
   rw [hm] at t2
   obtain ⟨d1,d2⟩ := eedges_bad hm
   constructor
   ·unfold edgeThree_pre
    exact letP_i fun _ => ⟨d1,letP_i ⟨fun _ => ⟨e1,letP_i fun _ => t1⟩,fun h => by rw [d2] at h; exact absurd (by decide) h⟩⟩
   ·unfold edgeThree
    rw [letV_e,hf,if_neg (by decide),letV_e,d2,if_pos (by decide),letV_e,e2,if_pos rfl,letV_e,t2,if_pos (by decide)]
    decide
  | true =>
   obtain ⟨d1,d2,d3,d4⟩ := eedges_law hm
   have hn := (mesh_len hm).2.2.2
   have hs := d3.sml hn d4
   have h0 := three_l0 hm d3 hs
   have h2 := three_l2 hn d3 hs
   constructor
   ·unfold edgeThree_pre
    exact letP_i fun _ => ⟨d1,letP_i ⟨fun h => by rw [d2] at h; exact absurd h (by decide),fun _ => ⟨h0.1,letP_i (cS_r h0.2 ⟨h2.1,letP_i (cS_r h2.2 e1)⟩)⟩⟩⟩
   ·unfold edgeThree
    rw [letV_e,hf,if_neg (by decide),letV_e,d2,if_neg (by decide),letV_e,h0.2,Sum.elim_inr,letV_e,h2.2,Sum.elim_inr,letV_e,e2]
end Go.Proofs.Ytleemdeodmdnkaa
