/- Plain laws: the reference's edges. -/
import Derived.Test.YtleemdeodmdnkaaMa
noncomputable section
set_option linter.unusedSectionVars false
set_option linter.unusedVariables false
set_option linter.unusedSimpArgs false
namespace Go.Proofs.Ytleemdeodmdnkaa
open Go Go.Ev Go.Proofs
theorem mesh_tri {m : Msh} (h : meshB m = true) {k : Int} (hk : Has m k) : triB m (Trg m k) = true := by
 unfold meshB at h
 simp only [Bool.and_eq_true] at h
 exact List.all_eq_true.1 h.2 _ (tr_mem hk)
theorem pr_facts {a b : Int} {p : P2} (h : p ∈ Pr a b) : p.1 < p.2 ∧ (p.1 = a ∨ p.1 = b) ∧ (p.2 = a ∨ p.2 = b) := by
 unfold Pr at h
 split at h
 ·rw [List.mem_singleton.1 h]
  unfold minI maxI
  dsimp only
  split <;> split <;> omega
 ·cases h
theorem prs_facts {t : T3} {p : P2} (h : p ∈ Prs t) : p.1 < p.2 ∧ (p.1 = t.1.1 ∨ p.1 = t.2.1.1 ∨ p.1 = t.2.2.1) ∧ (p.2 = t.1.1 ∨ p.2 = t.2.1.1 ∨ p.2 = t.2.2.1) := by
 unfold Prs at h
 rcases List.mem_append.1 h with h | h
 ·rcases List.mem_append.1 h with h | h
  ·have := pr_facts h; omega
  ·have := pr_facts h; omega
 ·have := pr_facts h; omega
def trisK (m : Msh) (p : P2) (n:Nat) : List Int := ((List.range n).filter fun i : Nat => decide (p ∈ Prs (Trg m (i:Int)))).map fun i : Nat => (i:Int)
theorem trisK_len (m : Msh) (p : P2) (n:Nat) : (trisK m p n).length ≤ n := by
 unfold trisK
 rw [List.length_map]
 exact Nat.le_trans (List.length_filter_le _ _) (by rw [List.length_range]; exact Nat.le_refl _)
theorem trisK_succ (m : Msh) (p : P2) (n:Nat) : trisK m p (n + 1) = trisK m p n ++ if p ∈ Prs (Trg m (n:Int)) then [(n:Int)] else [] := by
 unfold trisK
 rw [List.range_succ,List.filter_append,List.map_append]
 by_cases h : p ∈ Prs (Trg m (n:Int))
 ·rw [if_pos h]; simp [h]
 ·rw [if_neg h]; simp [h]
theorem re_l4 {m : Msh} (hn : m.2.2.2.length ≤ 500) (out : List EdgeV) (a b:Int) (hab : a < b) : TR (r14edges_l4_step m) (r14edges_l4_pre m) (out,(a,(b,([],0)))) (fun r => r = (out,(a,(b,Tris m (a,b))))) := by
 refine for_loop m.2.2.2.length (fun i s => s = (out,(a,(b,(trisK m (a,b) i,(i:Int)))))) _ (fun i s hi e => ?_) (fun s e => ?_) rfl
 ·subst e
  obtain ⟨h1,h2⟩ := r14has_law (Trg m (i:Int)) a b
  have eT : m.2.2.2.getD i ((0,(0,0)),((0,(0,0)),(0,(0,0)))) = Trg m (i:Int) := by unfold Trg; rw [Int.toNat_natCast]
  have hmm : (minI a b,maxI a b) = (a,b) := by
   unfold minI maxI
   rw [Prod.mk.injEq]
   constructor <;> split <;> omega
  have h2 : r14has (Trg m (i:Int),(a,b)) = true ↔ (a,b) ∈ Prs (Trg m (i:Int)) := by
   rw [h2,hmm]
   exact ⟨fun h => h.2,fun h => ⟨by omega,h⟩⟩
  have hl := trisK_len m (a,b) i
  constructor
  ·unfold r14edges_l4_pre
   dsimp only [letP]
   intro _
   rw [Int.toNat_natCast,eT]
   exact ⟨⟨by omega,by omega⟩,hi,hi,h1,fun _ => by omega⟩
  ·refine .inl ?_
   unfold r14edges_l4_step
   dsimp only [letV]
   rw [if_pos (by omega),Int.toNat_natCast,eT,cnt (n := 500) (by omega) (by omega),trisK_succ]
   by_cases h : (a,b) ∈ Prs (Trg m (i:Int))
   ·rw [if_pos (h2.2 h),if_pos h]
    exact ⟨_,rfl,rfl⟩
   ·rw [if_neg (fun q => h (h2.1 q)),if_neg h,List.append_nil]
    exact ⟨_,rfl,rfl⟩
 ·subst e
  constructor
  ·unfold r14edges_l4_pre
   dsimp only
   intro h; omega
  ·unfold r14edges_l4_step
   dsimp only
   rw [if_neg (by omega)]
   exact ⟨_,rfl,rfl⟩
def EdTo (m : Msh) (a b:Int) (l : List EdgeV) : Prop := SE l ∧ ∀ e,e ∈ l ↔ (e.2.2 = Tris m (e.1,e.2.1) ∧ e.2.2 ≠ []) ∧ (e.1 < a ∨ (e.1 = a ∧ e.2.1 < b))
theorem tr_facts {m : Msh} (hm : meshB m = true) {p : P2} (h : Tris m p ≠ []) : p.1 < p.2 ∧ 0 ≤ p.1 ∧ p.2 < (m.1.length:Int) := by
 obtain ⟨k,hk⟩ := List.exists_mem_of_ne_nil _ h
 rw [tris_mem] at hk
 have hf := prs_facts hk.2
 have hv := triB_v (mesh_tri hm hk.1)
 refine ⟨hf.1,?_,?_⟩ <;> omega
theorem EdTo.len {m : Msh} (hm : meshB m = true) {a b : Int} {l : List EdgeV} (h : EdTo m a b l) : l.length ≤ 1500 := by
 obtain ⟨_,_,d3,d4⟩ := eedges_law hm
 have ir : ∀ x : EdgeV,ltE x x = true → False := fun x h => by rw [ltE_iff] at h; omega
 have na : l.Nodup := List.Pairwise.imp (fun {x y} (h : ltE x y = true) => fun e : x = y => ir x (by rw [← e] at h; exact h)) h.1
 exact Nat.le_trans (sub_len na fun x hx => (d3.2 x).2 ((h.2 x).1 hx).1) d4
theorem re_l2 {m : Msh} (hm : meshB m = true) (a:Nat) (ha : a < m.1.length) (out : List EdgeV) (h0 : EdTo m a ((a:Int) + 1) out) : TR (r14edges_l2_step m) (r14edges_l2_pre m) (out,((a:Int),((a + 1:Nat):Int))) (fun r => ∃ o,r = (o,(a:Int)) ∧ EdTo m a m.1.length o) := by
 have hn := (mesh_len hm).2.2.2
 have hv := (mesh_len hm).1
 refine for_loop (m.1.length - (a + 1)) (fun i s => ∃ o,s = (o,((a:Int),((a + 1 + i:Nat):Int))) ∧ EdTo m a ((a + 1 + i:Nat):Int) o) _ (fun i s hi ⟨o,e,h1⟩ => ?_) (fun s ⟨o,e,h1⟩ => ?_) ⟨out,rfl,h0⟩
 ·subst e
  have hl := h1.len hm
  have h4 := re_l4 hn o (a:Int) ((a + 1 + i:Nat):Int) (by omega)
  constructor
  ·unfold r14edges_l2_pre
   dsimp only [letP]
   intro _
   refine ⟨h4.1,?_⟩
   rw [h4.2]
   intro _
   dsimp only
   omega
  ·refine .inl ?_
   unfold r14edges_l2_step
   dsimp only [letV]
   rw [if_pos (by omega),h4.2]
   dsimp only
   rw [cnt (n := 2000) (by omega) (by omega)]
   have hmem : ∀ e : EdgeV,(e.2.2 = Tris m (e.1,e.2.1) ∧ e.2.2 ≠ []) → ((e.1 < (a:Int) ∨ (e.1 = (a:Int) ∧ e.2.1 < ((a + 1 + (i + 1):Nat):Int))) ↔ (e.1 < (a:Int) ∨ (e.1 = (a:Int) ∧ e.2.1 < ((a + 1 + i:Nat):Int))) ∨ (e.1 = (a:Int) ∧ e.2.1 = ((a + 1 + i:Nat):Int))) := fun e _ => by omega
   by_cases hT : Tris m ((a:Int),((a + 1 + i:Nat):Int)) = []
   ·rw [if_neg (by rw [hT]; simp)]
    refine ⟨_,rfl,o,rfl,h1.1,fun e => ?_⟩
    rw [h1.2 e]
    constructor
    ·exact fun q => ⟨q.1,(hmem e q.1).2 (.inl q.2)⟩
    ·intro q
     rcases (hmem e q.1).1 q.2 with q' | q'
     ·exact ⟨q.1,q'⟩
     ·exfalso
      have := q.1.1
      rw [q'.1,q'.2,hT] at this
      exact q.1.2 this
   ·have hpos : 0 < (Tris m ((a:Int),((a + 1 + i:Nat):Int))).length := List.length_pos_iff.2 hT
    rw [if_pos (by omega)]
    refine ⟨_,rfl,_,rfl,?_,fun e => ?_⟩
    ·refine List.pairwise_append.2 ⟨h1.1,List.pairwise_singleton _ _,fun x hx y hy => ?_⟩
     rw [List.mem_singleton.1 hy,ltE_iff]
     have := ((h1.2 x).1 hx).2
     dsimp only
     omega
    ·rw [List.mem_append,List.mem_singleton,h1.2 e]
     constructor
     ·rintro (q | rfl)
      ·exact ⟨q.1,(hmem e q.1).2 (.inl q.2)⟩
      ·exact ⟨⟨rfl,hT⟩,(hmem _ ⟨rfl,hT⟩).2 (.inr ⟨rfl,rfl⟩)⟩
     ·intro q
      rcases (hmem e q.1).1 q.2 with q' | q'
      ·exact .inl ⟨q.1,q'⟩
      ·refine .inr (Prod.ext q'.1 (Prod.ext q'.2 ?_))
       rw [q.1.1,q'.1,q'.2]
 ·subst e
  constructor
  ·unfold r14edges_l2_pre
   dsimp only
   intro h; omega
  ·unfold r14edges_l2_step
   dsimp only
   rw [if_neg (by omega)]
   refine ⟨_,rfl,o,rfl,?_⟩
   rwa [show a + 1 + (m.1.length - (a + 1)) = m.1.length by omega] at h1
theorem r14edges_law (m : Msh) : r14edges_pre m ∧ r14edges m = eedges m := by
 obtain ⟨t1,t2⟩ := r8is_law m
 cases hm : meshB m with
 | false =>
  rw [(eedges_bad hm).2]
  unfold r14edges_pre r14edges
  dsimp only [letP,letV]
  rw [t2,hm,if_pos (by decide)]
  exact ⟨⟨t1,fun h => absurd rfl h⟩,rfl⟩
 | true =>
  have hv := (mesh_len hm).1
  obtain ⟨_,d2,d3,_⟩ := eedges_law hm
  have key : TR (r14edges_l0_step m) (r14edges_l0_pre m) ([],0) (fun r => EdOf m r) := by
   refine for_loop m.1.length (fun i s => ∃ o,s = (o,(i:Int)) ∧ EdTo m i ((i:Int) + 1) o) _ (fun i s hi ⟨o,e,h1⟩ => ?_) (fun s ⟨o,e,h1⟩ => ?_) ⟨[],rfl,List.Pairwise.nil,fun e => ⟨fun h => (by cases h),fun h => ?_⟩⟩
   ·subst e
    have h2 := re_l2 hm i hi o h1
    constructor
    ·unfold r14edges_l0_pre
     dsimp only
     intro _
     rw [cnt (n := 2000) (by omega) (by omega)]
     exact h2.1
    ·refine .inl ?_
     unfold r14edges_l0_step
     dsimp only [letV]
     rw [if_pos (by omega),cnt (n := 2000) (by omega) (by omega)]
     obtain ⟨o',g1,g2⟩ := h2.2
     rw [g1]
     dsimp only
     rw [cnt (n := 2000) (by omega) (by omega)]
     refine ⟨_,rfl,o',rfl,g2.1,fun e => ?_⟩
     rw [g2.2 e]
     constructor
     ·rintro ⟨q1,q2⟩
      exact ⟨q1,by omega⟩
     ·rintro ⟨q1,q2⟩
      have hf := tr_facts hm (p := (e.1,e.2.1)) (by rw [← q1.1]; exact q1.2)
      dsimp only at hf
      exact ⟨q1,by omega⟩
   ·subst e
    constructor
    ·unfold r14edges_l0_pre
     dsimp only
     intro h; omega
    ·unfold r14edges_l0_step
     dsimp only
     rw [if_neg (by omega)]
     refine ⟨_,rfl,h1.1,fun e => ?_⟩
     rw [h1.2 e]
     constructor
     ·exact fun q => q.1
     ·intro q
      have hf := tr_facts hm (p := (e.1,e.2.1)) (by rw [← q.1]; exact q.2)
      dsimp only at hf
      exact ⟨q,by omega⟩
   ·have hf := tr_facts hm (p := (e.1,e.2.1)) (by rw [← h.1.1]; exact h.1.2)
    have h2 := h.2
    dsimp only at hf
    exfalso
    omega
  unfold r14edges_pre r14edges
  dsimp only [letP,letV]
  rw [t2,hm,if_neg (by decide)]
  refine ⟨⟨t1,fun _ => key.1⟩,Prod.ext ?_ d2.symm⟩
  exact EdOf.eq key.2 d3
end Go.Proofs.Ytleemdeodmdnkaa

namespace Go.Proofs.Ytleemdeodmdnkaa
open Go Go.Ev Go.Proofs
def numsI (n:Nat) : List Int := (List.range n).map fun k : Nat => (k:Int)
theorem nums_len (n:Nat) : (numsI n).length = n := by unfold numsI; simp
theorem nums_mem {n : Nat} {x : Int} : x ∈ numsI n ↔ 0 ≤ x ∧ x < n := by
 unfold numsI
 rw [List.mem_map]
 constructor
 ·rintro ⟨k,hk,rfl⟩
  have := List.mem_range.1 hk
  omega
 ·rintro ⟨h1,h2⟩
  exact ⟨x.toNat,List.mem_range.2 (by omega),by omega⟩
theorem nums_gp {n : Nat} {k : Int} (h1 : 0 ≤ k) (h2 : k < n) : gp (numsI n) k = k := by
 unfold gp numsI
 rw [List.getD_eq_getElem?_getD,List.getElem?_map,List.getElem?_range (by omega)]
 show ((k.toNat:Nat):Int) = k
 omega
theorem nums_succ (n:Nat) : numsI (n + 1) = numsI n ++ [(n:Int)] := by
 unfold numsI
 rw [List.range_succ,List.map_append]; rfl
def RP (m : Msh) (out : List Int) : Prop := out.length = m.2.2.2.length ∧ ∀ k,Has m k → 0 ≤ gp out k ∧ gp out k ≤ k ∧ Cn m (gp out k) k
theorem RP.ge {m : Msh} {out P : List Int} (h : RP m out) (hP : Parts m P) {k : Int} (hk : Has m k) : gp P k ≤ gp out k := by
 obtain ⟨h1,h2,h3⟩ := h.2 k hk
 have hh : Has m (gp out k) := ⟨h1,by have := hk.2; omega⟩
 rw [← hP.cn h3]
 exact (hP.val _ hh).2.1
def Mono (m : Msh) (out out' : List Int) : Prop := ∀ k,Has m k → gp out' k ≤ gp out k
theorem fin_mono {m : Msh} {out out' P : List Int} (hP : Parts m P) (h' : RP m out') (hm : Mono m out out') {k : Int} (hk : Has m k) (hf : gp out k = gp P k) : gp out' k = gp P k := by
 have h1 := h'.ge hP hk
 have h2 := hm k hk
 omega
theorem rp_l6 {m : Msh} (hn : m.2.2.2.length ≤ 500) {P : List Int} (hP : Parts m P) (rd:Int) {i : Int} (hi : Has m i) {out0 : List Int} (h0 : RP m out0) :
  TR (r14parts_l6_step m) (r14parts_l6_pre m) (out0,(rd,(i,0))) (fun r => ∃ o,r = (o,(rd,i)) ∧ RP m o ∧ Mono m out0 o ∧ ∀ k,Adj m i k → gp out0 k = gp P k → gp o i = gp P i) := by
 refine for_loop m.2.2.2.length (fun k s => ∃ o,s = (o,(rd,(i,(k:Int)))) ∧ RP m o ∧ Mono m out0 o ∧ ∀ j,j < (k:Int) → Adj m i j → gp out0 j = gp P j → gp o i = gp P i) _ (fun k s hk ⟨o,e,h1,h2,h3⟩ => ?_) (fun s ⟨o,e,h1,h2,h3⟩ => ?_) ⟨out0,rfl,h0,fun k _ => Int.le_refl _,fun j hj hA => by have := hA.2.1.1; omega⟩
 ·subst e
  have hkk : Has m (k:Int) := ⟨by omega,by omega⟩
  have hi1 := hi.1
  have hi2 := hi.2
  have hol := h1.1
  obtain ⟨n1,n2⟩ := r14nx_law hi hkk
  have b1 : (0:Int) ≤ (k:Int) ∧ (k:Int) < ((o.length:Nat):Int) := ⟨by omega,by omega⟩
  have b2 : (0:Int) ≤ i ∧ i < ((o.length:Nat):Int) := ⟨hi1,by omega⟩
  have hko : k < o.length := by omega
  have hio : i.toNat < o.length := by omega
  have ek : o.getD k 0 = gp o (k:Int) := by unfold gp; rw [Int.toNat_natCast]
  have ei : o.getD i.toNat 0 = gp o i := rfl
  constructor
  ·unfold r14parts_l6_pre
   dsimp only [letP]
   intro _
   rw [Int.toNat_natCast]
   exact ⟨b1,hko,hko,b2,hio,hio,fun _ => ⟨n1,fun _ => ⟨b1,hko,hko,b2,hio,hio⟩⟩⟩
  ·refine .inl ?_
   unfold r14parts_l6_step
   dsimp only [letV]
   rw [if_pos (by omega),Int.toNat_natCast,ek,ei,cnt (n := 500) (by omega) (by omega)]
   have hpp : Adj m i (k:Int) → gp P (k:Int) = gp P i := fun hA => hP.adj i k hi hA
   have keep : (Adj m i (k:Int) → gp out0 (k:Int) = gp P (k:Int) → gp o i = gp P i) → ∀ j,j < ((k + 1:Nat):Int) → Adj m i j → gp out0 j = gp P j → gp o i = gp P i := fun hh j hj hA hf => by
    by_cases hjk : j = (k:Int)
    ·rw [hjk] at hA hf; exact hh hA hf
    ·exact h3 j (by omega) hA hf
   by_cases hlt : gp o (k:Int) < gp o i
   ·rw [if_pos hlt]
    by_cases hA : Adj m i (k:Int)
    ·rw [if_pos (n2.2 hA)]
     obtain ⟨v1,v2,v3⟩ := h1.2 k hkk
     have hne : (k:Int) ≠ i := hA.1
     have e : ∀ q,0 ≤ q → gp (o.set i.toNat (gp o (k:Int))) q = if q = i then gp o (k:Int) else gp o q := fun q hq => gp_set hi1 b2.2 hq
     have hrp : RP m (o.set i.toNat (gp o (k:Int))) := by
      refine ⟨by rw [List.length_set]; exact hol,fun q hq => ?_⟩
      rw [e q hq.1]
      by_cases hqi : q = i
      ·subst hqi
       rw [if_pos rfl]
       have := (h1.2 q hq).2.1
       exact ⟨v1,by omega,v3.step hkk (adj_symm hi hA)⟩
      ·rw [if_neg hqi]; exact h1.2 q hq
     refine ⟨_,rfl,_,rfl,hrp,fun q hq => ?_,fun j hj hAj hf => ?_⟩
     ·rw [e q hq.1]
      by_cases hqi : q = i
      ·subst hqi
       rw [if_pos rfl]
       have := h2 q hq
       omega
      ·rw [if_neg hqi]; exact h2 q hq
     ·have hge := hrp.ge hP hi
      rw [e i hi1,if_pos rfl] at hge ⊢
      by_cases hjk : j = (k:Int)
      ·rw [hjk] at hf
       have hfk := fin_mono hP h1 h2 hkk hf
       rw [hfk]; exact hpp hA
      ·have := h3 j (by omega) hAj hf
       omega
    ·rw [if_neg (fun q => hA (n2.1 q))]
     exact ⟨_,rfl,o,rfl,h1,h2,keep fun q => absurd q hA⟩
   ·rw [if_neg hlt]
    refine ⟨_,rfl,o,rfl,h1,h2,keep fun hA hf => ?_⟩
    have hfk := fin_mono hP h1 h2 hkk hf
    have hge := h1.ge hP hi
    have := hpp hA
    omega
 ·subst e
  constructor
  ·unfold r14parts_l6_pre
   dsimp only
   intro h; omega
  ·unfold r14parts_l6_step
   dsimp only
   rw [if_neg (by omega)]
   exact ⟨_,rfl,o,rfl,h1,h2,fun k hA hf => h3 k hA.2.1.2 hA hf⟩
theorem rp_l4 {m : Msh} (hn : m.2.2.2.length ≤ 500) {P : List Int} (hP : Parts m P) (rd:Int) {out0 : List Int} (h0 : RP m out0) :
  TR (r14parts_l4_step m) (r14parts_l4_pre m) (out0,(rd,0)) (fun r => ∃ o,r = (o,rd) ∧ RP m o ∧ Mono m out0 o ∧ ∀ i k,Has m i → Adj m i k → gp out0 k = gp P k → gp o i = gp P i) := by
 refine for_loop m.2.2.2.length (fun i s => ∃ o,s = (o,(rd,(i:Int))) ∧ RP m o ∧ Mono m out0 o ∧ ∀ q k,Has m q → q < (i:Int) → Adj m q k → gp out0 k = gp P k → gp o q = gp P q) _ (fun i s hi ⟨o,e,h1,h2,h3⟩ => ?_) (fun s ⟨o,e,h1,h2,h3⟩ => ?_) ⟨out0,rfl,h0,fun k _ => Int.le_refl _,fun q k hq hlt => by have := hq.1; omega⟩
 ·subst e
  have hh : Has m (i:Int) := ⟨by omega,by omega⟩
  have h6 := rp_l6 hn hP rd hh h1
  constructor
  ·unfold r14parts_l4_pre
   dsimp only
   intro _
   exact h6.1
  ·refine .inl ?_
   unfold r14parts_l4_step
   dsimp only [letV]
   rw [if_pos (by omega)]
   obtain ⟨o',g1,g2,g3,g4⟩ := h6.2
   rw [g1]
   dsimp only
   rw [cnt (n := 500) (by omega) (by omega)]
   refine ⟨_,rfl,o',rfl,g2,fun k hk => Int.le_trans (g3 k hk) (h2 k hk),fun q k hq hlt hA hf => ?_⟩
   by_cases hqi : q = (i:Int)
   ·rw [hqi] at hA ⊢
    exact g4 k hA (fin_mono hP h1 h2 hA.2.1 hf)
   ·exact fin_mono hP g2 g3 hq (h3 q k hq (by omega) hA hf)
 ·subst e
  constructor
  ·unfold r14parts_l4_pre
   dsimp only
   intro h; omega
  ·unfold r14parts_l4_step
   dsimp only
   rw [if_neg (by omega)]
   exact ⟨_,rfl,o,rfl,h1,h2,fun i k hi hA hf => h3 i k hi hi.2 hA hf⟩
theorem countP_more {p q : Int → Bool} : ∀ {L : List Int},(∀ x ∈ L,p x = true → q x = true) → (L.countP p ≤ L.countP q) ∧ ((∃ x ∈ L,p x = false ∧ q x = true) → L.countP p + 1 ≤ L.countP q)
 | [],_ => ⟨Nat.le_refl _,fun ⟨x,hx,_⟩ => by cases hx⟩
 | a :: r,h => by
  obtain ⟨i1,i2⟩ := countP_more (L := r) fun x hx => h x (List.mem_cons_of_mem _ hx)
  have ha := h a List.mem_cons_self
  rw [List.countP_cons,List.countP_cons]
  refine ⟨?_,?_⟩
  ·cases hp : p a with
   | true => rw [ha hp]; simp; exact i1
   | false => cases q a <;> simp <;> omega
  ·rintro ⟨x,hx,h1,h2⟩
   rcases List.mem_cons.1 hx with rfl | hx
   ·rw [h1,h2]; simp; exact i1
   ·have := i2 ⟨x,hx,h1,h2⟩
    cases hp : p a with
    | true => rw [ha hp]; simp; omega
    | false => cases q a <;> simp <;> omega
def finB (P out : List Int) (k:Int) : Bool := gp out k == gp P k
theorem cn_edge {m : Msh} {f : Int → Prop} [DecidablePred f] {a b : Int} (h : Cn m a b) : f a → ¬ f b → ∃ j k,Has m j ∧ Adj m j k ∧ f j ∧ ¬ f k := by
 induction h with
 | refl => exact fun h1 h2 => absurd h1 h2
 | @step j k _ h1 h2 ih =>
  intro ha hk
  by_cases hj : f j
  ·exact ⟨j,k,h1,h2,hj,hk⟩
  ·exact ih ha hj
theorem rp_l2 {m : Msh} (hn : m.2.2.2.length ≤ 500) {P : List Int} (hP : Parts m P) {out0 : List Int} (h0 : RP m out0) : TR (r14parts_l2_step m) (r14parts_l2_pre m) (out0,0) (fun r => r = P) := by
 have hall : ∀ o,RP m o → (∀ k,Has m k → gp o k = gp P k) → o = P := fun o ho hh => by
  refine List.ext_getElem (by rw [ho.1,hP.len]) fun k h1 h2 => ?_
  have := hh (k:Int) ⟨by omega,by have := ho.1; omega⟩
  unfold gp at this
  rw [Int.toNat_natCast,List.getD_eq_getElem?_getD,List.getElem?_eq_getElem h1,List.getD_eq_getElem?_getD,List.getElem?_eq_getElem h2] at this
  exact this
 refine for_loop m.2.2.2.length (fun r s => ∃ o,s = (o,(r:Int)) ∧ RP m o ∧ ((∀ k,Has m k → gp o k = gp P k) ∨ r ≤ (numsI m.2.2.2.length).countP (finB P o))) _ (fun r s hr ⟨o,e,h1,h2⟩ => ?_) (fun s ⟨o,e,h1,h2⟩ => ?_) ⟨out0,rfl,h0,.inr (Nat.zero_le _)⟩
 ·subst e
  have h4 := rp_l4 hn hP (r:Int) h1
  constructor
  ·unfold r14parts_l2_pre
   dsimp only
   intro _
   exact h4.1
  ·refine .inl ?_
   unfold r14parts_l2_step
   dsimp only [letV]
   rw [if_pos (by omega)]
   obtain ⟨o',g1,g2,g3,g4⟩ := h4.2
   rw [g1]
   dsimp only
   rw [cnt (n := 500) (by omega) (by omega)]
   refine ⟨_,rfl,o',rfl,g2,?_⟩
   by_cases hd : ∀ k,Has m k → gp o k = gp P k
   ·exact .inl fun k hk => fin_mono hP g2 g3 hk (hd k hk)
   ·refine .inr ?_
    rcases h2 with h2 | h2
    ·exact absurd h2 hd
    obtain ⟨b,hb,hbn⟩ : ∃ b,Has m b ∧ ¬ gp o b = gp P b := by
     by_cases hx : ∃ b,Has m b ∧ ¬ gp o b = gp P b
     ·exact hx
     ·exfalso
      exact hd fun k hk => by
       by_cases hk2 : gp o k = gp P k
       ·exact hk2
       ·exact absurd ⟨k,hk,hk2⟩ hx
    obtain ⟨v1,v2,v3,v4⟩ := hP.val b hb
    have hPb : Has m (gp P b) := ⟨v1,by have := hb.2; omega⟩
    have hfa : gp o (gp P b) = gp P (gp P b) := by
     have q1 := h1.ge hP hPb
     have q2 := (h1.2 _ hPb).2.1
     rw [v3] at q1 ⊢
     omega
    obtain ⟨j,k,hj,hA,hfj,hnk⟩ := cn_edge (f := fun z => gp o z = gp P z) v4 hfa hbn
    have hk := hA.2.1
    have hnew := g4 k j hk (adj_symm hj hA) hfj
    have hcm := countP_more (p := finB P o) (q := finB P o') (L := numsI m.2.2.2.length) fun x hx hp => by
     have hx' : Has m x := nums_mem.1 hx
     unfold finB at hp ⊢
     rw [beq_iff_eq] at hp ⊢
     exact fin_mono hP g2 g3 hx' hp
    have := hcm.2 ⟨k,nums_mem.2 hk,by unfold finB; simpa using hnk,by unfold finB; simpa using hnew⟩
    omega
 ·subst e
  have hfin : ∀ k,Has m k → gp o k = gp P k := by
   rcases h2 with h2 | h2
   ·exact h2
   ·have hle : (numsI m.2.2.2.length).countP (finB P o) = (numsI m.2.2.2.length).length := by
     have := List.countP_le_length (p := finB P o) (l := numsI m.2.2.2.length)
     rw [nums_len] at this ⊢
     omega
    intro k hk
    have := List.countP_eq_length.1 hle k (nums_mem.2 hk)
    unfold finB at this
    simpa using this
  constructor
  ·unfold r14parts_l2_pre
   dsimp only
   intro h; omega
  ·unfold r14parts_l2_step
   dsimp only
   rw [if_neg (by omega)]
   exact ⟨_,rfl,hall o h1 hfin⟩
theorem r14parts_law (m : Msh) : r14parts_pre m ∧ r14parts m = eparts m := by
 obtain ⟨t1,t2⟩ := r8is_law m
 cases hm : meshB m with
 | false =>
  rw [(eparts_bad hm).2]
  unfold r14parts_pre r14parts
  dsimp only [letP,letV]
  rw [t2,hm,if_pos (by decide)]
  exact ⟨⟨t1,fun h => absurd rfl h⟩,rfl⟩
 | true =>
  have hn := (mesh_len hm).2.2.2
  obtain ⟨_,p2,p3⟩ := eparts_law hm
  have k0 : TR (r14parts_l0_step m) (r14parts_l0_pre m) ([],0) (fun r => r = numsI m.2.2.2.length) := by
   refine for_loop m.2.2.2.length (fun i s => s = (numsI i,(i:Int))) _ (fun i s hi e => ?_) (fun s e => ?_) rfl
   ·subst e
    constructor
    ·unfold r14parts_l0_pre
     dsimp only
     intro _
     rw [nums_len]; omega
    ·refine .inl ?_
     unfold r14parts_l0_step
     dsimp only
     rw [if_pos (by omega),cnt (n := 500) (by omega) (by omega),← nums_succ]
     exact ⟨_,rfl,rfl⟩
   ·subst e
    constructor
    ·unfold r14parts_l0_pre
     dsimp only
     intro h; omega
    ·unfold r14parts_l0_step
     dsimp only
     rw [if_neg (by omega)]
     exact ⟨_,rfl,rfl⟩
  have k2 := rp_l2 hn p3 (out0 := numsI m.2.2.2.length) ⟨nums_len _,fun k hk => by rw [nums_gp hk.1 hk.2]; exact ⟨hk.1,Int.le_refl _,.refl _⟩⟩
  unfold r14parts_pre r14parts
  dsimp only [letP,letV]
  rw [t2,hm,if_neg (by decide),k0.2,k2.2]
  exact ⟨⟨t1,fun _ => ⟨k0.1,k2.1⟩⟩,Prod.ext rfl p2.symm⟩
end Go.Proofs.Ytleemdeodmdnkaa
