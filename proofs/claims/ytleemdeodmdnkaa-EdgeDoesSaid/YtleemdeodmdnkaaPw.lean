/- Plain laws: a mesh's edges. -/
import Derived.Test.YtleemdeodmdnkaaPs
import Derived.Test.YtleemdeodmdnkaaEd
noncomputable section
set_option linter.unusedSectionVars false
set_option linter.unusedVariables false
set_option linter.unusedSimpArgs false
namespace Go.Proofs.Ytleemdeodmdnkaa
open Go Go.Ev Go.Proofs
def Tris (m : Msh) (p : P2) : List Int := ((List.range m.2.2.2.length).filter fun i : Nat => decide (p ∈ Prs (Trg m (i:Int)))).map fun i : Nat => (i:Int)
theorem tris_lt (m : Msh) (p : P2) : (Tris m p).Pairwise (· < ·) := by
 unfold Tris
 rw [List.pairwise_map]
 refine List.Pairwise.imp (fun {a b} (h : a < b) => ?_) (List.pairwise_lt_range.filter _)
 omega
theorem tris_mem {m : Msh} {p : P2} {k : Int} : k ∈ Tris m p ↔ Has m k ∧ p ∈ Prs (Trg m k) := by
 unfold Tris
 rw [List.mem_map]
 constructor
 ·rintro ⟨i,hi,rfl⟩
  obtain ⟨h1,h2⟩ := List.mem_filter.1 hi
  have h1 := List.mem_range.1 h1
  exact ⟨⟨by omega,by omega⟩,of_decide_eq_true h2⟩
 ·rintro ⟨⟨h1,h2⟩,h3⟩
  have e : ((k.toNat:Nat):Int) = k := by omega
  refine ⟨k.toNat,List.mem_filter.2 ⟨List.mem_range.2 (by omega),?_⟩,e⟩
  rw [e]; exact decide_eq_true h3
theorem lk_tris {m : Msh} (hn : m.2.2.2.length ≤ 500) (p : P2) : lk (etable m) p = Tris m p := by
 obtain ⟨_,_,h3,h4⟩ := etable_law4 m hn
 refine ext_lt ?_ (tris_lt m p) fun k => ?_
 ·by_cases h0 : lk (etable m) p = []
  ·rw [h0]; exact List.Pairwise.nil
  ·exact (h4.2 _ (lk_mem h0)).2.1
 ·rw [h3 p k,tris_mem]
  constructor
  ·rintro (⟨a,a1,rfl,a2⟩ | ⟨_,h⟩)
   ·exact ⟨⟨by omega,by omega⟩,a2⟩
   ·simp at h
  ·rintro ⟨⟨h1,h2⟩,h⟩
   have e : ((k.toNat:Nat):Int) = k := by omega
   exact .inl ⟨k.toNat,by omega,e.symm,by rw [e]; exact h⟩
theorem sub_len {α : Type} [DecidableEq α] : ∀ {a b : List α},a.Nodup → (∀ x ∈ a,x ∈ b) → a.length ≤ b.length
 | [],b,_,_ => Nat.zero_le _
 | x :: r,b,hn,h => by
  rw [List.nodup_cons] at hn
  have h1 := sub_len (a := r) (b := b.erase x) hn.2 fun y hy => by
   have hne : y ≠ x := fun e => hn.1 (by rw [← e]; exact hy)
   exact (List.mem_erase_of_ne hne).2 (h y (List.mem_cons_of_mem _ hy))
  have hx := h x List.mem_cons_self
  rw [List.length_erase_of_mem hx] at h1
  have := List.length_pos_of_mem hx
  rw [List.length_cons]; omega
theorem etable_len {m : Msh} (hn : m.2.2.2.length ≤ 500) : (etable m).length ≤ 1500 := by
 obtain ⟨_,_,h3,h4⟩ := etable_law4 m hn
 have h := sub_len (b := (List.range m.2.2.2.length).flatMap fun i : Nat => Prs (Trg m (i:Int))) h4.1 fun p hp => by
  obtain ⟨e,he,rfl⟩ := List.mem_map.1 hp
  obtain ⟨k,hk⟩ := List.exists_mem_of_ne_nil _ (h4.2 e he).1
  rw [← mem_lk h4.1 he] at hk
  rw [lk_tris hn,tris_mem] at hk
  have e : ((k.toNat:Nat):Int) = k := by have := hk.1.1; omega
  exact List.mem_flatMap.2 ⟨k.toNat,List.mem_range.2 (by have := hk.1.2; have := hk.1.1; omega),by rw [e]; exact hk.2⟩
 rw [List.length_map] at h
 have h5 : ∀ l : List Nat,(l.flatMap fun i : Nat => Prs (Trg m (i:Int))).length ≤ 3 * l.length := fun l => by
  induction l with
  | nil => simp
  | cons a r ih =>
   rw [List.flatMap_cons,List.length_append,List.length_cons]
   have := prs_len (Trg m (a:Int))
   omega
 have h6 := h5 (List.range m.2.2.2.length)
 rw [List.length_range] at h6
 omega
def SE (l : List EdgeV) : Prop := l.Pairwise fun x y => ltE x y = true
theorem sortE_lt {a : List EdgeV} (hn : (a.map ekey).Nodup) : SE (sortE a) := by
 have nt : ∀ x y : EdgeV,(!ltE y x) = true ↔ ¬ (y.1 < x.1 ∨ (y.1 = x.1 ∧ y.2.1 < x.2.1)) := fun x y => by
  rw [← ltE_iff]; cases ltE y x <;> simp
 have tot : ∀ x y : EdgeV,(!ltE y x) = true ∨ (!ltE x y) = true := fun x y => by
  rw [nt,nt]; omega
 have tr : ∀ x y z : EdgeV,(!ltE y x) = true → (!ltE z y) = true → (!ltE z x) = true := fun x y z => by
  rw [nt,nt,nt]; omega
 have s1 : (sortE a).Pairwise fun x y => (!ltE y x) = true := List.pairwise_mergeSort (le := fun x y => !ltE y x) (fun x y z => tr x y z) (fun x y => by rcases tot x y with h | h <;> simp [h]) a
 have h2 : ((sortE a).map ekey).Nodup := (((List.mergeSort_perm a _).map ekey).nodup_iff).2 hn
 have h3 : (sortE a).Pairwise fun x y => ekey x ≠ ekey y := List.pairwise_map.1 h2
 refine (s1.and h3).imp fun {x y} h => ?_
 obtain ⟨h4,h5⟩ := h
 rw [nt] at h4
 rw [ltE_iff]
 have h6 : ¬ (x.1 = y.1 ∧ x.2.1 = y.2.1) := fun q => h5 (by unfold ekey; rw [q.1,q.2])
 omega
theorem ext_SE {a b : List EdgeV} (ha : SE a) (hb : SE b) (h : ∀ k,k ∈ a ↔ k ∈ b) : a = b := by
 have ir : ∀ x : EdgeV,ltE x x = true → False := fun x h => by rw [ltE_iff] at h; omega
 have na : a.Nodup := List.Pairwise.imp (fun {x y} (h : ltE x y = true) => fun e : x = y => ir x (by rw [← e] at h; exact h)) ha
 have nb : b.Nodup := List.Pairwise.imp (fun {x y} (h : ltE x y = true) => fun e : x = y => ir x (by rw [← e] at h; exact h)) hb
 refine ((List.perm_ext_iff_of_nodup na nb).2 h).eq_of_pairwise (le := fun x y => ltE x y = true) (fun x y _ _ h1 h2 => ?_) ha hb
 rw [ltE_iff] at h1 h2
 omega
def EdOf (m : Msh) (l : List EdgeV) : Prop := SE l ∧ ∀ e,e ∈ l ↔ e.2.2 = Tris m (e.1,e.2.1) ∧ e.2.2 ≠ []
theorem EdOf.eq {m : Msh} {a b : List EdgeV} (ha : EdOf m a) (hb : EdOf m b) : a = b := ext_SE ha.1 hb.1 fun k => (ha.2 k).trans (hb.2 k).symm
theorem eedges_law {m : Msh} (hm : meshB m = true) : eedges_pre m ∧ (eedges m).2 = 0 ∧ EdOf m (eedges m).1 ∧ (eedges m).1.length ≤ 1500 := by
 have hn := (mesh_len hm).2.2.2
 obtain ⟨h1,_,h3,h4⟩ := etable_law4 m hn
 have hl := etable_len hn
 have e0 : eedges m = (sortE ((etable m).map toE),0) := by
  unfold eedges
  rw [(meshis_law m).2,hm,if_pos rfl]
 rw [e0]
 refine ⟨⟨(meshis_law m).1,fun _ => ⟨h1,by omega,h4.1⟩⟩,rfl,⟨sortE_lt (by rw [ekey_toE]; exact h4.1),fun e => ?_⟩,?_⟩
 ·show e ∈ sortE _ ↔ _
  unfold sortE
  rw [List.mem_mergeSort,List.mem_map]
  constructor
  ·rintro ⟨p,hp,rfl⟩
   refine ⟨?_,(h4.2 p hp).1⟩
   show p.2 = Tris m p.1
   rw [← lk_tris hn,mem_lk h4.1 hp]
  ·rintro ⟨q1,q2⟩
   refine ⟨((e.1,e.2.1),e.2.2),?_,rfl⟩
   rw [← lk_tris hn] at q1
   rw [q1] at q2
   have := lk_mem q2
   rw [← q1] at this
   exact this
 ·show (sortE _).length ≤ _
  unfold sortE
  rw [List.length_mergeSort,List.length_map]; exact hl
theorem eedges_bad {m : Msh} (hm : meshB m = false) : eedges_pre m ∧ eedges m = ([],1) := by
 constructor
 ·refine ⟨(meshis_law m).1,fun h => ?_⟩
  rw [(meshis_law m).2,hm] at h; cases h
 ·unfold eedges
  rw [(meshis_law m).2,hm,if_neg (by decide)]
end Go.Proofs.Ytleemdeodmdnkaa

namespace Go.Proofs.Ytleemdeodmdnkaa
open Go Go.Ev Go.Proofs
theorem wrap64 {n : Int} (h1 : 0 ≤ n) (h2 : n < 18446744073709551616) : IntKind.wrap IntKind.u64 n = n := by
 unfold IntKind.wrap
 simp [IntKind.bits,IntKind.signed]
 omega
theorem low32 {n : Nat} (h : n < 4294967296) : (BitVec.toNat ((BitVec.ofInt 64 (n:Int)) &&& (BitVec.ofInt 64 (4294967295:Int)))) = n := by
 have e1 : (BitVec.ofInt 64 (n:Int)).toNat = n := by
  rw [BitVec.toNat_ofInt]; omega
 have e2 : (BitVec.ofInt 64 (4294967295:Int)).toNat = 2 ^ 32 - 1 := by decide
 rw [BitVec.toNat_and,e1,e2,Nat.and_two_pow_sub_one_eq_mod]
 omega
theorem bmul_law {n : Nat} (h : n < 4294967296) : bmulM (1,(n:Int)) = (0,(n:Int)) := by
 have f1 : Int.fdiv 1 4294967296 = 0 := by decide
 have f2 : Int.fdiv (n:Int) 4294967296 = 0 := by rw [Int.fdiv_eq_ediv_of_nonneg _ (by decide)]; omega
 have l1 : (BitVec.toNat ((BitVec.ofInt 64 (1:Int)) &&& (BitVec.ofInt 64 (4294967295:Int)))) = 1 := low32 (n := 1) (by decide)
 have w0 : IntKind.wrap IntKind.u64 0 = 0 := wrap64 (by decide) (by decide)
 have w1' : IntKind.wrap IntKind.u64 1 = 1 := wrap64 (by decide) (by decide)
 have wn : IntKind.wrap IntKind.u64 (n:Int) = (n:Int) := wrap64 (by omega) (by omega)
 have z : (BitVec.toNat ((BitVec.ofInt 64 (0:Int)) &&& (BitVec.ofInt 64 (4294967295:Int)))) = 0 := low32 (n := 0) (by decide)
 unfold bmulM mul64M letV
 dsimp only
 simp only [f1,f2,low32 h,l1,Int.zero_mul,Int.mul_zero,Int.one_mul,Int.zero_add,Int.add_zero,w0,wn,z,Int.natCast_zero,Int.natCast_one,w1',show Int.fdiv 0 4294967296 = 0 from by decide]
def rep (c m:Nat) (i:Int) : List Int := List.replicate c i ++ List.replicate (m - c) 0
theorem rep_len {c m : Nat} (h : c ≤ m) (i:Int) : (rep c m i).length = m := by simp only [rep,List.length_append,List.length_replicate]; omega
theorem rep_copy {c m : Nat} (h : c ≤ m) (i:Int) : copyL (rep c m i) c (m - c) ((rep c m i).take c) = rep (c + min c (m - c)) m i ∧ copyN (m - c) ((rep c m i).take c).length = min c (m - c) := by
 have e1 : (rep c m i).take c = List.replicate c i := by simp [rep]
 have e2 : copyN (m - c) (List.replicate c i).length = min c (m - c) := by unfold copyN; rw [List.length_replicate]
 rw [e1,e2]
 refine ⟨?_,rfl⟩
 unfold copyL
 rw [e1,e2]
 unfold rep
 rw [List.take_replicate,show min (min c (m - c)) c = min c (m - c) by omega,List.replicate_append_replicate,List.drop_append,List.length_replicate,List.drop_replicate,List.drop_replicate,show c - (c + min c (m - c)) = 0 by omega]
 simp only [List.replicate_zero,List.nil_append]
 rw [show m - c - (c + min c (m - c) - c) = m - (c + min c (m - c)) by omega]
theorem repeat_loop (x : List Int × Int) (i:Int) (m:Nat) (hm : m ≤ 1000000000) : ∀ k c,c + k = m → (0 < c ∨ k = 0) → TR (repeatM_l0_step x) (repeatM_l0_pre x) (rep c m i,(c:Int)) fun r => r = List.replicate m i := by
 intro k
 induction k using Nat.strongRecOn with
 | ind k ih =>
  intro c hc h0
  have hl := rep_len (c := c) (m := m) (by omega) i
  by_cases hk : k = 0
  ·subst hk
   have : c = m := by omega
   subst this
   refine TR.stop (r := rep c c i) ?_ ?_ (by simp [rep])
   ·unfold repeatM_l0_pre
    intro q
    dsimp only at q; rw [hl] at q; omega
   ·unfold repeatM_l0_step
    dsimp only
    rw [hl,if_neg (by omega)]
  ·obtain ⟨q1,q2⟩ := rep_copy (c := c) (m := m) (by omega) i
   refine TR.go (s' := (rep (c + min c (m - c)) m i,((c + min c (m - c):Nat):Int))) ?_ ?_ (ih (k - min c (m - c)) (by omega) _ (by omega) (by omega))
   ·unfold repeatM_l0_pre
    intro _
    dsimp only
    rw [hl]; omega
   ·unfold repeatM_l0_step letV
    dsimp only
    rw [hl,if_pos (by omega),Int.toNat_natCast,Nat.add_zero,q1,q2,w64_id (by omega) (by omega)]
    congr 2
theorem repeat_law (i:Int) {n : Nat} (hn : n ≤ 1000000000) : repeatM_pre ([i],(n:Int)) ∧ repeatM ([i],(n:Int)) = List.replicate n i := by
 have e1 : IntKind.wrap IntKind.u64 ((([i] : List Int).length:Nat):Int) = 1 := wrap64 (by simp) (by simp)
 have e2 : IntKind.wrap IntKind.u64 ((n:Nat):Int) = (n:Int) := wrap64 (by omega) (by omega)
 have e3 : w64 ((n:Nat):Int) = (n:Int) := w64_id (by omega) (by omega)
 have e4 : copyL (List.replicate n (0:Int)) 0 n [i] = rep (min 1 n) n i ∧ copyN n 1 = min 1 n := by
  refine ⟨?_,rfl⟩
  unfold copyL
  show _ ++ List.take (min 1 n) [i] ++ List.drop (0 + min 1 n) _ = _
  cases n with
  | zero => rfl
  | succ n => simp [rep,show min 1 (n + 1) = 1 by omega]
 have key := repeat_loop ([i],(n:Int)) i n hn (n - min 1 n) (min 1 n) (by omega) (by omega)
 unfold repeatM_pre repeatM letP letV
 dsimp only
 rw [e1,e2,bmul_law (by omega)]
 dsimp only
 rw [e3,Int.toNat_natCast,List.length_replicate]
 simp only [List.length_cons,List.length_nil,Nat.zero_add]
 rw [e4.1,e4.2]
 refine ⟨⟨fun q => absurd q (by omega),fun _ => ⟨fun q => absurd q (by omega),fun _ => ⟨fun q => absurd q (by omega),fun _ => ⟨⟨⟨by omega,by omega⟩,by omega⟩,key.1⟩⟩⟩⟩,?_⟩
 rw [if_neg (by omega),if_neg (by omega),if_neg (by omega)]
 exact key.2
end Go.Proofs.Ytleemdeodmdnkaa

namespace Go.Proofs.Ytleemdeodmdnkaa
open Go Go.Ev Go.Proofs
def gp (p : List Int) (k:Int) : Int := p.getD k.toNat 0
theorem gp_set {p : List Int} {i k v : Int} (hi : 0 ≤ i) (hl : i < (p.length:Int)) (hk : 0 ≤ k) : gp (p.set i.toNat v) k = if k = i then v else gp p k := by
 unfold gp
 rw [List.getD_eq_getElem?_getD,List.getElem?_set]
 by_cases h : k = i
 ·subst h
  rw [if_pos rfl,if_pos rfl,if_pos (by omega)]; rfl
 ·rw [if_neg (by omega),if_neg h,List.getD_eq_getElem?_getD]
def negs (p : List Int) : Nat := p.countP fun v => decide (v < 0)
theorem negs_set {p : List Int} {i v : Int} (hi : 0 ≤ i) (hl : i < (p.length:Int)) (hn : gp p i < 0) (hv : 0 ≤ v) : negs (p.set i.toNat v) + 1 = negs p := by
 have hl : i.toNat < p.length := by omega
 unfold gp at hn
 rw [List.getD_eq_getElem?_getD,List.getElem?_eq_getElem hl] at hn
 have hn : p[i.toNat] < 0 := hn
 have hpos : 0 < p.countP fun v => decide (v < 0) := List.countP_pos_iff.2 ⟨_,List.getElem_mem hl,decide_eq_true hn⟩
 unfold negs
 rw [List.countP_set hl,if_pos (decide_eq_true hn),if_neg (by simpa using hv)]
 omega
inductive Cn (m : Msh) : Int → Int → Prop
 | refl (i:Int) : Cn m i i
 | step {i j k : Int} : Cn m i j → Has m j → Adj m j k → Cn m i k
theorem adj_symm {m : Msh} {i k : Int} (hi : Has m i) (h : Adj m i k) : Adj m k i := by
 obtain ⟨h1,h2,p,h3,h4⟩ := h
 exact ⟨fun e => h1 e.symm,hi,p,h4,h3⟩
structure WP (m : Msh) (f:Int) (out todo : List Int) (i:Int) (seen : Int → Prop) : Prop where
 len : out.length = m.2.2.2.length
 hf : Has m f
 low : ∀ k,0 ≤ k → k < f → 0 ≤ gp out k
 val : ∀ k,Has m k → gp out k = -1 ∨ (0 ≤ gp out k ∧ gp out k ≤ k ∧ gp out k ≤ f ∧ gp out (gp out k) = gp out k ∧ Cn m (gp out k) k)
 me : gp out f = f
 adj : ∀ a k,Has m a → Adj m a k → 0 ≤ gp out a → gp out k = gp out a ∨ (gp out a = f ∧ gp out k = -1 ∧ (a ∈ todo ∨ (a = i ∧ ¬ seen k)))
 todo : ∀ t ∈ todo,Has m t ∧ gp out t = f
theorem WP.put {m : Msh} {f : Int} {out todo : List Int} {i k0 : Int} {seen seen' : Int → Prop} (h : WP m f out todo i seen) (hi : Has m i) (hif : gp out i = f) (ha : Adj m i k0) (hn : gp out k0 < 0) (hs : ∀ k,k ≠ k0 → (seen' k ↔ seen k)) :
  WP m f (out.set k0.toNat f) (todo ++ [k0]) i seen' := by
 have hk0 := ha.2.1
 have hf0 := h.hf.1
 have hl : k0 < (out.length:Int) := by rw [h.len]; exact hk0.2
 have e : ∀ k,0 ≤ k → gp (out.set k0.toNat f) k = if k = k0 then f else gp out k := fun k hk => gp_set hk0.1 hl hk
 have hfk : f ≤ k0 := by
  rcases Int.lt_or_le k0 f with h1 | h1
  ·have := h.low k0 hk0.1 h1; omega
  ·exact h1
 have hne : f ≠ k0 := fun q => by have := h.me; rw [q] at this; have := hk0.1; omega
 have em1 : gp out k0 = -1 := by
  rcases h.val k0 hk0 with h1 | ⟨h1,_⟩
  ·exact h1
  ·omega
 refine ⟨by rw [List.length_set]; exact h.len,h.hf,fun k q1 q2 => ?_,fun k hk => ?_,?_,fun a k hA hk h0 => ?_,fun t ht => ?_⟩
 ·rw [e k q1]; split
  ·exact hf0
  ·exact h.low k q1 q2
 ·rw [e k hk.1]
  by_cases hkk : k = k0
  ·subst hkk
   rw [if_pos rfl]
   refine .inr ⟨hf0,hfk,Int.le_refl _,?_,?_⟩
   ·rw [e f hf0,if_neg hne]; exact h.me
   ·have := h.val i hi
    rw [hif] at this
    rcases this with q | ⟨_,_,_,_,q⟩
    ·omega
    ·exact q.step hi ha
  ·rw [if_neg hkk]
   rcases h.val k hk with q | ⟨q1,q2,q3,q4,q5⟩
   ·exact .inl q
   ·refine .inr ⟨q1,q2,q3,?_,q5⟩
    rw [e _ q1,if_neg (fun q => by rw [q] at q4; omega)]; exact q4
 ·rw [e f hf0,if_neg hne]; exact h.me
 ·rw [e a hA.1] at h0 ⊢
  rw [e k hk.2.1.1]
  by_cases hak : a = k0
  ·subst hak
   rw [if_neg hk.1,if_pos rfl]
   by_cases hg : 0 ≤ gp out k
   ·rcases h.adj k a hk.2.1 (adj_symm hA hk) hg with q | ⟨q,_⟩
    ·omega
    ·exact .inl q
   ·refine .inr ⟨rfl,?_,.inl (by simp)⟩
    rcases h.val k hk.2.1 with q | ⟨q,_⟩
    ·exact q
    ·omega
  ·rw [if_neg hak] at h0 ⊢
   by_cases hkk : k = k0
   ·subst hkk
    rw [if_pos rfl]
    rcases h.adj a k hA hk h0 with q | ⟨q,_⟩
    ·omega
    ·exact .inl q.symm
   ·rw [if_neg hkk]
    rcases h.adj a k hA hk h0 with q | ⟨q1,q2,q3⟩
    ·exact .inl q
    ·refine .inr ⟨q1,q2,?_⟩
     rcases q3 with q3 | ⟨q3,q4⟩
     ·exact .inl (List.mem_append_left _ q3)
     ·exact .inr ⟨q3,fun q => q4 ((hs k hkk).1 q)⟩
 ·rcases List.mem_append.1 ht with ht | ht
  ·obtain ⟨q1,q2⟩ := h.todo t ht
   refine ⟨q1,?_⟩
   rw [e t q1.1]; split
   ·rfl
   ·exact q2
  ·rw [List.mem_singleton.1 ht]
   refine ⟨hk0,?_⟩
   rw [e k0 hk0.1,if_pos rfl]
theorem WP.skip {m : Msh} {f : Int} {out todo : List Int} {i k0 : Int} {seen seen' : Int → Prop} (h : WP m f out todo i seen) (hn : 0 ≤ gp out k0) (hs : ∀ k,k ≠ k0 → (seen' k ↔ seen k)) : WP m f out todo i seen' :=
 ⟨h.len,h.hf,h.low,h.val,h.me,fun a k hA hk h0 => by
  rcases h.adj a k hA hk h0 with q | ⟨q1,q2,q3⟩
  ·exact .inl q
  ·refine .inr ⟨q1,q2,?_⟩
   rcases q3 with q3 | ⟨q3,q4⟩
   ·exact .inl q3
   ·by_cases hkk : k = k0
    ·subst hkk; omega
    ·exact .inr ⟨q3,fun q => q4 ((hs k hkk).1 q)⟩,h.todo⟩
theorem parts_in (m : Msh) (hn : m.2.2.2.length ≤ 500) (M : Mp) (f:Int) (n0 k1:Int) (ys : List Int) (i:Int) (hi : Has m i) (hys : ∀ k,k ∈ ys ↔ Adj m i k) (hyl : ys.length ≤ 4500) (out todo : List Int) (c:Nat) (hc : c ≤ 500)
  (hW : WP m f out todo i (fun _ => False)) (hif : gp out i = f) (hcnt : negs out + todo.length = c) :
  TR (eparts_l4_step m) (eparts_l4_pre m) (M,(out,(f,(todo,(n0,(k1,(ys,((ys.length:Int),0)))))))) (fun r => ∃ o t,r = (M,(o,(f,(t,(n0,k1))))) ∧ WP m f o t 0 (fun _ => True) ∧ negs o + t.length = c) := by
 refine for_loop ys.length (fun j s => ∃ o t,s = (M,(o,(f,(t,(n0,(k1,(ys,((ys.length:Int),(j:Int))))))))) ∧ WP m f o t i (fun k => k ∈ ys.take j) ∧ gp o i = f ∧ negs o + t.length = c) _ (fun j s hj ⟨o,t,e,h1,h2,h3⟩ => ?_) (fun s ⟨o,t,e,h1,h2,h3⟩ => ?_) ⟨out,todo,rfl,by simpa using hW,hif,hcnt⟩
 ·subst e
  obtain ⟨k0,hk⟩ : ∃ k0,k0 = ys.getD j 0 := ⟨_,rfl⟩
  have hA : Adj m i k0 := (hys k0).1 (by rw [hk]; exact getD_in hj 0)
  have hk0 := hA.2.1
  have hl : k0 < (o.length:Int) := by rw [h1.len]; exact hk0.2
  have hfs : ∀ k,k ≠ k0 → (k ∈ ys.take (j + 1) ↔ k ∈ ys.take j) := fun k hkk => by
   rw [take_snoc hj 0,← hk,List.mem_append,List.mem_singleton]
   exact ⟨fun q => q.elim id fun q => absurd q hkk,.inl⟩
  constructor
  ·unfold eparts_l4_pre
   dsimp only [letP]
   intro _
   rw [Int.toNat_natCast,← hk]
   exact ⟨⟨by omega,by omega⟩,hj,hj,⟨hk0.1,hl⟩,by have := hk0.1; omega,by have := hk0.1; omega,fun _ => ⟨⟨hk0.1,hl⟩,by have := hk0.1; omega,by have := hk0.1; omega,by omega⟩⟩
  ·refine .inl ?_
   unfold eparts_l4_step
   dsimp only [letV]
   rw [if_pos (by omega),Int.toNat_natCast,← hk,cnt (n := 4500) (by omega) (by omega)]
   by_cases hg0 : o.getD k0.toNat 0 < 0
   ·have hg : gp o k0 < 0 := hg0
    rw [if_pos hg0]
    refine ⟨_,rfl,_,_,rfl,h1.put hi h2 hA hg hfs,?_,?_⟩
    ·rw [gp_set hk0.1 hl hi.1,if_neg (fun q => hA.1 q.symm)]; exact h2
    ·have := negs_set hk0.1 hl hg h1.hf.1
     rw [List.length_append,List.length_singleton]; omega
   ·have hg : ¬ gp o k0 < 0 := hg0
    rw [if_neg hg0]
    exact ⟨_,rfl,o,t,rfl,h1.skip (by omega) hfs,h2,h3⟩
 ·subst e
  constructor
  ·unfold eparts_l4_pre
   dsimp only
   intro h; omega
  ·unfold eparts_l4_step
   dsimp only
   rw [if_neg (by omega)]
   refine ⟨_,rfl,o,t,rfl,⟨h1.len,h1.hf,h1.low,h1.val,h1.me,fun a k hA hk h0 => ?_,h1.todo⟩,h3⟩
   rcases h1.adj a k hA hk h0 with q | ⟨q1,q2,q3⟩
   ·exact .inl q
   ·refine .inr ⟨q1,q2,?_⟩
    rcases q3 with q3 | ⟨q3,q4⟩
    ·exact .inl q3
    ·subst q3
     exact absurd (by rw [List.take_length]; exact (hys k).2 hk) q4
theorem parts_mid (m : Msh) (hn : m.2.2.2.length ≤ 500) (f n0 k1:Int) (out todo : List Int) (hW : WP m f out todo 0 (fun _ => True)) (hcnt : negs out + todo.length ≤ 500) :
  TR (eparts_l2_step m) (eparts_l2_pre m) (etable m,(out,(f,(todo,(n0,k1))))) (fun r => ∃ o,r = (etable m,(o,(n0,k1))) ∧ WP m f o [] 0 (fun _ => True)) := by
 obtain ⟨t1,t2,t3,t4⟩ := etable_law4 m hn
 refine TR.inv (fun s => ∃ o t,s = (etable m,(o,(f,(t,(n0,k1))))) ∧ WP m f o t 0 (fun _ => True) ∧ negs o + t.length ≤ 500) (fun s => negs s.2.1 + s.2.2.2.1.length) (fun s ⟨o,t,e,h1,h2⟩ => ?_) ⟨out,todo,rfl,hW,hcnt⟩
 subst e
 match t,h1,h2 with
 | [],h1,h2 =>
  refine ⟨?_,fun s' e => ?_,fun r e => ?_⟩
  ·unfold eparts_l2_pre
   intro h; simp at h
  ·unfold eparts_l2_step at e
   dsimp only at e
   rw [if_neg (by simp)] at e; cases e
  ·unfold eparts_l2_step at e
   dsimp only at e
   rw [if_neg (by simp)] at e; cases e
   exact ⟨o,rfl,h1⟩
 | i :: t,h1,h2 =>
  obtain ⟨hi,hif⟩ := h1.todo i List.mem_cons_self
  obtain ⟨n1,n2,n3⟩ := enear_law (etable m) m i hi t2
  have hys : ∀ k,k ∈ (enear (etable m,(m,i))).1 ↔ Adj m i k := fun k => by
   rw [n2 k]
   constructor
   ·rintro ⟨q1,p,q2,q3⟩
    rw [lk_tris hn,tris_mem] at q3
    exact ⟨q1,q3.1,p,q2,q3.2⟩
   ·rintro ⟨q1,q2,p,q3,q4⟩
    exact ⟨q1,p,q3,by rw [lk_tris hn,tris_mem]; exact ⟨q2,q4⟩⟩
  have hin := parts_in m hn (etable m) f n0 k1 _ i hi hys n3 o t (negs o + t.length) (by rw [List.length_cons] at h2; omega) ⟨h1.len,h1.hf,h1.low,h1.val,h1.me,fun a k hA hk h0 => by
   rcases h1.adj a k hA hk h0 with q | ⟨q1,q2,q3⟩
   ·exact .inl q
   ·refine .inr ⟨q1,q2,?_⟩
    rcases q3 with q3 | ⟨_,q4⟩
    ·rcases List.mem_cons.1 q3 with q3 | q3
     ·exact .inr ⟨q3,id⟩
     ·exact .inl q3
    ·exact absurd trivial q4,fun t' ht => h1.todo t' (List.mem_cons_of_mem _ ht)⟩ hif rfl
  obtain ⟨g1,o',t',g2,g3,g4⟩ := hin
  refine ⟨?_,fun s' e => ?_,fun r e => ?_⟩
  ·unfold eparts_l2_pre
   dsimp only [letP]
   intro _
   refine ⟨by simp only [List.length_cons]; omega,Nat.zero_lt_succ _,Nat.zero_lt_succ _,by simp only [List.length_cons]; omega,n1,?_⟩
   exact g1
  ·unfold eparts_l2_step at e
   dsimp only [letV] at e
   rw [if_pos (by simp only [List.length_cons]; omega)] at e
   have g2' : run (eparts_l4_step m) ((enear (etable m,(m,List.getD (i :: t) 0 0))).2,(o,(f,(List.drop 1 (i :: t),(n0,(k1,((enear (etable m,(m,List.getD (i :: t) 0 0))).1,((((enear (etable m,(m,List.getD (i :: t) 0 0))).1.length:Nat):Int),0)))))))) = (etable m,(o',(f,(t',(n0,k1))))) := g2
   rw [g2'] at e
   cases e
   refine ⟨⟨o',t',rfl,g3,by rw [List.length_cons] at h2; omega⟩,?_⟩
   show negs o' + t'.length < negs o + (i :: t).length
   rw [List.length_cons]; omega
  ·unfold eparts_l2_step at e
   dsimp only [letV] at e
   rw [if_pos (by simp only [List.length_cons]; omega)] at e
   cases e
structure VP (m : Msh) (f:Int) (out : List Int) : Prop where
 len : out.length = m.2.2.2.length
 low : ∀ k,0 ≤ k → k < f → 0 ≤ gp out k
 val : ∀ k,Has m k → gp out k = -1 ∨ (0 ≤ gp out k ∧ gp out k ≤ k ∧ gp out (gp out k) = gp out k ∧ Cn m (gp out k) k)
 lt : ∀ k,Has m k → gp out k < f
 adj : ∀ a k,Has m a → Adj m a k → 0 ≤ gp out a → gp out k = gp out a
theorem VP.start {m : Msh} {f : Int} {out : List Int} (h : VP m f out) (hf : Has m f) (hn : gp out f < 0) : WP m f (out.set f.toNat f) [f] 0 (fun _ => True) := by
 have hl : f < (out.length:Int) := by rw [h.len]; exact hf.2
 have e : ∀ k,0 ≤ k → gp (out.set f.toNat f) k = if k = f then f else gp out k := fun k hk => gp_set hf.1 hl hk
 refine ⟨by rw [List.length_set]; exact h.len,hf,fun k q1 q2 => ?_,fun k hk => ?_,?_,fun a k hA hk h0 => ?_,fun t ht => ?_⟩
 ·rw [e k q1,if_neg (by omega)]; exact h.low k q1 q2
 ·rw [e k hk.1]
  by_cases hkf : k = f
  ·subst hkf
   rw [if_pos rfl]
   refine .inr ⟨hf.1,Int.le_refl _,Int.le_refl _,?_,.refl _⟩
   rw [e k hf.1,if_pos rfl]
  ·rw [if_neg hkf]
   rcases h.val k hk with q | ⟨q1,q2,q3,q4⟩
   ·exact .inl q
   ·have := h.lt k hk
    refine .inr ⟨q1,q2,by omega,?_,q4⟩
    rw [e _ q1,if_neg (by omega)]; exact q3
 ·rw [e f hf.1,if_pos rfl]
 ·rw [e a hA.1] at h0 ⊢
  rw [e k hk.2.1.1]
  by_cases haf : a = f
  ·subst haf
   rw [if_neg hk.1,if_pos rfl]
   refine .inr ⟨rfl,?_,.inl (by simp)⟩
   rcases h.val k hk.2.1 with q | ⟨q,_⟩
   ·exact q
   ·have := h.adj k a hk.2.1 (adj_symm hA hk) q
    omega
  ·rw [if_neg haf] at h0 ⊢
   have q := h.adj a k hA hk h0
   rw [if_neg (fun q' => by rw [q'] at q; omega)]
   exact .inl q
 ·rw [List.mem_singleton.1 ht]
  exact ⟨hf,by rw [e f hf.1,if_pos rfl]⟩
theorem WP.done {m : Msh} {f : Int} {out : List Int} (h : WP m f out [] 0 (fun _ => True)) : VP m (f + 1) out := by
 refine ⟨h.len,fun k q1 q2 => ?_,fun k hk => ?_,fun k hk => ?_,fun a k hA hk h0 => ?_⟩
 ·by_cases hkf : k = f
  ·rw [hkf,h.me]; exact h.hf.1
  ·exact h.low k q1 (by omega)
 ·rcases h.val k hk with q | ⟨q1,q2,_,q3,q4⟩
  ·exact .inl q
  ·exact .inr ⟨q1,q2,q3,q4⟩
 ·rcases h.val k hk with q | ⟨q1,q2,q5,q3,q4⟩
  ·have := h.hf.1; omega
  ·omega
 ·rcases h.adj a k hA hk h0 with q | ⟨_,_,q | ⟨_,q⟩⟩
  ·exact q
  ·cases q
  ·exact absurd trivial q
structure Parts (m : Msh) (p : List Int) : Prop where
 len : p.length = m.2.2.2.length
 val : ∀ k,Has m k → 0 ≤ gp p k ∧ gp p k ≤ k ∧ gp p (gp p k) = gp p k ∧ Cn m (gp p k) k
 adj : ∀ a k,Has m a → Adj m a k → gp p k = gp p a
theorem eparts_law {m : Msh} (hm : meshB m = true) : eparts_pre m ∧ (eparts m).2 = 0 ∧ Parts m (eparts m).1 := by
 have hn := (mesh_len hm).2.2.2
 obtain ⟨r1,r2⟩ := repeat_law (-1) (n := m.2.2.2.length) (by omega)
 have hl : (List.replicate m.2.2.2.length (-1:Int)).length = m.2.2.2.length := List.length_replicate
 have g0 : ∀ k,Has m k → gp (List.replicate m.2.2.2.length (-1:Int)) k = -1 := fun k hk => by
  unfold gp
  rw [List.getD_eq_getElem?_getD,List.getElem?_replicate,if_pos (by have := hk.1; have := hk.2; omega)]; rfl
 have key : TR (eparts_l0_step m) (eparts_l0_pre m) (etable m,(List.replicate m.2.2.2.length (-1:Int),((m.2.2.2.length:Int),0))) (fun r => Parts m r) := by
  refine for_loop m.2.2.2.length (fun f s => ∃ o,s = (etable m,(o,((m.2.2.2.length:Int),(f:Int)))) ∧ VP m (f:Int) o) _ (fun f s hf ⟨o,e,h1⟩ => ?_) (fun s ⟨o,e,h1⟩ => ?_) ⟨_,rfl,hl,fun k q1 q2 => by omega,fun k hk => .inl (g0 k hk),fun k hk => by rw [g0 k hk]; decide,fun a k hA hk h0 => by rw [g0 a hA] at h0; omega⟩
  ·subst e
   have hff : Has m (f:Int) := ⟨by omega,by omega⟩
   have hlo : f < o.length := by rw [h1.len]; exact hf
   by_cases hg : gp o (f:Int) ≥ 0
   ·have hg' : o.getD f 0 ≥ 0 := hg
    constructor
    ·unfold eparts_l0_pre
     dsimp only [letP]
     intro _
     rw [Int.toNat_natCast]
     exact ⟨⟨by omega,by omega⟩,hlo,hlo,fun q => absurd hg' q⟩
    ·refine .inl ?_
     unfold eparts_l0_step
     dsimp only [letV]
     rw [if_pos (by omega),Int.toNat_natCast,if_pos hg',cnt (n := 500) (by omega) (by omega)]
     refine ⟨_,rfl,o,rfl,h1.len,fun k q1 q2 => ?_,h1.val,fun k hk => by have := h1.lt k hk; omega,h1.adj⟩
     by_cases hkf : k = f
     ·rw [hkf]; exact hg
     ·exact h1.low k q1 (by omega)
   ·have hg' : ¬ o.getD f 0 ≥ 0 := hg
    have hW := h1.start hff (by omega)
    have hnl : negs (o.set f f) ≤ (o.set f (f:Int)).length := List.countP_le_length
    rw [List.length_set,h1.len] at hnl
    have hns := negs_set (i := (f:Int)) (v := (f:Int)) (by omega) (by omega : ((f:Int)) < (o.length:Int)) (by omega) (by omega)
    have hno : negs o ≤ o.length := List.countP_le_length
    have hmid := parts_mid m hn (f:Int) (m.2.2.2.length:Int) (f:Int) _ _ hW (by rw [List.length_singleton]; rw [h1.len] at hno; omega)
    rw [Int.toNat_natCast] at hmid
    constructor
    ·unfold eparts_l0_pre
     dsimp only [letP]
     intro _
     rw [Int.toNat_natCast]
     exact ⟨⟨by omega,by omega⟩,hlo,hlo,fun _ => ⟨⟨by omega,by omega⟩,hlo,hlo,hmid.1⟩⟩
    ·refine .inl ?_
     unfold eparts_l0_step
     dsimp only [letV]
     rw [if_pos (by omega),Int.toNat_natCast,if_neg hg']
     obtain ⟨o',g1,g2⟩ := hmid.2
     rw [g1]
     dsimp only
     rw [cnt (n := 500) (by omega) (by omega)]
     exact ⟨_,rfl,o',rfl,by have := g2.done; rwa [show (f:Int) + 1 = ((f + 1:Nat):Int) by omega] at this⟩
  ·subst e
   constructor
   ·unfold eparts_l0_pre
    dsimp only
    intro h; omega
   ·unfold eparts_l0_step
    dsimp only
    rw [if_neg (by omega)]
    have hp : ∀ k,Has m k → 0 ≤ gp o k := fun k hk => h1.low k hk.1 hk.2
    refine ⟨_,rfl,h1.len,fun k hk => ?_,fun a k hA hk => h1.adj a k hA hk (hp a hA)⟩
    rcases h1.val k hk with q | q
    ·have := hp k hk; omega
    ·exact q
 have e0 : eparts m = (run (eparts_l0_step m) (etable m,(List.replicate m.2.2.2.length (-1:Int),((m.2.2.2.length:Int),0))),0) := by
  unfold eparts
  dsimp only [letV]
  rw [(meshis_law m).2,hm,if_neg (by decide),r2,hl]
 rw [e0]
 refine ⟨?_,rfl,key.2⟩
 unfold eparts_pre
 dsimp only [letP]
 refine ⟨(meshis_law m).1,fun _ => ⟨(etable_law m hn).1,r1,?_⟩⟩
 rw [r2,hl]
 exact key.1
theorem eparts_bad {m : Msh} (hm : meshB m = false) : eparts_pre m ∧ eparts m = ([],1) := by
 constructor
 ·unfold eparts_pre
  dsimp only [letP]
  refine ⟨(meshis_law m).1,fun h => ?_⟩
  rw [(meshis_law m).2,hm] at h; exact absurd rfl h
 ·unfold eparts
  dsimp only [letV]
  rw [(meshis_law m).2,hm,if_pos (by decide)]
theorem Parts.cn {m : Msh} {p : List Int} (h : Parts m p) {i k : Int} (hc : Cn m i k) : gp p i = gp p k := by
 induction hc with
 | refl => rfl
 | step _ h1 h2 ih => rw [ih,h.adj _ _ h1 h2]
end Go.Proofs.Ytleemdeodmdnkaa
