/- Plain laws: a mesh's edges. -/
import Derived.Test.YtleemdeodmdnkaaPs
import Derived.Test.YtleemdeodmdnkaaEd
noncomputable section
set_option linter.unusedSectionVars false
set_option linter.unusedVariables false
set_option linter.unusedSimpArgs false
namespace Go.Proofs.Ytleemdeodmdnkaa
open Go Go.Ev Go.Proofs
def Tris (m : Msh) (p : P2) : List Int := ((List.range m.2.2.2.length).filter fun i : Nat => decide (p ∈ Prs (Trg m (i:Int)))).map fun i : Nat => (i:Int)
theorem tris_lt (m : Msh) (p : P2) : (Tris m p).Pairwise (· < ·) := by
 unfold Tris
 rw [List.pairwise_map]
 refine List.Pairwise.imp (fun {a b} (h : a < b) => ?_) (List.pairwise_lt_range.filter _)
 omega
theorem tris_mem {m : Msh} {p : P2} {k : Int} : k ∈ Tris m p ↔ Has m k ∧ p ∈ Prs (Trg m k) := by
 unfold Tris
 rw [List.mem_map]
 constructor
 ·rintro ⟨i,hi,rfl⟩
  obtain ⟨h1,h2⟩ := List.mem_filter.1 hi
  have h1 := List.mem_range.1 h1
  exact ⟨⟨by omega,by omega⟩,of_decide_eq_true h2⟩
 ·rintro ⟨⟨h1,h2⟩,h3⟩
  have e : ((k.toNat:Nat):Int) = k := by omega
  refine ⟨k.toNat,List.mem_filter.2 ⟨List.mem_range.2 (by omega),?_⟩,e⟩
  rw [e]; exact decide_eq_true h3
theorem lk_tris {m : Msh} (hn : m.2.2.2.length ≤ 500) (p : P2) : lk (etable m) p = Tris m p := by
 obtain ⟨_,_,h3,h4⟩ := etable_law4 m hn
 refine ext_lt ?_ (tris_lt m p) fun k => ?_
 ·by_cases h0 : lk (etable m) p = []
  ·rw [h0]; exact List.Pairwise.nil
  ·exact (h4.2 _ (lk_mem h0)).2.1
 ·rw [h3 p k,tris_mem]
  constructor
  ·rintro (⟨a,a1,rfl,a2⟩ | ⟨_,h⟩)
   ·exact ⟨⟨by omega,by omega⟩,a2⟩
   ·simp at h
  ·rintro ⟨⟨h1,h2⟩,h⟩
   have e : ((k.toNat:Nat):Int) = k := by omega
   exact .inl ⟨k.toNat,by omega,e.symm,by rw [e]; exact h⟩
theorem sub_len {α : Type} [DecidableEq α] : ∀ {a b : List α},a.Nodup → (∀ x ∈ a,x ∈ b) → a.length ≤ b.length
 | [],b,_,_ => Nat.zero_le _
 | x :: r,b,hn,h => by
  rw [List.nodup_cons] at hn
  have h1 := sub_len (a := r) (b := b.erase x) hn.2 fun y hy => by
   have hne : y ≠ x := fun e => hn.1 (by rw [← e]; exact hy)
   exact (List.mem_erase_of_ne hne).2 (h y (List.mem_cons_of_mem _ hy))
  have hx := h x List.mem_cons_self
  rw [List.length_erase_of_mem hx] at h1
  have := List.length_pos_of_mem hx
  rw [List.length_cons]; omega
theorem etable_len {m : Msh} (hn : m.2.2.2.length ≤ 500) : (etable m).length ≤ 1500 := by
 obtain ⟨_,_,h3,h4⟩ := etable_law4 m hn
 have h := sub_len (b := (List.range m.2.2.2.length).flatMap fun i : Nat => Prs (Trg m (i:Int))) h4.1 fun p hp => by
  obtain ⟨e,he,rfl⟩ := List.mem_map.1 hp
  obtain ⟨k,hk⟩ := List.exists_mem_of_ne_nil _ (h4.2 e he).1
  rw [← mem_lk h4.1 he] at hk
  rw [lk_tris hn,tris_mem] at hk
  have e : ((k.toNat:Nat):Int) = k := by have := hk.1.1; omega
  exact List.mem_flatMap.2 ⟨k.toNat,List.mem_range.2 (by have := hk.1.2; have := hk.1.1; omega),by rw [e]; exact hk.2⟩
 rw [List.length_map] at h
 have h5 : ∀ l : List Nat,(l.flatMap fun i : Nat => Prs (Trg m (i:Int))).length ≤ 3 * l.length := fun l => by
  induction l with
  | nil => simp
  | cons a r ih =>
   rw [List.flatMap_cons,List.length_append,List.length_cons]
   have := prs_len (Trg m (a:Int))
   omega
 have h6 := h5 (List.range m.2.2.2.length)
 rw [List.length_range] at h6
 omega
def SE (l : List EdgeV) : Prop := l.Pairwise fun x y => ltE x y = true
theorem sortE_lt {a : List EdgeV} (hn : (a.map ekey).Nodup) : SE (sortE a) := by
 have nt : ∀ x y : EdgeV,(!ltE y x) = true ↔ ¬ (y.1 < x.1 ∨ (y.1 = x.1 ∧ y.2.1 < x.2.1)) := fun x y => by
  rw [← ltE_iff]; cases ltE y x <;> simp
 have tot : ∀ x y : EdgeV,(!ltE y x) = true ∨ (!ltE x y) = true := fun x y => by
  rw [nt,nt]; omega
 have tr : ∀ x y z : EdgeV,(!ltE y x) = true → (!ltE z y) = true → (!ltE z x) = true := fun x y z => by
  rw [nt,nt,nt]; omega
 have s1 : (sortE a).Pairwise fun x y => (!ltE y x) = true := List.pairwise_mergeSort (le := fun x y => !ltE y x) (fun x y z => tr x y z) (fun x y => by rcases tot x y with h | h <;> simp [h]) a
 have h2 : ((sortE a).map ekey).Nodup := (((List.mergeSort_perm a _).map ekey).nodup_iff).2 hn
 have h3 : (sortE a).Pairwise fun x y => ekey x ≠ ekey y := List.pairwise_map.1 h2
 refine (s1.and h3).imp fun {x y} h => ?_
 obtain ⟨h4,h5⟩ := h
 rw [nt] at h4
 rw [ltE_iff]
 have h6 : ¬ (x.1 = y.1 ∧ x.2.1 = y.2.1) := fun q => h5 (by unfold ekey; rw [q.1,q.2])
 omega
theorem ext_SE {a b : List EdgeV} (ha : SE a) (hb : SE b) (h : ∀ k,k ∈ a ↔ k ∈ b) : a = b := by
 have ir : ∀ x : EdgeV,ltE x x = true → False := fun x h => by rw [ltE_iff] at h; omega
 have na : a.Nodup := List.Pairwise.imp (fun {x y} (h : ltE x y = true) => fun e : x = y => ir x (by rw [← e] at h; exact h)) ha
 have nb : b.Nodup := List.Pairwise.imp (fun {x y} (h : ltE x y = true) => fun e : x = y => ir x (by rw [← e] at h; exact h)) hb
 refine ((List.perm_ext_iff_of_nodup na nb).2 h).eq_of_pairwise (le := fun x y => ltE x y = true) (fun x y _ _ h1 h2 => ?_) ha hb
 rw [ltE_iff] at h1 h2
 omega
def EdOf (m : Msh) (l : List EdgeV) : Prop := SE l ∧ ∀ e,e ∈ l ↔ e.2.2 = Tris m (e.1,e.2.1) ∧ e.2.2 ≠ []
theorem EdOf.eq {m : Msh} {a b : List EdgeV} (ha : EdOf m a) (hb : EdOf m b) : a = b := ext_SE ha.1 hb.1 fun k => (ha.2 k).trans (hb.2 k).symm
theorem eedges_law {m : Msh} (hm : meshB m = true) : eedges_pre m ∧ (eedges m).2 = 0 ∧ EdOf m (eedges m).1 ∧ (eedges m).1.length ≤ 1500 := by
 have hn := (mesh_len hm).2.2.2
 obtain ⟨h1,_,h3,h4⟩ := etable_law4 m hn
 have hl := etable_len hn
 have e0 : eedges m = (sortE ((etable m).map toE),0) := by
  unfold eedges
  rw [(meshis_law m).2,hm,if_pos rfl]
 rw [e0]
 refine ⟨⟨(meshis_law m).1,fun _ => ⟨h1,by omega,h4.1⟩⟩,rfl,⟨sortE_lt (by rw [ekey_toE]; exact h4.1),fun e => ?_⟩,?_⟩
 ·show e ∈ sortE _ ↔ _
  unfold sortE
  rw [List.mem_mergeSort,List.mem_map]
  constructor
  ·rintro ⟨p,hp,rfl⟩
   refine ⟨?_,(h4.2 p hp).1⟩
   show p.2 = Tris m p.1
   rw [← lk_tris hn,mem_lk h4.1 hp]
  ·rintro ⟨q1,q2⟩
   refine ⟨((e.1,e.2.1),e.2.2),?_,rfl⟩
   rw [← lk_tris hn] at q1
   rw [q1] at q2
   have := lk_mem q2
   rw [← q1] at this
   exact this
 ·show (sortE _).length ≤ _
  unfold sortE
  rw [List.length_mergeSort,List.length_map]; exact hl
theorem eedges_bad {m : Msh} (hm : meshB m = false) : eedges_pre m ∧ eedges m = ([],1) := by
 constructor
 ·refine ⟨(meshis_law m).1,fun h => ?_⟩
  rw [(meshis_law m).2,hm] at h; cases h
 ·unfold eedges
  rw [(meshis_law m).2,hm,if_neg (by decide)]
end Go.Proofs.Ytleemdeodmdnkaa

namespace Go.Proofs.Ytleemdeodmdnkaa
open Go Go.Ev Go.Proofs
theorem wrap64 {n : Int} (h1 : 0 ≤ n) (h2 : n < 18446744073709551616) : IntKind.wrap IntKind.u64 n = n := by
 unfold IntKind.wrap
 simp [IntKind.bits,IntKind.signed]
 omega
theorem low32 {n : Nat} (h : n < 4294967296) : (BitVec.toNat ((BitVec.ofInt 64 (n:Int)) &&& (BitVec.ofInt 64 (4294967295:Int)))) = n := by
 have e1 : (BitVec.ofInt 64 (n:Int)).toNat = n := by
  rw [BitVec.toNat_ofInt]; omega
 have e2 : (BitVec.ofInt 64 (4294967295:Int)).toNat = 2 ^ 32 - 1 := by decide
 rw [BitVec.toNat_and,e1,e2,Nat.and_two_pow_sub_one_eq_mod]
 omega
theorem bmul_law {n : Nat} (h : n < 4294967296) : bmulM (1,(n:Int)) = (0,(n:Int)) := by
 have f1 : Int.fdiv 1 4294967296 = 0 := by decide
 have f2 : Int.fdiv (n:Int) 4294967296 = 0 := by rw [Int.fdiv_eq_ediv_of_nonneg _ (by decide)]; omega
 have l1 : (BitVec.toNat ((BitVec.ofInt 64 (1:Int)) &&& (BitVec.ofInt 64 (4294967295:Int)))) = 1 := low32 (n := 1) (by decide)
 have w0 : IntKind.wrap IntKind.u64 0 = 0 := wrap64 (by decide) (by decide)
 have w1' : IntKind.wrap IntKind.u64 1 = 1 := wrap64 (by decide) (by decide)
 have wn : IntKind.wrap IntKind.u64 (n:Int) = (n:Int) := wrap64 (by omega) (by omega)
 have z : (BitVec.toNat ((BitVec.ofInt 64 (0:Int)) &&& (BitVec.ofInt 64 (4294967295:Int)))) = 0 := low32 (n := 0) (by decide)
 unfold bmulM mul64M letV
 dsimp only
 simp only [f1,f2,low32 h,l1,Int.zero_mul,Int.mul_zero,Int.one_mul,Int.zero_add,Int.add_zero,w0,wn,z,Int.natCast_zero,Int.natCast_one,w1',show Int.fdiv 0 4294967296 = 0 from by decide]
def rep (c m:Nat) (i:Int) : List Int := List.replicate c i ++ List.replicate (m - c) 0
theorem rep_len {c m : Nat} (h : c ≤ m) (i:Int) : (rep c m i).length = m := by simp only [rep,List.length_append,List.length_replicate]; omega
theorem rep_copy {c m : Nat} (h : c ≤ m) (i:Int) : copyL (rep c m i) c (m - c) ((rep c m i).take c) = rep (c + min c (m - c)) m i ∧ copyN (m - c) ((rep c m i).take c).length = min c (m - c) := by
 have e1 : (rep c m i).take c = List.replicate c i := by simp [rep]
 have e2 : copyN (m - c) (List.replicate c i).length = min c (m - c) := by unfold copyN; rw [List.length_replicate]
 rw [e1,e2]
 refine ⟨?_,rfl⟩
 unfold copyL
 rw [e1,e2]
 unfold rep
 rw [List.take_replicate,show min (min c (m - c)) c = min c (m - c) by omega,List.replicate_append_replicate,List.drop_append,List.length_replicate,List.drop_replicate,List.drop_replicate,show c - (c + min c (m - c)) = 0 by omega]
 simp only [List.replicate_zero,List.nil_append]
 rw [show m - c - (c + min c (m - c) - c) = m - (c + min c (m - c)) by omega]
theorem repeat_loop (x : List Int × Int) (i:Int) (m:Nat) (hm : m ≤ 1000000000) : ∀ k c,c + k = m → (0 < c ∨ k = 0) → TR (repeatM_l0_step x) (repeatM_l0_pre x) (rep c m i,(c:Int)) fun r => r = List.replicate m i := by
 intro k
 induction k using Nat.strongRecOn with
 | ind k ih =>
  intro c hc h0
  have hl := rep_len (c := c) (m := m) (by omega) i
  by_cases hk : k = 0
  ·subst hk
   have : c = m := by omega
   subst this
   refine TR.stop (r := rep c c i) ?_ ?_ (by simp [rep])
   ·unfold repeatM_l0_pre
    intro q
    dsimp only at q; rw [hl] at q; omega
   ·unfold repeatM_l0_step
    dsimp only
    rw [hl,if_neg (by omega)]
  ·obtain ⟨q1,q2⟩ := rep_copy (c := c) (m := m) (by omega) i
   refine TR.go (s' := (rep (c + min c (m - c)) m i,((c + min c (m - c):Nat):Int))) ?_ ?_ (ih (k - min c (m - c)) (by omega) _ (by omega) (by omega))
   ·unfold repeatM_l0_pre
    intro _
    dsimp only
    rw [hl]; omega
   ·unfold repeatM_l0_step letV
    dsimp only
    rw [hl,if_pos (by omega),Int.toNat_natCast,Nat.add_zero,q1,q2,w64_id (by omega) (by omega)]
    congr 2
theorem repeat_law (i:Int) {n : Nat} (hn : n ≤ 1000000000) : repeatM_pre ([i],(n:Int)) ∧ repeatM ([i],(n:Int)) = List.replicate n i := by
 have e1 : IntKind.wrap IntKind.u64 ((([i] : List Int).length:Nat):Int) = 1 := wrap64 (by simp) (by simp)
 have e2 : IntKind.wrap IntKind.u64 ((n:Nat):Int) = (n:Int) := wrap64 (by omega) (by omega)
 have e3 : w64 ((n:Nat):Int) = (n:Int) := w64_id (by omega) (by omega)
 have e4 : copyL (List.replicate n (0:Int)) 0 n [i] = rep (min 1 n) n i ∧ copyN n 1 = min 1 n := by
  refine ⟨?_,rfl⟩
  unfold copyL
  show _ ++ List.take (min 1 n) [i] ++ List.drop (0 + min 1 n) _ = _
  cases n with
  | zero => rfl
  | succ n => simp [rep,show min 1 (n + 1) = 1 by omega]
 have key := repeat_loop ([i],(n:Int)) i n hn (n - min 1 n) (min 1 n) (by omega) (by omega)
 unfold repeatM_pre repeatM letP letV
 dsimp only
 rw [e1,e2,bmul_law (by omega)]
 dsimp only
 rw [e3,Int.toNat_natCast,List.length_replicate]
 simp only [List.length_cons,List.length_nil,Nat.zero_add]
 rw [e4.1,e4.2]
 refine ⟨⟨fun q => absurd q (by omega),fun _ => ⟨fun q => absurd q (by omega),fun _ => ⟨fun q => absurd q (by omega),fun _ => ⟨⟨⟨by omega,by omega⟩,by omega⟩,key.1⟩⟩⟩⟩,?_⟩
 rw [if_neg (by omega),if_neg (by omega),if_neg (by omega)]
 exact key.2
end Go.Proofs.Ytleemdeodmdnkaa
