/- Plain laws: what is built is right. -/
import Derived.Test.YtaipcbdilkcdbaaVd
import Derived.Test.YtaipcbdilkcdbaaUc
noncomputable section
set_option linter.unusedSectionVars false
set_option linter.unusedVariables false
set_option linter.unusedSimpArgs false
namespace Go.Proofs.Ytaipcbdilkcdbaa
open Go Go.Ev Go.Proofs
theorem wrap64 {n : Int} (h1 : 0 ≤ n) (h2 : n < 18446744073709551616) : IntKind.wrap IntKind.u64 n = n := by
 unfold IntKind.wrap
 simp [IntKind.bits,IntKind.signed]
 omega
theorem low32 {n : Nat} (h : n < 4294967296) : (BitVec.toNat ((BitVec.ofInt 64 (n:Int)) &&& (BitVec.ofInt 64 (4294967295:Int)))) = n := by
 have e1 : (BitVec.ofInt 64 (n:Int)).toNat = n := by
  rw [BitVec.toNat_ofInt]; omega
 have e2 : (BitVec.ofInt 64 (4294967295:Int)).toNat = 2 ^ 32 - 1 := by decide
 rw [BitVec.toNat_and,e1,e2,Nat.and_two_pow_sub_one_eq_mod]
 omega
theorem bmul_law {n : Nat} (h : n < 4294967296) : bmulM (1,(n:Int)) = (0,(n:Int)) := by
 have f1 : Int.fdiv 1 4294967296 = 0 := by decide
 have f2 : Int.fdiv (n:Int) 4294967296 = 0 := by rw [Int.fdiv_eq_ediv_of_nonneg _ (by decide)]; omega
 have l1 : (BitVec.toNat ((BitVec.ofInt 64 (1:Int)) &&& (BitVec.ofInt 64 (4294967295:Int)))) = 1 := low32 (n := 1) (by decide)
 have w0 : IntKind.wrap IntKind.u64 0 = 0 := wrap64 (by decide) (by decide)
 have w1' : IntKind.wrap IntKind.u64 1 = 1 := wrap64 (by decide) (by decide)
 have wn : IntKind.wrap IntKind.u64 (n:Int) = (n:Int) := wrap64 (by omega) (by omega)
 have z : (BitVec.toNat ((BitVec.ofInt 64 (0:Int)) &&& (BitVec.ofInt 64 (4294967295:Int)))) = 0 := low32 (n := 0) (by decide)
 unfold bmulM mul64M letV
 dsimp only
 simp only [f1,f2,low32 h,l1,Int.zero_mul,Int.mul_zero,Int.one_mul,Int.zero_add,Int.add_zero,w0,wn,z,Int.natCast_zero,Int.natCast_one,w1',show Int.fdiv 0 4294967296 = 0 from by decide]
def rep (c m:Nat) (i:Int) : List Int := List.replicate c i ++ List.replicate (m - c) 0
theorem rep_len {c m : Nat} (h : c ≤ m) (i:Int) : (rep c m i).length = m := by simp only [rep,List.length_append,List.length_replicate]; omega
theorem rep_copy {c m : Nat} (h : c ≤ m) (i:Int) : copyL (rep c m i) c (m - c) ((rep c m i).take c) = rep (c + min c (m - c)) m i ∧ copyN (m - c) ((rep c m i).take c).length = min c (m - c) := by
 have e1 : (rep c m i).take c = List.replicate c i := by simp [rep]
 have e2 : copyN (m - c) (List.replicate c i).length = min c (m - c) := by unfold copyN; rw [List.length_replicate]
 rw [e1,e2]
 refine ⟨?_,rfl⟩
 unfold copyL
 rw [e1,e2]
 unfold rep
 rw [List.take_replicate,show min (min c (m - c)) c = min c (m - c) by omega,List.replicate_append_replicate,List.drop_append,List.length_replicate,List.drop_replicate,List.drop_replicate,show c - (c + min c (m - c)) = 0 by omega]
 simp only [List.replicate_zero,List.nil_append]
 rw [show m - c - (c + min c (m - c) - c) = m - (c + min c (m - c)) by omega]
theorem repeat_loop (x : List Int × Int) (i:Int) (m:Nat) (hm : m ≤ 1000000000) : ∀ k c,c + k = m → (0 < c ∨ k = 0) → TR (repeatM_l0_step x) (repeatM_l0_pre x) (rep c m i,(c:Int)) fun r => r = List.replicate m i := by
 intro k
 induction k using Nat.strongRecOn with
 | ind k ih =>
  intro c hc h0
  have hl := rep_len (c := c) (m := m) (by omega) i
  by_cases hk : k = 0
  ·subst hk
   have : c = m := by omega
   subst this
   refine TR.stop (r := rep c c i) ?_ ?_ (by simp [rep])
   ·unfold repeatM_l0_pre
    intro q
    dsimp only at q; rw [hl] at q; omega
   ·unfold repeatM_l0_step
    dsimp only
    rw [hl,if_neg (by omega)]
  ·obtain ⟨q1,q2⟩ := rep_copy (c := c) (m := m) (by omega) i
   refine TR.go (s' := (rep (c + min c (m - c)) m i,((c + min c (m - c):Nat):Int))) ?_ ?_ (ih (k - min c (m - c)) (by omega) _ (by omega) (by omega))
   ·unfold repeatM_l0_pre
    intro _
    dsimp only
    rw [hl]; omega
   ·unfold repeatM_l0_step letV
    dsimp only
    rw [hl,if_pos (by omega),Int.toNat_natCast,Nat.add_zero,q1,q2,w64_id (by omega) (by omega)]
    congr 2
theorem repeat_law (i:Int) {n : Nat} (hn : n ≤ 1000000000) : repeatM_pre ([i],(n:Int)) ∧ repeatM ([i],(n:Int)) = List.replicate n i := by
 have e1 : IntKind.wrap IntKind.u64 ((([i] : List Int).length:Nat):Int) = 1 := wrap64 (by simp) (by simp)
 have e2 : IntKind.wrap IntKind.u64 ((n:Nat):Int) = (n:Int) := wrap64 (by omega) (by omega)
 have e3 : w64 ((n:Nat):Int) = (n:Int) := w64_id (by omega) (by omega)
 have e4 : copyL (List.replicate n (0:Int)) 0 n [i] = rep (min 1 n) n i ∧ copyN n 1 = min 1 n := by
  refine ⟨?_,rfl⟩
  unfold copyL
  show _ ++ List.take (min 1 n) [i] ++ List.drop (0 + min 1 n) _ = _
  cases n with
  | zero => rfl
  | succ n => simp [rep,show min 1 (n + 1) = 1 by omega]
 have key := repeat_loop ([i],(n:Int)) i n hn (n - min 1 n) (min 1 n) (by omega) (by omega)
 unfold repeatM_pre repeatM letP letV
 dsimp only
 rw [e1,e2,bmul_law (by omega)]
 dsimp only
 rw [e3,Int.toNat_natCast,List.length_replicate]
 simp only [List.length_cons,List.length_nil,Nat.zero_add]
 rw [e4.1,e4.2]
 refine ⟨⟨fun q => absurd q (by omega),fun _ => ⟨fun q => absurd q (by omega),fun _ => ⟨fun q => absurd q (by omega),fun _ => ⟨⟨⟨by omega,by omega⟩,by omega⟩,key.1⟩⟩⟩⟩,?_⟩
 rw [if_neg (by omega),if_neg (by omega),if_neg (by omega)]
 exact key.2
theorem index_law (l : List Int) (hl : l.length < 4611686018427387904) (t:Int) : indexN_pre (l,t) ∧ indexN (l,t) = match l.findIdx? (fun x => t == x) with | some i => (i:Int) | none => -1 :=
 index_loop l hl (fun x => t == x) (indexN_l0_step (l,t)) (indexN_l0_pre (l,t)) (fun i hi => by
   unfold indexN_l0_pre
   intro h
   simp only [Int.toNat_natCast]
   dsimp only at h ⊢; omega) (fun i x hx => by
   have hlt := lt_of_get hx
   unfold indexN_l0_step
   rw [if_pos (by dsimp only; omega),Int.toNat_natCast]
   dsimp only
   rw [getD_of hx]) (by
   unfold indexN_l0_step
   rw [if_neg (by dsimp only; omega)])
theorem containsN_law (l : List Int) (hl : l.length < 4611686018427387904) (t:Int) : containsN_pre (l,t) ∧ (containsN (l,t) = true ↔ t ∈ l) := by
 obtain ⟨h1,h2⟩ := index_law l hl t
 refine ⟨h1,?_⟩
 unfold containsN letV
 rw [h2]
 refine (iff_of_eq (congrArg (fun b : Bool => b = true) (find_any l (fun x => t == x)))).trans ?_
 rw [List.any_eq_true]
 constructor
 ·rintro ⟨x,hx,e⟩
  have : t = x := by simpa using e
  rw [this]; exact hx
 ·intro h
  exact ⟨t,h,by simp⟩
theorem containsB_law (l : List Bool) (hl : l.length < 4611686018427387904) (t : Bool) : containsB_pre (l,t) ∧ (containsB (l,t) = true ↔ t ∈ l) := by
 have h := index_loop l hl (fun x => t == x) (indexB_l0_step (l,t)) (indexB_l0_pre (l,t)) (fun i hi => by
   unfold indexB_l0_pre
   intro h
   simp only [Int.toNat_natCast]
   dsimp only at h ⊢; omega) (fun i x hx => by
   have hlt := lt_of_get hx
   unfold indexB_l0_step
   rw [if_pos (by dsimp only; omega),Int.toNat_natCast]
   dsimp only
   rw [getD_of hx]) (by
   unfold indexB_l0_step
   rw [if_neg (by dsimp only; omega)])
 refine ⟨h.1,?_⟩
 have e : indexB (l,t) = _ := h.2
 unfold containsB letV
 rw [e]
 refine (iff_of_eq (congrArg (fun b : Bool => b = true) (find_any l (fun x => t == x)))).trans ?_
 rw [List.any_eq_true]
 constructor
 ·rintro ⟨x,hx,e⟩
  have : t = x := by simpa using e
  rw [this]; exact hx
 ·intro h
  exact ⟨t,h,by simp⟩
theorem leafN_law (b : Brn) (i:Int) : leafN (b,i) = true ↔ b.2.1 = 0 ∧ b.2.2.1 = 0 := by
 unfold leafN
 dsimp only
 by_cases h : b.2.1 = 0
 ·rw [if_pos (by simpa using h)]; simp [h]
 ·rw [if_neg (by simpa using h)]; simp [h]
theorem set_get {α : Type} (l : List α) (i k:Nat) (x d : α) (h : i < l.length) : (l.set i x).getD k d = if i = k then x else l.getD k d := by
 rw [List.getD_eq_getElem?_getD,List.getElem?_set,List.getD_eq_getElem?_getD]
 by_cases e : i = k
 ·rw [if_pos e,if_pos e,if_pos (by omega)]; rfl
 ·rw [if_neg e,if_neg e]
section
variable {L : List T3} {pl : List Int} {G : List Brn} {N : List (List Int)} {U : List Int} (h : Facts L 0 (-1) pl G N U)
include h
theorem Facts.up0 {k : Nat} (h1 : 0 < k) (h2 : k < G.length) : ∃ j,j < k ∧ U.getD k 0 = (j:Int) ∧ (∀ i ∈ N.getD k [],i ∈ N.getD j []) ∧ ((G.getD j zB).2.1 = (k:Int) ∨ (G.getD j zB).2.2.1 = (k:Int)) := by
 obtain ⟨j,a,b,c,d⟩ := h.up k h1 h2
 exact ⟨j,a,by rw [b]; omega,c,d.imp (fun d => by rw [d]; omega) fun d => by rw [d]; omega⟩
theorem Facts.kind0 {k : Nat} (h2 : k < G.length) : ((G.getD k zB).2.1 = 0 ∧ (G.getD k zB).2.2.1 = 0 ∧ (G.getD k zB).2.2.2 = N.getD k [] ∧ (N.getD k []).length ≤ 2) ∨
  (∃ r : Nat,(G.getD k zB).2.1 = ((k + 1:Nat):Int) ∧ (G.getD k zB).2.2.1 = (r:Int) ∧ k + 1 < r ∧ r < G.length ∧ (G.getD k zB).2.2.2 = [] ∧ U.getD (k + 1) 0 = (k:Int) ∧ U.getD r 0 = (k:Int) ∧ (N.getD (k + 1) [] ++ N.getD r []).Perm (N.getD k []) ∧ 2 < (N.getD k []).length ∧ (N.getD (k + 1) []).length ≤ ((N.getD k []).length + 1) / 2 ∧ (N.getD r []).length ≤ ((N.getD k []).length + 1) / 2) := by
 rcases h.kind k h2 with a | ⟨r,a1,a2,a3,a4,a5,a6,a7,a8⟩
 ·exact .inl a
 ·exact .inr ⟨r,by rw [a1]; omega,by rw [a2]; omega,a3,a4,a5,by rw [a6]; omega,by rw [a7]; omega,a8⟩
theorem parents_loop (hl : G.length < 1099511627776) (up0 : List Int) (hu0 : up0 = List.replicate G.length (-1)) :
  TR (parentsT_l0_step G) (parentsT_l0_pre G) (up0,0) fun r => ∃ up,r = .inr up ∧ up.length = G.length ∧ ∀ k,k < G.length → up.getD k 0 = U.getD k 0 := by
 refine for_loop G.length (fun i s => ∃ up,s = (up,(i:Int)) ∧ up.length = G.length ∧ ∀ k,k < G.length → up.getD k 0 = if 0 < k ∧ U.getD k 0 < (i:Int) then U.getD k 0 else -1) _ (fun i s hi hj => ?_) (fun s hj => ?_) ⟨up0,rfl,by rw [hu0]; simp,fun k hk => ?_⟩
 ·obtain ⟨up,rfl,hlen,hup⟩ := hj
  have hc : w64 (((i:Nat):Int) + 1) = ((i + 1:Nat):Int) := cntI hi (by omega)
  rcases h.kind0 hi with ⟨a1,a2,a3,a4⟩ | ⟨r,a1,a2,a3,a4,a5,a6,a7,a8⟩
  ·have hleaf : leafN (G.getD i zB,(i:Int)) = true := (leafN_law _ _).2 ⟨a1,a2⟩
   refine ⟨?_,.inl ⟨_,?_,up,rfl,hlen,fun k hk => ?_⟩⟩
   ·unfold parentsT_l0_pre letP
    intro _
    dsimp only
    rw [Int.toNat_natCast,show leafN (G.getD i (((0,(0,0)),(0,(0,0))),(0,(0,[]))),(i:Int)) = true from hleaf]
    exact ⟨by omega,hi,hi,fun q => absurd rfl q⟩
   ·unfold parentsT_l0_step letV
    dsimp only
    rw [if_pos (by omega),Int.toNat_natCast,show leafN (G.getD i (((0,(0,0)),(0,(0,0))),(0,(0,[]))),(i:Int)) = true from hleaf,if_pos rfl,hc]
   ·rw [hup k hk]
    by_cases hk0 : 0 < k
    ·obtain ⟨j,j1,j2,_,j4⟩ := h.up0 hk0 hk
     have hji : j ≠ i := by
      rintro rfl
      rw [a1,a2] at j4
      rcases j4 with e | e <;> omega
     rw [j2]
     by_cases c : j < i
     ·rw [if_pos ⟨hk0,by omega⟩,if_pos ⟨hk0,by omega⟩]
     ·rw [if_neg (by omega),if_neg (by omega)]
    ·rw [if_neg (by omega),if_neg (by omega)]
  ·have hleaf : ¬ leafN (G.getD i zB,(i:Int)) = true := fun q => by
    have := ((leafN_law _ _).1 q).1
    rw [a1] at this; omega
   have u1 := hup (i + 1) (by omega)
   have u2 := hup r a4
   rw [a6,if_neg (by omega)] at u1
   rw [a7,if_neg (by omega)] at u2
   have hleaf' : leafN (G.getD i (((0,(0,0)),(0,(0,0))),(0,(0,[]))),(i:Int)) = false := by
    cases e : leafN (G.getD i (((0,(0,0)),(0,(0,0))),(0,(0,[]))),(i:Int)) with
    | false => rfl
    | true => exact absurd e hleaf
   have b1 : (G.getD i ((((0:Int),((0:Int),(0:Int))),((0:Int),((0:Int),(0:Int)))),((0:Int),((0:Int),([] : List Int))))).2.1 = ((i + 1:Nat):Int) := a1
   have b2 : (G.getD i ((((0:Int),((0:Int),(0:Int))),((0:Int),((0:Int),(0:Int)))),((0:Int),((0:Int),([] : List Int))))).2.2.1 = (r:Int) := a2
   have b5 : (G.getD i ((((0:Int),((0:Int),(0:Int))),((0:Int),((0:Int),(0:Int)))),((0:Int),((0:Int),([] : List Int))))).2.2.2 = [] := a5
   have hls : (up.set (i + 1) (i:Int)).length = up.length := List.length_set
   refine ⟨?_,.inl ⟨((up.set (i + 1) (i:Int)).set r (i:Int),((i + 1:Nat):Int)),?_,_,rfl,by simp [hlen],fun k hk => ?_⟩⟩
   ·unfold parentsT_l0_pre letP
    intro _
    dsimp only
    rw [Int.toNat_natCast,hleaf',b1,b2,b5,Int.toNat_natCast,Int.toNat_natCast]
    exact ⟨by omega,hi,hi,fun _ _ _ _ _ => ⟨by omega,by omega,by omega,fun _ => ⟨by omega,by omega,by omega,fun _ => ⟨by omega,by omega,by omega,by omega,by omega,by omega⟩⟩⟩⟩
   ·unfold parentsT_l0_step letV
    dsimp only
    rw [if_pos (by omega),Int.toNat_natCast,hleaf',b1,b2,b5,hc,Int.toNat_natCast,Int.toNat_natCast,u1,u2,if_neg (by decide),if_neg (by decide),if_neg (by simp),if_neg (by omega),if_neg (by omega),if_neg (by decide),if_neg (by decide)]
   ·rw [set_get _ _ _ _ _ (by omega),set_get _ _ _ _ _ (by omega),hup k hk]
    by_cases e2 : r = k
    ·subst e2
     rw [if_pos rfl,a7,if_pos ⟨by omega,by omega⟩]
    ·rw [if_neg e2]
     by_cases e1 : i + 1 = k
     ·subst e1
      rw [if_pos rfl,a6,if_pos ⟨by omega,by omega⟩]
     ·rw [if_neg e1]
      by_cases hk0 : 0 < k
      ·obtain ⟨j,j1,j2,_,j4⟩ := h.up0 hk0 hk
       have hji : j ≠ i := by
        rintro rfl
        rw [a1,a2] at j4
        rcases j4 with e | e <;> omega
       rw [j2]
       by_cases c : j < i
       ·rw [if_pos ⟨hk0,by omega⟩,if_pos ⟨hk0,by omega⟩]
       ·rw [if_neg (by omega),if_neg (by omega)]
      ·rw [if_neg (by omega),if_neg (by omega)]
 ·obtain ⟨up,rfl,hlen,hup⟩ := hj
  refine ⟨?_,.inr up,?_,up,rfl,hlen,fun k hk => ?_⟩
  ·unfold parentsT_l0_pre
   intro q
   dsimp only at q; omega
  ·unfold parentsT_l0_step
   dsimp only
   rw [if_neg (by omega)]
  ·rw [hup k hk]
   by_cases hk0 : 0 < k
   ·obtain ⟨j,j1,j2,_,_⟩ := h.up0 hk0 hk
    rw [if_pos ⟨hk0,by omega⟩]
   ·have : k = 0 := by omega
    subst this
    rw [if_neg (by omega),h.u0]
 ·rw [hu0,List.getD_eq_getElem?_getD,List.getElem?_replicate,if_pos hk]
  by_cases hk0 : 0 < k
  ·obtain ⟨j,j1,j2,_,_⟩ := h.up0 hk0 hk
   rw [if_neg (by omega)]; rfl
  ·rw [if_neg (by omega)]; rfl
theorem parents_law (hl : G.length < 1000000) : parentsT_pre G ∧ ∃ up,parentsT G = (up,true) ∧ up.length = G.length ∧ ∀ k,k < G.length → up.getD k 0 = U.getD k 0 := by
 obtain ⟨r1,r2⟩ := repeat_law (-1) (n := G.length) (by omega)
 have key := parents_loop h (by omega) _ rfl
 have hpos := h.pos
 unfold parentsT_pre parentsT letP letV
 rw [r2]
 obtain ⟨up,e,hlen,hup⟩ := key.2
 dsimp only
 rw [e]
 obtain ⟨c1,c2⟩ := containsN_law (up.drop 1) (by rw [List.length_drop]; omega) (-1)
 have hno : containsN (up.drop 1,-1) = false := by
  cases hb : containsN (up.drop 1,-1) with
  | false => rfl
  | true =>
   have := c2.1 hb
   obtain ⟨k,hk,e2⟩ := List.mem_iff_getElem.1 this
   rw [List.length_drop] at hk
   rw [List.getElem_drop] at e2
   obtain ⟨j,_,j2,_,_⟩ := h.up0 (k := 1 + k) (by omega) (by omega)
   have h3 := hup (1 + k) (by omega)
   rw [List.getD_eq_getElem?_getD,List.getElem?_eq_getElem (by omega),Option.getD_some,e2,j2] at h3
   omega
 refine ⟨⟨r1,key.1,fun _ => ⟨by omega,c1⟩⟩,up,?_,hlen,hup⟩
 show (if ((G.length:Nat):Int) > 0 then (up,!containsN (up.drop 1,-1)) else (up,false)) = _
 rw [if_pos (by omega),hno]; rfl
end
end Go.Proofs.Ytaipcbdilkcdbaa
