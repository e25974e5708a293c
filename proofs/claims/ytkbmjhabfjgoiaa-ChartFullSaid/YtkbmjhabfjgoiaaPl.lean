/- Plain laws: ChartFull. -/
import Derived.Test.YtkbmjhabfjgoiaaPk
import Derived.Test.YtkbmjhabfjgoiaaCg
noncomputable section
set_option linter.unusedSectionVars false
set_option linter.unusedVariables false
set_option linter.unusedSimpArgs false
namespace Go.Proofs.Ytkbmjhabfjgoiaa
open Go Go.Ev Go.Proofs
theorem plookn_law {m : Msh} (hm : tameB m = true) (w : P2) (l : List Int) (k:Int) : plookn_pre (k,(m,(w,l))) ∧ (plookn (k,(m,(w,l))) = false ↔ Way m k = (w,true)) := by
 obtain ⟨h1,h2⟩ := plooks_law hm w l k
 unfold plookn_pre plookn
 dsimp only [letV]
 refine ⟨h1,?_⟩
 rw [← h2]
 cases plooks ((m,(w,l)),k) <;> simp
theorem cfits_law {m : Msh} (hm : tameB m = true) {a b : Int} {l : List Int} (hl : l.length ≤ 1000) (hk : ∀ k ∈ l,Way m k = ((a,b),true)) {i : Int} (hi : Has m i) : cfits_pre (m,((a,(b,l)),i)) ∧ (cfits (m,((a,(b,l)),i)) = true ↔ FitsP m (a,b) l i) := by
 obtain ⟨p1,p2⟩ := pfits_law hm (w := (a,b)) hl (fun k h => (way_has (hk k h)).1) hi
 obtain ⟨c1,c2⟩ := containsL_law l (by omega) (m,((a,b),l)) fun k _ => (plookn_law hm (a,b) l k).1
 have c3 : containsL (l,(m,((a,b),l))) = false := by
  rw [c2,List.any_eq_false]
  intro k h
  rw [(plookn_law hm (a,b) l k).2.2 (hk k h)]; decide
 unfold cfits_pre cfits
 dsimp only [letP,letV]
 rw [(tame_law m).2,hm,c3]
 refine ⟨⟨(tame_law m).1,fun _ => ⟨c1,fun _ => p1⟩⟩,?_⟩
 rw [if_neg (by decide),if_pos (by decide)]
 exact p2
theorem fu_in {m : Msh} (hm : tameB m = true) (l : List Chr) (hl : l.length ≤ 1000) {i : Nat} (hi : i < l.length) (hg : Good m (cw (l.getD i zC)) (l.getD i zC).2.2) (hs : (l.getD i zC).2.2.length ≤ 1000) :
  TR (chartFull_l2_step m) (chartFull_l2_pre m) (l,((i:Int),((l.getD i zC).1,((l.getD i zC).2.1,([],0))))) (fun r => r = .inr (l,(i:Int))) := by
 refine for_loop (l.getD i zC).2.2.length (fun n s => s = (l,((i:Int),((l.getD i zC).1,((l.getD i zC).2.1,((l.getD i zC).2.2.take n,(n:Int))))))) _ (fun n s hn e => ?_) (fun s e => ?_) rfl
 ·subst e
  have hf := hg n hn
  obtain ⟨q1,q2⟩ := cfits_law hm (a := (l.getD i zC).1) (b := (l.getD i zC).2.1) (l := (l.getD i zC).2.2.take n) (by rw [List.length_take]; omega) (fun k hk => good_way hg (List.mem_of_mem_take hk)) (way_has hf.way).1
  have q3 : cfits (m,(((l.getD i zC).1,((l.getD i zC).2.1,(l.getD i zC).2.2.take n)),(l.getD i zC).2.2.getD n 0)) = true := q2.2 hf
  have q3' : cfits (m,(((List.getD l i (0,(0,[]))).1,((List.getD l i (0,(0,[]))).2.1,List.take n (List.getD l i (0,(0,[]))).2.2)),List.getD (List.getD l i (0,(0,[]))).2.2 n 0)) = true := q3
  constructor
  ·unfold chartFull_l2_pre
   dsimp only [letP]
   simp only [Int.toNat_natCast]
   refine ⟨rg hi,hi,hi,hi,fun _ => ⟨rg hi,hi,hi,hi,rg hn,hn,hn,q1,fun _ => ⟨rg hi,hi,hi,hi,rg hn,hn,hn,?_⟩⟩⟩
   rw [List.length_take]; omega
  ·refine .inl ?_
   unfold chartFull_l2_step
   dsimp only [letV]
   simp only [Int.toNat_natCast]
   rw [if_pos (rg hn).2]
   simp only [q3']
   rw [if_neg (by decide),cnt (n := 1000) (by omega) (by omega)]
   exact ⟨_,rfl,by rw [take_snoc hn 0]⟩
 ·subst e
  constructor
  ·unfold chartFull_l2_pre
   dsimp only
   simp only [Int.toNat_natCast]
   exact ⟨rg hi,hi,hi,hi,fun h => absurd h (Int.lt_irrefl _)⟩
  ·unfold chartFull_l2_step
   dsimp only
   simp only [Int.toNat_natCast]
   rw [if_neg (Int.lt_irrefl _)]
   exact ⟨_,rfl,rfl⟩
theorem fu_deep {m : Msh} (hm : tameB m = true) (l : List Chr) (hl : l.length ≤ 1000) (hO : ∀ i,i < l.length → Good m (cw (l.getD i zC)) (l.getD i zC).2.2 ∧ (l.getD i zC).2.2.length ≤ 1000) {i n : Nat} (hi : i < l.length) (hn : n < l.length) (hno : ∀ k ∈ (l.getD n zC).2.2,¬ FitsP m (cw (l.getD i zC)) (l.getD i zC).2.2 k) :
  TR (chartFull_l6_step m) (chartFull_l6_pre m) (l,((i:Int),((n:Int),0))) (fun r => r = .inr (l,((i:Int),(n:Int)))) := by
 refine for_loop (l.getD n zC).2.2.length (fun k s => s = (l,((i:Int),((n:Int),(k:Int))))) _ (fun k s hk e => ?_) (fun s e => ?_) rfl
 ·subst e
  have hw := ((hO n hn).1 k hk).way
  have hs := (hO n hn).2
  obtain ⟨q1,q2⟩ := cfits_law hm (a := (l.getD i zC).1) (b := (l.getD i zC).2.1) (l := (l.getD i zC).2.2) (hO i hi).2 (fun k hk => good_way (hO i hi).1 hk) (way_has hw).1
  have q3 : cfits (m,(List.getD l i (0,(0,[])),List.getD (List.getD l n (0,(0,[]))).2.2 k 0)) = false := by
   rw [← Bool.not_eq_true]
   exact fun h => hno _ (getD_in hk 0) (q2.1 h)
  constructor
  ·unfold chartFull_l6_pre
   dsimp only
   simp only [Int.toNat_natCast]
   exact ⟨rg hn,hn,hn,hn,fun _ => ⟨rg hi,hi,hi,rg hn,hn,hn,hn,rg hk,hk,hk,q1⟩⟩
  ·refine .inl ?_
   unfold chartFull_l6_step
   dsimp only [letV]
   simp only [Int.toNat_natCast]
   rw [if_pos (rg hk).2]
   simp only [q3]
   rw [if_neg (by decide),cnt (n := 1000) (by omega) (by omega)]
   exact ⟨_,rfl,rfl⟩
 ·subst e
  constructor
  ·unfold chartFull_l6_pre
   dsimp only
   simp only [Int.toNat_natCast]
   exact ⟨rg hn,hn,hn,hn,fun h => absurd h (Int.lt_irrefl _)⟩
  ·unfold chartFull_l6_step
   dsimp only
   simp only [Int.toNat_natCast]
   rw [if_neg (Int.lt_irrefl _)]
   exact ⟨_,rfl,rfl⟩
theorem fu_mid {m : Msh} (hm : tameB m = true) (l : List Chr) (hl : l.length ≤ 1000) (hO : ∀ i,i < l.length → Good m (cw (l.getD i zC)) (l.getD i zC).2.2 ∧ (l.getD i zC).2.2.length ≤ 1000) {i : Nat} (hi : i < l.length) (hno : ∀ n,i < n → n < l.length → ∀ k ∈ (l.getD n zC).2.2,¬ FitsP m (cw (l.getD i zC)) (l.getD i zC).2.2 k) :
  TR (chartFull_l4_step m) (chartFull_l4_pre m) (l,((i:Int),((i + 1:Nat):Int))) (fun r => r = .inr (l,(i:Int))) := by
 refine for_loop (l.length - (i + 1)) (fun j s => s = (l,((i:Int),((i + 1 + j:Nat):Int)))) _ (fun j s hj e => ?_) (fun s e => ?_) rfl
 ·subst e
  have hd := fu_deep hm l hl hO hi (n := i + 1 + j) (by omega) (hno _ (by omega) (by omega))
  constructor
  ·unfold chartFull_l4_pre
   dsimp only
   intro _; exact hd.1
  ·refine .inl ?_
   unfold chartFull_l4_step
   dsimp only [letV]
   rw [if_pos (by omega),hd.2]
   dsimp only [Sum.elim]
   rw [cnt (n := 1000) (by omega) (by omega)]
   exact ⟨_,rfl,rfl⟩
 ·subst e
  constructor
  ·unfold chartFull_l4_pre
   dsimp only
   intro h; omega
  ·unfold chartFull_l4_step
   dsimp only
   rw [if_neg (by omega)]
   exact ⟨_,rfl,rfl⟩
theorem fu_out {m : Msh} (hm : tameB m = true) (l : List Chr) (h : Okay m l) (hf : l.Pairwise fun c d => ∀ i ∈ d.2.2,¬ FitsP m (cw c) c.2.2 i) : TR (chartFull_l0_step m) (chartFull_l0_pre m) (l,0) (fun r => r = .inr ()) := by
 have hl := h.len
 have hO : ∀ i,i < l.length → Good m (cw (l.getD i zC)) (l.getD i zC).2.2 ∧ (l.getD i zC).2.2.length ≤ 1000 := fun i hi => ⟨(h.good _ (getD_in hi zC)).2,h.small _ (getD_in hi zC)⟩
 have hno : ∀ i n,i < n → n < l.length → ∀ k ∈ (l.getD n zC).2.2,¬ FitsP m (cw (l.getD i zC)) (l.getD i zC).2.2 k := fun i n h1 h2 => by
  have := List.pairwise_iff_getElem.1 hf i n (by omega) h2 h1
  rw [List.getD_eq_getElem?_getD,List.getD_eq_getElem?_getD,List.getElem?_eq_getElem h2,List.getElem?_eq_getElem (show i < l.length by omega)]
  exact this
 refine for_loop l.length (fun i s => s = (l,(i:Int))) _ (fun i s hi e => ?_) (fun s e => ?_) rfl
 ·subst e
  have hin := fu_in hm l hl hi (hO i hi).1 (hO i hi).2
  have hmd := fu_mid hm l hl hO hi (hno i)
  have hc := cnt (n := 1000) (i := i) (by omega) (by omega)
  constructor
  ·unfold chartFull_l0_pre
   intro _
   simp only [Int.toNat_natCast]
   refine ⟨rg hi,hi,hi,hi,rg hi,hi,hi,hi,hin.1,letP_i (cS_r hin.2 ?_)⟩
   rw [hc]; exact hmd.1
  ·refine .inl ?_
   unfold chartFull_l0_step
   dsimp only [letV]
   simp only [Int.toNat_natCast]
   have e1 : run (chartFull_l2_step m) (l,((i:Int),((List.getD l i (0,(0,[]))).1,((List.getD l i (0,(0,[]))).2.1,([],0))))) = .inr (l,(i:Int)) := hin.2
   rw [if_pos (rg hi).2,e1]
   dsimp only [Sum.elim]
   rw [hc,hmd.2]
   dsimp only
   rw [hc]
   exact ⟨_,rfl,rfl⟩
 ·subst e
  constructor
  ·unfold chartFull_l0_pre
   dsimp only
   intro h; omega
  ·unfold chartFull_l0_step
   dsimp only
   rw [if_neg (by omega)]
   exact ⟨_,rfl,rfl⟩
theorem full_law (m : Msh) : chartFull_pre m ∧ chartFull m = true := by
 obtain ⟨f1,f2⟩ := few15_law m
 have g1 := (cgrow_law m).1
 obtain ⟨c1,c2⟩ := charted_law
 rcases tame_cases m with ⟨ht,h1,h2⟩ | ⟨ht,h1,h2⟩
 ·have hA := fu_out ht _ (h2.okay ht) h2.full
  constructor
  ·unfold chartFull_pre
   exact ⟨f1,letP_i fun _ => ⟨g1,letP_i ⟨fun h => by rw [h1] at h; exact absurd h (by decide),fun _ => ⟨hA.1,letP_i (cS_r hA.2 c1)⟩⟩⟩⟩
  ·unfold chartFull
   rw [letV_e]
   cases hf : few15 (m,[]) with
   | false => rw [if_pos (by decide)]
   | true => rw [if_neg (by decide),letV_e,h1,if_neg (by decide),letV_e,hA.2,Sum.elim_inr,letV_e,c2]
 ·constructor
  ·unfold chartFull_pre
   exact ⟨f1,letP_i fun _ => ⟨g1,letP_i ⟨fun _ => c1,fun h => by rw [h1] at h; exact absurd (by decide) h⟩⟩⟩
  ·unfold chartFull
   rw [letV_e]
   cases hf : few15 (m,[]) with
   | false => rw [if_pos (by decide)]
   | true => rw [if_neg (by decide),letV_e,h1,if_pos (by decide),letV_e,c2]
end Go.Proofs.Ytkbmjhabfjgoiaa
