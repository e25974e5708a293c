/- Plain laws: ChartWhole. -/
import Derived.Test.YtkbmjhabfjgoiaaPk
import Derived.Test.YtkbmjhabfjgoiaaCd
noncomputable section
set_option linter.unusedSectionVars false
set_option linter.unusedVariables false
set_option linter.unusedSimpArgs false
namespace Go.Proofs.Ytkbmjhabfjgoiaa
open Go Go.Ev Go.Proofs
theorem facing_way {m : Msh} (hm : tameB m = true) (i:Int) : facing (m,i) = ((Way m i).1.1,((Way m i).1.2,(Way m i).2)) := by
 rw [(facing_law m i).2]
 unfold Way
 by_cases h : Has m i
 ·rw [if_pos ⟨hm,h⟩]
  by_cases hz : Nm m i = (0,(0,0))
  ·rw [if_pos hz,if_neg fun q => q.2 hz]
  ·rw [if_neg hz,if_pos ⟨h,hz⟩]
 ·rw [if_neg fun q => h q.2,if_neg fun q => h q.1]
theorem head_get (l : List Int) : l.getD 0 0 = l.headD 0 := by cases l <;> rfl
theorem wh_in {m : Msh} (hm : tameB m = true) (l : List Chr) (hl : l.length ≤ 1000) {i : Nat} (hi : i < l.length) (hg : Good m (cw (l.getD i zC)) (l.getD i zC).2.2) (hs : (l.getD i zC).2.2.length ≤ 1000) (last:Int) (hlast : ∀ k ∈ (l.getD i zC).2.2,last ≤ k) (L : List Int) (hL : L.length ≤ 1000000) :
  TR (chartWhole_l2_step m) (chartWhole_l2_pre m) (l,(Many m.2.2.2.length L,(last,((i:Int),0)))) (fun r => r = .inr (l,(Many m.2.2.2.length (L ++ (l.getD i zC).2.2),(last,(i:Int))))) := by
 have hn := (mesh_len (tame_mesh hm)).2.2.2
 refine for_loop (l.getD i zC).2.2.length (fun k s => s = (l,(Many m.2.2.2.length (L ++ (l.getD i zC).2.2.take k),(last,((i:Int),(k:Int)))))) _ (fun k s hk e => ?_) (fun s e => ?_) (by simp)
 ·subst e
  have hw := (hg k hk).way
  have hh := (way_has hw).1
  have hlt : (L ++ (l.getD i zC).2.2.take k).length ≤ 2000000 := by rw [List.length_append,List.length_take]; omega
  have hm2 := many_snoc (n := m.2.2.2.length) hh hlt
  have hla := hlast _ (getD_in hk 0)
  have hf : facing (m,(l.getD i zC).2.2.getD k 0) = ((l.getD i zC).1,((l.getD i zC).2.1,true)) := by rw [facing_way hm,hw]
  have hf' : facing (m,List.getD (List.getD l i (0,(0,[]))).2.2 k 0) = ((l.getD i zC).1,((l.getD i zC).2.1,true)) := hf
  obtain ⟨at',hat⟩ : ∃ a,a = (l.getD i zC).2.2.getD k 0 := ⟨_,rfl⟩
  have hat' : List.getD (List.getD l i (0,(0,[]))).2.2 k 0 = at' := hat.symm
  rw [← hat] at hh hla hm2
  constructor
  ·unfold chartWhole_l2_pre
   dsimp only [letP]
   simp only [Int.toNat_natCast,many_len,hat']
   have hr : (0:Int) ≤ at' ∧ at' < ((m.2.2.2.length:Nat):Int) := hh
   have hb : at'.toNat < m.2.2.2.length := by omega
   exact ⟨rg hi,hi,hi,hi,fun _ => ⟨rg hi,hi,hi,hi,rg hk,hk,hk,fun _ _ => ⟨(facing_law _ _).1,fun _ => ⟨rg hi,hi,hi,hi,fun _ => ⟨rg hi,hi,hi,hi,fun _ => ⟨hr,hb,hb,hr,hb,hb⟩⟩⟩⟩⟩⟩
  ·refine .inl ?_
   unfold chartWhole_l2_step
   dsimp only [letV]
   simp only [Int.toNat_natCast]
   rw [if_pos (rg hk).2]
   simp only [hf']
   simp only [hat']
   rw [if_neg (by omega),if_neg (by omega),if_neg (by decide),if_neg (by simp),if_neg (by simp),hm2,cnt (n := 1000) (by omega) (by omega)]
   refine ⟨_,rfl,?_⟩
   rw [take_snoc hk 0,← hat,List.append_assoc]
 ·subst e
  constructor
  ·unfold chartWhole_l2_pre
   dsimp only
   simp only [Int.toNat_natCast]
   exact ⟨rg hi,hi,hi,hi,fun h => absurd h (Int.lt_irrefl _)⟩
  ·unfold chartWhole_l2_step
   dsimp only
   simp only [Int.toNat_natCast]
   rw [if_neg (Int.lt_irrefl _),List.take_length]
   exact ⟨_,rfl,rfl⟩
theorem wh_out {m : Msh} (hm : tameB m = true) (l : List Chr) (h : Okay m l) (hr : l.Pairwise fun c d => ∀ i ∈ d.2.2,c.2.2.headD 0 < i) (hin : ∀ c ∈ l,∀ i ∈ c.2.2,c.2.2.headD 0 ≤ i) :
  TR (chartWhole_l0_step m) (chartWhole_l0_pre m) (l,(List.replicate m.2.2.2.length 0,(-1,0))) (fun r => r = .inr (l,Many m.2.2.2.length (l.flatMap (·.2.2)))) := by
 have hl := h.len
 have hpos : ∀ j,j < l.length → 0 < (l.getD j zC).2.2.length := fun j hj => List.length_pos_iff.2 (h.good _ (getD_in hj zC)).1
 have hrise : ∀ i j,i < j → j < l.length → ∀ k ∈ (l.getD j zC).2.2,(l.getD i zC).2.2.headD 0 < k := fun i j h1 h2 => by
  have := List.pairwise_iff_getElem.1 hr i j (by omega) h2 h1
  rw [List.getD_eq_getElem?_getD,List.getD_eq_getElem?_getD,List.getElem?_eq_getElem h2,List.getElem?_eq_getElem (show i < l.length by omega)]
  exact this
 refine for_loop l.length (fun i s => ∃ last,s = (l,(Many m.2.2.2.length ((l.take i).flatMap (·.2.2)),(last,(i:Int)))) ∧ ∀ j,i ≤ j → j < l.length → last < (l.getD j zC).2.2.getD 0 0) _ (fun i s hi ⟨last,e,hla⟩ => ?_) (fun s ⟨last,e,hla⟩ => ?_) ⟨-1,by rw [← many_nil]; rfl,fun j _ hj => ?_⟩
 ·subst e
  have hc : l.getD i zC ∈ l := getD_in hi zC
  have hp := hpos i hi
  have hL := flat_len (l := l.take i) fun c hc => h.small c (List.mem_of_mem_take hc)
  have h1 := wh_in hm l hl hi (h.good _ hc).2 (h.small _ hc) ((l.getD i zC).2.2.getD 0 0) (by rw [head_get]; exact hin _ hc) ((l.take i).flatMap (·.2.2)) (by rw [List.length_take] at hL; omega)
  have hlt := hla i (Nat.le_refl _) hi
  have hne : ¬ ((((l.getD i zC).2.2.length:Nat):Int) == 0) = true := by simpa using (h.good _ hc).1
  constructor
  ·unfold chartWhole_l0_pre
   dsimp only
   intro _
   simp only [Int.toNat_natCast]
   exact ⟨rg hi,hi,hi,hi,fun _ => ⟨rg hi,hi,hi,hi,(rg hp).2,hp,hp,fun _ => ⟨rg hi,hi,hi,hi,(rg hp).2,hp,hp,h1.1⟩⟩⟩
  ·refine .inl ?_
   unfold chartWhole_l0_step
   dsimp only [letV]
   simp only [Int.toNat_natCast]
   have e1 : run (chartWhole_l2_step m) (l,(Many m.2.2.2.length ((l.take i).flatMap (·.2.2)),(List.getD (List.getD l i (0,(0,[]))).2.2 0 0,((i:Int),0)))) = .inr (l,(Many m.2.2.2.length ((l.take i).flatMap (·.2.2) ++ (l.getD i zC).2.2),((l.getD i zC).2.2.getD 0 0,(i:Int)))) := h1.2
   rw [if_pos (rg hi).2,if_neg hne,if_neg (Int.not_le.2 hlt),e1]
   dsimp only [Sum.elim]
   rw [cnt (n := 1000) (by omega) (by omega)]
   refine ⟨_,rfl,(l.getD i zC).2.2.getD 0 0,?_,fun j hj1 hj2 => ?_⟩
   ·rw [take_snoc hi zC,List.flatMap_append]
    simp
   ·rw [head_get]
    exact hrise i j (by omega) hj2 _ (getD_in (hpos j hj2) 0)
 ·subst e
  constructor
  ·unfold chartWhole_l0_pre
   dsimp only
   intro h; omega
  ·unfold chartWhole_l0_step
   dsimp only
   rw [if_neg (by omega),List.take_length]
   exact ⟨_,rfl,rfl⟩
 ·have hg := (h.good _ (getD_in hj zC)).2 0 (hpos j hj)
  have := (way_has hg.way).1.1
  omega
theorem wh_all {m : Msh} (hm : tameB m = true) (l : List Chr) (L : List Int) (hc : ∀ k : Int,L.count k = if (Way m k).2 = true then 1 else 0) :
  TR (chartWhole_l4_step m) (chartWhole_l4_pre m) (l,(Many m.2.2.2.length L,0)) (fun r => r = .inr l) := by
 have hn := (mesh_len (tame_mesh hm)).2.2.2
 refine for_loop m.2.2.2.length (fun i s => s = (l,(Many m.2.2.2.length L,(i:Int)))) _ (fun i s hi e => ?_) (fun s e => ?_) rfl
 ·subst e
  have hf := facing_way hm (i:Int)
  have hci := hc (i:Int)
  constructor
  ·unfold chartWhole_l4_pre
   dsimp only [letP]
   intro _
   simp only [many_len,Int.toNat_natCast]
   exact ⟨(facing_law _ _).1,fun _ => ⟨rg hi,hi,hi,fun _ _ => ⟨rg hi,hi,hi⟩⟩,fun _ _ => ⟨rg hi,hi,hi⟩⟩
  ·refine .inl ?_
   unfold chartWhole_l4_step
   dsimp only [letV]
   rw [if_pos (by omega)]
   simp only [hf,Int.toNat_natCast,many_get hi]
   rw [cnt (n := 500) (by omega) (by omega)]
   cases hw : (Way m (i:Int)).2 with
   | true =>
    rw [hw,if_pos rfl] at hci
    rw [if_pos rfl,hci,if_neg (by decide),if_neg (by decide)]
    exact ⟨_,rfl,rfl⟩
   | false =>
    rw [hw,if_neg (by decide)] at hci
    rw [if_neg (by decide),if_pos (by decide),hci,if_neg (by decide)]
    exact ⟨_,rfl,rfl⟩
 ·subst e
  constructor
  ·unfold chartWhole_l4_pre
   dsimp only
   intro h; omega
  ·unfold chartWhole_l4_step
   dsimp only
   rw [if_neg (by omega)]
   exact ⟨_,rfl,rfl⟩
theorem whole_law (m : Msh) : chartWhole_pre m ∧ chartWhole m = true := by
 obtain ⟨f1,f2⟩ := few15_law m
 have g1 := (cgrow_law m).1
 obtain ⟨c1,c2⟩ := charted_law
 rcases tame_cases m with ⟨ht,h1,h2⟩ | ⟨ht,h1,h2⟩
 ·have hn := (mesh_len (tame_mesh ht)).2.2.2
  have hA := wh_out ht _ (h2.okay ht) h2.rise h2.ins
  have hB := wh_all ht (cgrow m).1 _ h2.count
  obtain ⟨i1,i2⟩ := h2.is ht
  constructor
  ·unfold chartWhole_pre
   refine ⟨f1,letP_i fun _ => ⟨g1,letP_i ⟨fun h => by rw [h1] at h; exact absurd h (by decide),fun _ => ⟨⟨Int.le_refl _,by omega⟩,hA.1,letP_i (cS_r hA.2 ⟨hB.1,letP_i (cS_r hB.2 ⟨c1,letP_i fun _ => i1⟩)⟩)⟩⟩⟩⟩
  ·unfold chartWhole
   rw [letV_e]
   cases hf : few15 (m,[]) with
   | false => rw [if_pos (by decide)]
   | true => rw [if_neg (by decide),letV_e,h1,if_neg (by decide),letV_e,hA.2,Sum.elim_inr,letV_e,hB.2,Sum.elim_inr,letV_e,c2,if_pos rfl,letV_e,i2]
 ·constructor
  ·unfold chartWhole_pre
   exact ⟨f1,letP_i fun _ => ⟨g1,letP_i ⟨fun _ => ⟨c1,letP_i fun _ => (tame_law m).1⟩,fun h => by rw [h1] at h; exact absurd (by decide) h⟩⟩⟩
  ·unfold chartWhole
   rw [letV_e]
   cases hf : few15 (m,[]) with
   | false => rw [if_pos (by decide)]
   | true => rw [if_neg (by decide),letV_e,h1,if_pos (by decide),letV_e,c2,if_pos rfl,letV_e,(tame_law m).2,ht,if_pos (by decide),h2]; rfl
end Go.Proofs.Ytkbmjhabfjgoiaa
