/- Plain laws: the document's rows of layer 16; what is laid is a patch. -/
import Derived.Test.YtpbbnoggkbfkoaaQe
import Derived.Test.YtpbbnoggkbfkoaaPg
noncomputable section
set_option linter.unusedSectionVars false
set_option linter.unusedVariables false
set_option linter.unusedSimpArgs false
namespace Go.Proofs.Ytpbbnoggkbfkoaa
open Go Go.Ev Go.Proofs
abbrev m0 : Msh := ([(5,(5,0)),(25,(5,0)),(5,(21,0))],([],([],[((0,(-1,-1)),((1,(-1,-1)),(2,(-1,-1))))])))
theorem m0_tame : tameB m0 = true := by kernel_rfl
theorem m0_facing : facing (m0,0) = (2,(1,true)) := by
 rw [(facing_law m0 0).2,if_pos ⟨m0_tame,by decide⟩]
 kernel_rfl
theorem m0_shadow : shadow (m0,(0,2)) = (((5,5),((25,5),(5,21))),0) := by
 rw [(shadow_law m0 0 2).2,if_pos ⟨m0_tame,by decide⟩]
 kernel_rfl
theorem box_of {l : List T2} {lo hi : P2} (hl : l.length < 4611686018427387904) (h0 : l ≠ []) (hs : ∀ p ∈ pts l,Sm p) (hB : IsBox (pts l) lo hi) : fbox l = (lo,(hi,0)) := by
 rcases (fbox_law l hl).2 with ⟨h,_⟩ | ⟨⟨p,hp,hn⟩,_⟩ | ⟨_,_,lo',hi',hB',e⟩
 ·exact absurd h h0
 ·exact absurd (hs p hp) hn
 ·obtain ⟨rfl,rfl⟩ := hB.uniq hB'; exact e
theorem m0_raw : Raw m0 (2,(1,[0])) = [((5,5),((25,5),(5,21)))] := by
 unfold Raw
 simp only [List.map_cons,List.map_nil,m0_shadow]
theorem m0_box : fbox [((5,5),((25,5),(5,21)))] = ((5,5),((25,21),0)) :=
 box_of (by simp) (by simp) (by decide) ⟨by decide,by decide,⟨(5,5),by decide,rfl⟩,⟨(5,5),by decide,rfl⟩,⟨(25,5),by decide,rfl⟩,⟨(5,21),by decide,rfl⟩⟩
abbrev t0 : T2 := ((0,0),((40,0),(0,32)))
theorem one_free (t : T2) : fapart [t] = true := (fapart_law [t] (by simp)).2.2 fun i k h1 h2 => by simp at h1; omega
theorem m0_turn : Turn m0 (2,(1,[0])) 2 = [t0] := by
 unfold Turn
 rw [m0_raw,m0_box]
 kernel_rfl
theorem m0_high : High m0 (2,(1,[0])) 2 = (40,32) := by
 unfold High
 rw [m0_raw,m0_box]
 kernel_rfl
theorem m0_fits : ∀ j ∈ [(0:Int)],Fits m0 (2,(1,[0])) j := by
 intro j hj
 simp only [List.mem_singleton] at hj
 subst hj
 exact ⟨m0_facing,by rw [m0_shadow]⟩
theorem m0_laid : flay (m0,((2,(1,[0])),2)) = (([0],([t0],(3,3))),0) := by
 have hL : Laid m0 (2,(1,[0])) 2 := ⟨by decide,m0_fits,by rw [m0_raw,m0_box],by rw [m0_high]; decide,by rw [m0_turn]; exact one_free t0⟩
 rcases (flay_law m0 (2,(1,[0])) 2 (by simp)).2 with ⟨h,_⟩ | ⟨_,e⟩
 ·exact absurd hL h
 ·rw [e,m0_turn,m0_high]; rfl
theorem m0_not : (flay (m0,((1,(1,[0])),2))).2 = 1 := by
 have hn : ¬ ∀ j ∈ [(0:Int)],Fits m0 (1,(1,[0])) j := fun h => by
  have := (h 0 (by simp)).1
  rw [m0_facing] at this
  cases this
 rcases (flay_law m0 (1,(1,[0])) 2 (by simp)).2 with ⟨_,e,_,h,h1,_⟩ | ⟨hL,_⟩
 ·rw [h]; exact h1 hn
 ·exact absurd hL.fits hn
theorem t0_box : fbox [t0] = (z2,((40,32),0)) :=
 box_of (by simp) (by simp) (by decide) ⟨by decide,by decide,⟨(0,0),by decide,rfl⟩,⟨(0,0),by decide,rfl⟩,⟨(40,0),by decide,rfl⟩,⟨(0,32),by decide,rfl⟩⟩
theorem t0_patch : IsPatch ([0],([t0],(3,3))) := by
 refine ⟨by simp,by simp,by decide,?_,?_,?_,?_,one_free t0⟩ <;> dsimp only <;> rw [t0_box] <;> first | rfl | decide
theorem m0_move : fmove (([0],([t0],(3,3))),(3,0)) = ([((3,0),((43,0),(3,32)))],0) := by
 rcases (fmove_law ([0],([t0],(3,3))) (3,0)).2 with ⟨h,_⟩ | ⟨_,h,_⟩ | ⟨_,_,e⟩
 ·exact absurd t0_patch h
 ·exact absurd (by decide) h
 ·rw [e]; kernel_rfl
theorem laid_law (x : Bool) : l16laid_pre x ∧ l16laid x = true := by
 have h1 := m0_laid
 have h2 := m0_not
 have h3 := m0_move
 have h4 : fis ([0],([t0],(3,3))) = true := (fis_law _).2.2 t0_patch
 have h5 : fsize 16 = (2,0) := by rw [fsize_law]; decide
 unfold l16laid_pre l16laid
 dsimp only [letP,letV]
 rw [h1]
 dsimp only
 rw [h3,h2,h5,h4]
 refine ⟨⟨(flay_law _ _ _ (by simp)).1,(flay_law _ _ _ (by simp)).1,(fmove_law _ _).1,fun _ _ _ _ => ⟨by decide,by decide,by decide,fun _ _ _ _ => ⟨by decide,by decide,by decide,by decide,fun _ _ _ => (fis_law _).1⟩⟩⟩,by decide⟩
theorem r15few_law (m : Msh) (l : List Chr) : r15few_pre (m,l) ∧ (r15few (m,l) = true ↔ l.length ≤ 20 ∧ (∀ c ∈ l,c.2.2.length ≤ 20) ∧ (m.1.length ≤ 20 ∧ m.2.1.length ≤ 60 ∧ m.2.2.1.length ≤ 60 ∧ m.2.2.2.length ≤ 20) ∧ m.2.2.2.length ≤ 12) := by
 obtain ⟨h1,h2⟩ := loop_inv (step := r15few_l0_step (m,l)) (pre := r15few_l0_pre (m,l)) (fun s => ∃ i : Nat,s = (i:Int) ∧ i ≤ l.length ∧ ∀ c ∈ l.take i,c.2.2.length ≤ 20) (fun s => l.length - s.toNat)
  (fun r => (r = .inl () ∧ ∃ c ∈ l,¬ c.2.2.length ≤ 20) ∨ (r = .inr () ∧ (l.length ≤ 20 → ∀ c ∈ l,c.2.2.length ≤ 20))) (fun s ⟨i,e,hi,hf⟩ => by
   subst e
   unfold r15few_l0_step r15few_l0_pre
   dsimp only
   simp only [Int.toNat_natCast]
   refine ⟨fun h _ => ⟨by omega,by omega,by omega,by omega⟩,fun s' h => ?_,fun r h => ?_⟩
   ·split at h
    ·rename_i hlt
     have hlt : i < l.length := by omega
     split at h
     ·rename_i h20
      split at h
      ·cases h
      ·rename_i hn
       cases h
       refine ⟨⟨i + 1,cnt hlt (by omega),hlt,fun c hc => ?_⟩,?_⟩
       ·rw [List.take_succ_eq_append_getElem hlt] at hc
        rcases List.mem_append.1 hc with hc | hc
        ·exact hf c hc
        ·simp only [List.mem_singleton] at hc
         subst hc
         rw [List.getD_eq_getElem?_getD,List.getElem?_eq_getElem hlt] at hn
         simp only [Option.getD_some] at hn
         omega
       ·rw [cnt hlt (by omega)]
        simp only [Int.toNat_natCast]; omega
     ·cases h
    ·cases h
   ·split at h
    ·rename_i hlt
     have hlt : i < l.length := by omega
     split at h
     ·rename_i h20
      split at h
      ·rename_i hn
       cases h
       refine .inl ⟨rfl,l.getD i (0,(0,[])),?_,?_⟩
       ·rw [List.getD_eq_getElem?_getD,List.getElem?_eq_getElem hlt]; exact List.getElem_mem _
       ·omega
      ·cases h
     ·cases h; exact .inr ⟨rfl,fun q => absurd q (by omega)⟩
    ·cases h
     have : i = l.length := by omega
     subst this
     rw [List.take_length] at hf
     exact .inr ⟨rfl,fun _ => hf⟩) 0 ⟨0,rfl,Nat.zero_le _,fun c hc => (by simp at hc)⟩
 refine ⟨h1,?_⟩
 have h14 : r14few m = true ↔ (m.1.length ≤ 20 ∧ m.2.1.length ≤ 60 ∧ m.2.2.1.length ≤ 60 ∧ m.2.2.2.length ≤ 20) := by
  unfold r14few
  split
  ·split
   ·split
    ·rw [decide_eq_true_iff]; omega
    ·exact ⟨fun q => (by cases q),fun q => absurd q.2.2.1 (by omega)⟩
   ·exact ⟨fun q => (by cases q),fun q => absurd q.2.1 (by omega)⟩
  ·exact ⟨fun q => (by cases q),fun q => absurd q.1 (by omega)⟩
 unfold r15few
 dsimp only [letV]
 rcases h2 with ⟨e,c,hc,hn⟩ | ⟨e,hf⟩
 ·rw [e]; exact ⟨fun q => (by cases q),fun q => absurd (q.2.1 c hc) hn⟩
 ·rw [e]
  dsimp only [Sum.elim_inr]
  split
  ·rename_i h20
   split
   ·rename_i q14
    rw [decide_eq_true_iff]
    exact ⟨fun q => ⟨by omega,hf (by omega),h14.1 q14,by omega⟩,fun q => by omega⟩
   ·rename_i q14
    exact ⟨fun q => (by cases q),fun q => absurd (h14.2 q.2.2.1) q14⟩
  ·exact ⟨fun q => (by cases q),fun q => absurd q.1 (by omega)⟩
end Go.Proofs.Ytpbbnoggkbfkoaa

namespace Go.Proofs.Ytpbbnoggkbfkoaa
open Go Go.Ev Go.Proofs
theorem fits_right {m : Msh} {c : Chr} {j : Int} (h : Fits m c j) : (shadow (m,(j,c.1))) = (Shd m j c.1,0) ∧ Right (Shd m j c.1).1 (Shd m j c.1).2.1 (Shd m j c.1).2.2 := by
 have h1 := h.1
 rw [(facing_law m j).2] at h1
 split at h1
 ·rename_i hm
  split at h1
  ·simp at h1
  ·rename_i hz
   have ha : Ax (Nm m j) = c.1 := congrArg (·.1) h1
   have hin := ax_in (Nm m j)
   rw [(shadow_law m j c.1).2,if_pos ⟨hm.1,hm.2,by omega⟩]
   refine ⟨rfl,?_⟩
   have := shd_right hm.1 hm.2 hz
   rwa [ha] at this
 ·simp at h1
def Ly (lo : P2) (d:Int) (p : P2) : P2 := ((p.1 - lo.1) * d,(p.2 - lo.2) * d)
theorem layc_law {p lo : P2} {d : Int} (hp : Sm p) (hlo : Sm lo) (hd : 1 ≤ d ∧ d ≤ 64) : layc (p,(lo,d)) = Ly lo d p := by
 have m1 := mulb (a := p.1 - lo.1) (b := d) (A := 8192) (B := 64) (by omega) (by omega) (by omega) (by omega)
 have m2 := mulb (a := p.2 - lo.2) (b := d) (A := 8192) (B := 64) (by omega) (by omega) (by omega) (by omega)
 unfold layc Ly
 dsimp only
 rw [w64_id (n := p.1 - lo.1) (by omega) (by omega),w64_id (n := p.2 - lo.2) (by omega) (by omega),w64_id (by omega) (by omega),w64_id (by omega) (by omega)]
theorem det_ly (lo a b c : P2) (d:Int) : Det (Ly lo d a) (Ly lo d b) (Ly lo d c) = d * d * Det a b c := by
 unfold Det Ly; dsimp only; grind
theorem ly_mono {x y l d : Int} (h : x ≤ y) (hd : 1 ≤ d) : (x - l) * d ≤ (y - l) * d := Int.mul_le_mul_of_nonneg_right (by omega) (by omega)
theorem mem_raw {m : Msh} {c : Chr} {t : T2} (h : t ∈ Raw m c) : ∃ j ∈ c.2.2,t = (shadow (m,(j,c.1))).1 := by
 unfold Raw at h
 obtain ⟨j,hj,rfl⟩ := List.mem_map.1 h
 exact ⟨j,hj,rfl⟩
theorem raw_right {m : Msh} {c : Chr} (hf : ∀ j ∈ c.2.2,Fits m c j) {t : T2} (h : t ∈ Raw m c) : Right t.1 t.2.1 t.2.2 := by
 obtain ⟨j,hj,rfl⟩ := mem_raw h
 obtain ⟨e,hr⟩ := fits_right (hf j hj)
 rw [e]; exact hr
theorem pts_sm {l : List T2} (h : ∀ t ∈ l,Right t.1 t.2.1 t.2.2) : ∀ p ∈ pts l,Sm p := by
 intro p hp
 unfold pts at hp
 obtain ⟨t,ht,hp⟩ := List.mem_flatMap.1 hp
 obtain ⟨⟨h1,h2,h3⟩,_⟩ := h t ht
 simp only [tp,List.mem_cons,List.not_mem_nil,or_false] at hp
 rcases hp with rfl | rfl | rfl <;> assumption
end Go.Proofs.Ytpbbnoggkbfkoaa

namespace Go.Proofs.Ytpbbnoggkbfkoaa
open Go Go.Ev Go.Proofs
structure Grown (m : Msh) (F0 free : List Int) (out : List Chr) : Prop where
 perm : (out.flatMap (·.2.2) ++ free).Perm F0
 sub : free.Sublist F0
 good : ∀ c ∈ out,c.2.2 ≠ [] ∧ Good m (cw c) c.2.2
 full : out.Pairwise fun c d => ∀ i ∈ d.2.2,¬ FitsP m (cw c) c.2.2 i
 fulf : ∀ c ∈ out,∀ i ∈ free,¬ FitsP m (cw c) c.2.2 i
 rise : out.Pairwise fun c d => ∀ i ∈ d.2.2,c.2.2.headD 0 < i
 risf : ∀ c ∈ out,∀ i ∈ free,c.2.2.headD 0 < i
 ins : ∀ c ∈ out,∀ i ∈ c.2.2,c.2.2.headD 0 ≤ i
 len : out.length + free.length ≤ F0.length
def Free0 (m : Msh) : List Int := ((List.range m.2.2.2.length).map fun k : Nat => (k:Int)).filter fun i => (Way m i).2
theorem mem_free0 {m : Msh} {i : Int} : i ∈ Free0 m ↔ (Way m i).2 = true := by
 unfold Free0
 rw [List.mem_filter,List.mem_map]
 constructor
 ·exact fun h => h.2
 ·intro h
  have hh := (way_has (way_some.1 h)).1
  exact ⟨⟨i.toNat,List.mem_range.2 (by omega),by omega⟩,h⟩
theorem free0_all (m : Msh) : AllF m (Free0 m) := fun i hi => way_some.1 (mem_free0.1 hi)
theorem free0_sorted (m : Msh) : (Free0 m).Pairwise (· < ·) := by
 unfold Free0
 refine List.Pairwise.filter _ ?_
 rw [List.pairwise_map]
 exact List.pairwise_lt_range.imp fun h => by omega
theorem free0_len (m : Msh) : (Free0 m).length ≤ m.2.2.2.length := by
 unfold Free0
 refine Nat.le_trans (List.length_filter_le _ _) ?_
 simp
theorem sorted_head {F : List Int} (h : F.Pairwise (· < ·)) {i : Int} (hi : i ∈ F) : i = F.headD 0 ∨ F.headD 0 < i := by
 cases F with
 | nil => simp at hi
 | cons a r =>
  rw [List.pairwise_cons] at h
  rcases List.mem_cons.1 hi with rfl | hi
  ·exact .inl rfl
  ·exact .inr (h.1 i hi)
theorem headD_mem {l : List Int} (h : l ≠ []) : l.headD 0 ∈ l := by
 cases l with
 | nil => exact absurd rfl h
 | cons a r => simp
theorem Grown.step {m : Msh} {F0 F free tris : List Int} {out : List Chr} {w : P2} (hs : F0.Pairwise (· < ·)) (h : Grown m F0 F out) (hI : Inn m w F free tris) (ht : tris ≠ []) (hno : ∀ i ∈ free,¬ FitsP m w tris i) : Grown m F0 free (out ++ [(w.1,(w.2,tris))]) := by
 have hF := hs.sublist h.sub
 have hin : ∀ i,i ∈ tris → i ∈ F := fun i hi => hI.perm.subset (List.mem_append_left _ hi)
 have hinf : ∀ i,i ∈ free → i ∈ F := fun i hi => hI.sub.subset hi
 have hhd : tris.headD 0 = F.headD 0 := by
  rcases hI.hd with ⟨h1,_⟩ | ⟨_,h2⟩
  ·exact absurd h1 ht
  ·exact h2
 have hnd : (tris ++ free).Nodup := hI.perm.nodup_iff.2 (hF.imp fun h => by omega)
 have hlen := hI.perm.length_eq
 rw [List.length_append] at hlen
 have hpos : 0 < tris.length := List.length_pos_iff.2 ht
 have hl := h.len
 have hc : ∀ c,c ∈ out ++ [(w.1,(w.2,tris))] → c ∈ out ∨ c = (w.1,(w.2,tris)) := fun c hc => by
  rwa [List.mem_append,List.mem_singleton] at hc
 refine ⟨?_,hI.sub.trans h.sub,fun c hc' => ?_,?_,fun c hc' i hi => ?_,?_,fun c hc' i hi => ?_,fun c hc' i hi => ?_,?_⟩
 ·rw [List.flatMap_append,List.append_assoc]
  refine (List.Perm.append_left _ ?_).trans h.perm
  simpa using hI.perm
 ·rcases hc c hc' with h1 | rfl
  ·exact h.good c h1
  ·exact ⟨ht,hI.good⟩
 ·rw [List.pairwise_append]
  refine ⟨h.full,by simp,fun c h1 d h2 i hi => ?_⟩
  rw [List.mem_singleton] at h2
  subst h2
  exact h.fulf c h1 i (hin i hi)
 ·rcases hc c hc' with h1 | rfl
  ·exact h.fulf c h1 i (hinf i hi)
  ·exact hno i hi
 ·rw [List.pairwise_append]
  refine ⟨h.rise,by simp,fun c h1 d h2 i hi => ?_⟩
  rw [List.mem_singleton] at h2
  subst h2
  exact h.risf c h1 i (hin i hi)
 ·rcases hc c hc' with h1 | rfl
  ·exact h.risf c h1 i (hinf i hi)
  ·show tris.headD 0 < i
   rcases sorted_head hF (hinf i hi) with h1 | h1
   ·rw [List.nodup_append] at hnd
    exact absurd (h1.trans hhd.symm).symm (hnd.2.2 _ (headD_mem ht) _ hi)
   ·rw [hhd]; exact h1
 ·rcases hc c hc' with h1 | rfl
  ·exact h.ins c h1 i hi
  ·show tris.headD 0 ≤ i
   rcases sorted_head hF (hin i hi) with h1 | h1
   ·rw [hhd,h1]; exact Int.le_refl _
   ·rw [hhd]; omega
 ·rw [List.length_append,List.length_singleton]; omega
theorem grow_free {m : Msh} (hm : tameB m = true) : TR (cgrow_l0_step m) (cgrow_l0_pre m) ([],0) (fun r => r = Free0 m) := by
 have hn := (mesh_len (tame_mesh hm)).2.2.2
 refine for_loop m.2.2.2.length (fun i s => s = (((List.range i).map fun k : Nat => (k:Int)).filter fun i => (Way m i).2,(i:Int))) _ (fun i s hi e => ?_) (fun s e => ?_) rfl
 ·subst e
  obtain ⟨h1,h2⟩ := bway_law hm (i:Int)
  have hlen : (((List.range i).map fun k : Nat => (k:Int)).filter fun i => (Way m i).2).length ≤ i := Nat.le_trans (List.length_filter_le _ _) (by simp)
  constructor
  ·unfold cgrow_l0_pre
   dsimp only [letP]
   intro _
   exact ⟨h1,fun _ => by omega⟩
  ·refine .inl ?_
   unfold cgrow_l0_step
   dsimp only [letV]
   rw [if_pos (by omega),h2,cnt (n := 500) (by omega) (by omega),List.range_succ,List.map_append,List.filter_append]
   cases e : (Way m (i:Int)).2 with
   | true =>
    rw [if_pos rfl]
    exact ⟨_,rfl,by simp [e]⟩
   | false =>
    rw [if_neg (by decide)]
    exact ⟨_,rfl,by simp [e]⟩
 ·subst e
  constructor
  ·unfold cgrow_l0_pre
   dsimp only
   intro h; omega
  ·unfold cgrow_l0_step
   dsimp only
   rw [if_neg (by omega)]
   exact ⟨_,rfl,rfl⟩
theorem grow_out {m : Msh} (hm : tameB m = true) : TR (cgrow_l2_step m) (cgrow_l2_pre m) (Free0 m,[]) (fun r => Grown m (Free0 m) [] r) := by
 have hn := (mesh_len (tame_mesh hm)).2.2.2
 have hf := free0_len m
 refine TR.inv (fun s => Grown m (Free0 m) s.1 s.2) (fun s => s.1.length) (fun s hG => ?_) ⟨by simp,List.Sublist.refl _,by simp,by simp,by simp,by simp,by simp,by simp,by simp⟩
 obtain ⟨F,out⟩ := s
 have hG : Grown m (Free0 m) F out := hG
 have hsub := hG.sub.length_le
 cases F with
 | nil =>
  refine ⟨?_,fun s' h => ?_,fun r h => ?_⟩
  ·unfold cgrow_l2_pre
   dsimp only
   intro h; simp at h
  ·unfold cgrow_l2_step at h
   dsimp only at h
   rw [if_neg (by simp)] at h
   cases h
  ·unfold cgrow_l2_step at h
   dsimp only at h
   rw [if_neg (by simp)] at h
   cases h
   exact hG
 | cons a F =>
  have hA : AllF m (a :: F) := fun i hi => free0_all m i (hG.sub.subset hi)
  have ha : Way m a = ((Way m a).1,true) := hA a (by simp)
  obtain ⟨h1,h2⟩ := bway_law hm a
  have hin := grow_in hm hA (by omega) (by simp) out (Way m a).1 ha
  obtain ⟨free,tris,g1,g2,g3,g4⟩ := hin.2
  have hl := hG.len
  have hlen := g2.perm.length_eq
  have hpos : 0 < tris.length := List.length_pos_iff.2 g3
  rw [List.length_append] at hlen
  have hst : cgrow_l2_step m (a :: F,out) = .inl (free,out ++ [((Way m a).1.1,((Way m a).1.2,tris))]) := by
   unfold cgrow_l2_step
   dsimp only [letV]
   rw [if_pos (by simp),show (a :: F).getD 0 0 = a from rfl,h2,g1]
  refine ⟨?_,fun s' h => ?_,fun r h => ?_⟩
  ·unfold cgrow_l2_pre
   dsimp only [letP]
   intro _
   rw [show (a :: F).getD 0 0 = a from rfl,h2,g1]
   refine ⟨by simp,by simp,by simp,h1,hin.1,?_⟩
   dsimp only
   omega
  ·rw [hst] at h
   cases h
   refine ⟨hG.step (free0_sorted m) g2 g3 g4,?_⟩
   show free.length < (a :: F).length
   omega
  ·rw [hst] at h; cases h
theorem cgrow_law (m : Msh) : cgrow_pre m ∧ (tameB m = true → (cgrow m).2 = 0 ∧ Grown m (Free0 m) [] (cgrow m).1) ∧ (tameB m = false → cgrow m = ([],1)) := by
 unfold cgrow_pre cgrow
 dsimp only [letP,letV]
 rw [(tame_law m).2]
 refine ⟨⟨(tame_law m).1,fun h => ?_⟩,fun h => ?_,fun h => ?_⟩
 ·have h : tameB m = true := by simpa using h
  have h1 := grow_free h
  rw [h1.2]
  exact ⟨h1.1,(grow_out h).1⟩
 ·rw [h,if_neg (by decide),(grow_free h).2]
  exact ⟨rfl,(grow_out h).2⟩
 ·rw [h,if_pos (by decide)]
end Go.Proofs.Ytpbbnoggkbfkoaa

namespace Go.Proofs.Ytpbbnoggkbfkoaa
open Go Go.Ev Go.Proofs
theorem letP_i {α : Type} {v : α} {f : α → Prop} (h : f v) : letP v f := h
theorem cS_r {α β : Type} {x : α ⊕ β} {b : β} {f : α → Prop} {g : β → Prop} (e : x = .inr b) (h : g b) : cS x f g := by subst e; exact h
theorem letV_e {α β : Type} (v : α) (f : α → β) : letV v f = f v := rfl
theorem sg_dd {d : Int} (hd : 1 ≤ d) (x:Int) : sg (d * d * x) = sg x := by
 have hp : 0 < d * d := Int.mul_pos (by omega) (by omega)
 rcases sg_cases x with ⟨h,e⟩ | ⟨h,e⟩ | ⟨h,e⟩
 ·have := Int.mul_neg_of_pos_of_neg hp h
  rw [e]; unfold sg; rw [if_pos this]
 ·subst h; rw [Int.mul_zero]
 ·have := Int.mul_pos hp h
  rw [e]; unfold sg; rw [if_neg (by omega),if_pos this]
theorem sd_ly (lo : P2) {d : Int} (hd : 1 ≤ d) (a b c p : P2) : Sd (Ly lo d a) (Ly lo d b) (Ly lo d c) (Ly lo d p) = Sd a b c p := by
 unfold Sd
 rw [det_ly,det_ly,sg_dd hd,sg_dd hd]
theorem out_ly (lo : P2) {d : Int} (hd : 1 ≤ d) (a b c : P2) (k:Int) (u : T2) : Out1 (Ly lo d a) (Ly lo d b) (Ly lo d c) k (tp (tmap (Ly lo d) u)) = Out1 a b c k (tp u) := by
 unfold Out1 Bel tp tmap
 simp only [List.all_cons,List.all_nil,sd_ly lo hd]
theorem ov_ly (lo : P2) {d : Int} (hd : 1 ≤ d) (t u : T2) : Ov (tmap (Ly lo d) t) (tmap (Ly lo d) u) = Ov t u := by
 unfold Ov
 rw [show tmap (Ly lo d) t = (Ly lo d t.1,(Ly lo d t.2.1,Ly lo d t.2.2)) from rfl,show tmap (Ly lo d) u = (Ly lo d u.1,(Ly lo d u.2.1,Ly lo d u.2.2)) from rfl]
 dsimp only
 rw [show (Ly lo d u.1,(Ly lo d u.2.1,Ly lo d u.2.2)) = tmap (Ly lo d) u from rfl,show (Ly lo d t.1,(Ly lo d t.2.1,Ly lo d t.2.2)) = tmap (Ly lo d) t from rfl,out_ly lo hd,out_ly lo hd]
theorem facing_way {m : Msh} (hm : tameB m = true) (i:Int) : facing (m,i) = ((Way m i).1.1,((Way m i).1.2,(Way m i).2)) := by
 rw [(facing_law m i).2]
 unfold Way
 by_cases h : Has m i
 ·rw [if_pos ⟨hm,h⟩]
  by_cases hz : Nm m i = (0,(0,0))
  ·rw [if_pos hz,if_neg fun q => q.2 hz]
  ·rw [if_neg hz,if_pos ⟨h,hz⟩]
 ·rw [if_neg fun q => h q.2,if_neg fun q => h q.1]
theorem tri_of {m : Msh} (hm : tameB m = true) {w : P2} {l : List Int} (hg : Good m w l) {k : Nat} (hk : k < l.length) :
  shadow (m,(l.getD k 0,w.1)) = (Shd m (l.getD k 0) w.1,0) ∧ Rt (Shd m (l.getD k 0) w.1) ∧ Way m (l.getD k 0) = (w,true) := by
 have hw := (hg k hk).way
 obtain ⟨h1,h2,h3⟩ := way_has hw
 refine ⟨?_,?_,hw⟩
 ·rw [(shadow_law _ _ _).2,if_pos ⟨hm,h1,way_ax hw⟩]
 ·have := shd_right hm h1 h2
  rw [h3]; exact this
theorem mem_at {l : List Int} {j : Int} (h : j ∈ l) : ∃ k,k < l.length ∧ l.getD k 0 = j := mem_getD h 0
section
variable {m : Msh} (hm : tameB m = true) {c : Chr} (hg : Good m (cw c) c.2.2)
include hm hg
theorem gr_fits : ∀ j ∈ c.2.2,Fits m c j := fun j hj => by
 obtain ⟨k,hk,rfl⟩ := mem_at hj
 obtain ⟨e,_,hw⟩ := tri_of hm hg hk
 refine ⟨?_,?_⟩
 ·rw [facing_way hm,hw]
 ·have e : shadow (m,(c.2.2.getD k 0,c.1)) = _ := e
  rw [e]
theorem gr_get {k : Nat} (hk : k < c.2.2.length) : (Raw m c).getD k zT = Shd m (c.2.2.getD k 0) c.1 := by
 obtain ⟨e,_,_⟩ := tri_of hm hg hk
 have e : shadow (m,(c.2.2.getD k 0,c.1)) = _ := e
 unfold Raw
 rw [List.getD_eq_getElem?_getD,List.getElem?_map,List.getElem?_eq_getElem hk]
 simp only [Option.map_some,Option.getD_some]
 have : c.2.2[k] = c.2.2.getD k 0 := by rw [List.getD_eq_getElem?_getD,List.getElem?_eq_getElem hk]; rfl
 rw [this,e]
theorem gr_apart {i k : Nat} (hi : i < c.2.2.length) (hk : k < i) : Ov ((Raw m c).getD i zT) ((Raw m c).getD k zT) = false := by
 obtain ⟨_,r1,_⟩ := tri_of hm hg hi
 obtain ⟨_,r2,_⟩ := tri_of hm hg (show k < c.2.2.length by omega)
 have hap := (hg i hi).apart (c.2.2.getD k 0) (by
  have e : c.2.2.getD k 0 = (c.2.2.take i).getD k 0 := by
   rw [List.getD_eq_getElem?_getD,List.getD_eq_getElem?_getD,List.getElem?_take,if_pos hk]
  rw [e]
  exact getD_in (by rw [List.length_take]; omega) 0)
 unfold Over at hap
 rw [moverlap_law,if_pos ⟨r1,r2⟩] at hap
 dsimp only at hap
 rw [Bool.not_eq_true] at hap
 rw [gr_get hm hg hi,gr_get hm hg (by omega)]
 exact hap
theorem gr_plain (h0 : c.2.2 ≠ []) (hl : c.2.2.length < 1099511627776) {d : Int} (hd : 1 ≤ d ∧ d ≤ 64) : ∃ lo hi,IsBox (pts (Raw m c)) lo hi ∧ fbox (Raw m c) = (lo,(hi,0)) ∧ Sm lo ∧ Sm hi ∧ Turn m c d = (Raw m c).map (tmap (Ly lo d)) ∧ High m c d = Ly lo d hi := by
 have hf := gr_fits hm hg
 have hrl : (Raw m c).length = c.2.2.length := by unfold Raw; simp
 have hs := pts_sm fun t => raw_right hf (t := t)
 have hr0 : Raw m c ≠ [] := fun e => h0 (List.eq_nil_of_length_eq_zero (by rw [← hrl,e]; rfl))
 rcases (fbox_law (Raw m c) (by omega)).2 with ⟨h,_⟩ | ⟨⟨p,hp,hn⟩,_⟩ | ⟨_,_,lo,hi,hB,e⟩
 ·exact absurd h hr0
 ·exact absurd (hs p hp) hn
 ·obtain ⟨p1,k1,e1⟩ := hB.l1
  obtain ⟨p2,k2,e2⟩ := hB.l2
  obtain ⟨p3,k3,e3⟩ := hB.h1
  obtain ⟨p4,k4,e4⟩ := hB.h2
  have s1 := hs p1 k1
  have s2 := hs p2 k2
  have s3 := hs p3 k3
  have s4 := hs p4 k4
  have hlo : Sm lo := ⟨by omega,by omega⟩
  have hhi : Sm hi := ⟨by omega,by omega⟩
  refine ⟨lo,hi,hB,e,hlo,hhi,?_,?_⟩
  ·unfold Turn
   rw [e]
   refine List.map_congr_left fun t ht => ?_
   obtain ⟨⟨q1,q2,q3⟩,_⟩ := raw_right hf ht
   unfold tmap
   dsimp only
   rw [layc_law q1 hlo hd,layc_law q2 hlo hd,layc_law q3 hlo hd]
  ·unfold High
   rw [e]
   exact layc_law hhi hlo hd
theorem gr_free (h0 : c.2.2 ≠ []) (hl : c.2.2.length < 1099511627776) {d : Int} (hd : 1 ≤ d ∧ d ≤ 64) (hh : (High m c d).1 ≤ 4096 ∧ (High m c d).2 ≤ 4096) : fapart (Turn m c d) = true := by
 have hf := gr_fits hm hg
 obtain ⟨lo,hi,hB,e,hlo,hhi,hT,hH⟩ := gr_plain hm hg h0 hl hd
 have hrl : (Raw m c).length = c.2.2.length := by unfold Raw; simp
 rw [hH] at hh
 have hp : ∀ p ∈ pts (Raw m c),(0 ≤ (Ly lo d p).1 ∧ (Ly lo d p).1 ≤ (Ly lo d hi).1) ∧ (0 ≤ (Ly lo d p).2 ∧ (Ly lo d p).2 ≤ (Ly lo d hi).2) := fun p hp => by
  have g1 := hB.low p hp
  have g2 := hB.high p hp
  have a1 := ly_mono (l := lo.1) (d := d) g1.1 hd.1
  have a2 := ly_mono (l := lo.2) (d := d) g1.2 hd.1
  have a3 := ly_mono (l := lo.1) (d := d) g2.1 hd.1
  have a4 := ly_mono (l := lo.2) (d := d) g2.2 hd.1
  rw [Int.sub_self,Int.zero_mul] at a1 a2
  exact ⟨⟨a1,a3⟩,a2,a4⟩
 have hsm : ∀ p ∈ pts (Raw m c),Sm (Ly lo d p) := fun p hq => by
  have := hp p hq; exact ⟨by omega,by omega⟩
 have hmem : ∀ t ∈ Raw m c,t.1 ∈ pts (Raw m c) ∧ t.2.1 ∈ pts (Raw m c) ∧ t.2.2 ∈ pts (Raw m c) := fun t ht => by
  unfold pts
  exact ⟨List.mem_flatMap.2 ⟨t,ht,by simp [tp]⟩,List.mem_flatMap.2 ⟨t,ht,by simp [tp]⟩,List.mem_flatMap.2 ⟨t,ht,by simp [tp]⟩⟩
 have hright : ∀ t ∈ Raw m c,Rt (tmap (Ly lo d) t) := fun u hu => by
  obtain ⟨k1,k2,k3⟩ := hmem u hu
  refine ⟨⟨hsm _ k1,hsm _ k2,hsm _ k3⟩,?_⟩
  unfold tmap
  dsimp only
  rw [det_ly]
  have hne := (raw_right hf hu).2
  exact Int.mul_ne_zero (Int.mul_ne_zero (by omega) (by omega)) hne
 have hget : ∀ i,i < c.2.2.length → (Turn m c d).getD i zT = tmap (Ly lo d) ((Raw m c).getD i zT) ∧ (Raw m c).getD i zT ∈ Raw m c := fun i hi' => by
  rw [hT,List.getD_eq_getElem?_getD,List.getElem?_map,List.getD_eq_getElem?_getD,List.getElem?_eq_getElem (show i < (Raw m c).length by omega)]
  exact ⟨rfl,List.getElem_mem _⟩
 have htl : (Turn m c d).length = c.2.2.length := by rw [hT]; simp [hrl]
 refine (fapart_law _ (by omega)).2.2 fun i k h1 h2 => ?_
 rw [htl] at h1
 obtain ⟨g1,g2⟩ := hget i h1
 obtain ⟨g3,g4⟩ := hget k (by omega)
 rw [g1,g3,free_law]
 exact ⟨hright _ g2,hright _ g4,by rw [ov_ly lo hd.1]; exact gr_apart hm hg h1 h2⟩
theorem gr_lay (h0 : c.2.2 ≠ []) (hl : c.2.2.length < 1099511627776) {d : Int} (hd : 1 ≤ d ∧ d ≤ 64) :
  (¬ ((High m c d).1 ≤ 4096 ∧ (High m c d).2 ≤ 4096) ∧ flay (m,(c,d)) = (noP,2)) ∨ (((High m c d).1 ≤ 4096 ∧ (High m c d).2 ≤ 4096) ∧ flay (m,(c,d)) = ((c.2.2,(Turn m c d,(Sz (High m c d).1,Sz (High m c d).2))),0)) := by
 have hf := gr_fits hm hg
 obtain ⟨lo,hi,hB,e,hlo,hhi,hT,hH⟩ := gr_plain hm hg h0 hl hd
 have hb : (fbox (Raw m c)).2.2 = 0 := by rw [e]
 by_cases hh : (High m c d).1 ≤ 4096 ∧ (High m c d).2 ≤ 4096
 ·have hL : Laid m c d := ⟨hd,hf,hb,hh,gr_free hm hg h0 hl hd hh⟩
  rcases (flay_law m c d hl).2 with ⟨hn,_⟩ | ⟨_,hE⟩
  ·exact absurd hL hn
  ·exact .inr ⟨hh,hE⟩
 ·refine .inl ⟨hh,?_⟩
  rcases (flay_law m c d hl).2 with ⟨hn,e2,_,hE,_,h2⟩ | ⟨hL,_⟩
  ·rw [hE]
   rcases h2 with rfl | h2 | ⟨j,h2,h3⟩ | h2 | h2
   ·rfl
   ·exact absurd hd h2
   ·exact absurd (hf j h2) h3
   ·exact absurd hb h2
   ·exact absurd h2.1 hh
  ·exact absurd hL.high hh
end
theorem gr_less {lo hi : P2} {d d' : Int} (h1 : lo.1 ≤ hi.1) (h2 : lo.2 ≤ hi.2) (h : d' ≤ d) : (Ly lo d' hi).1 ≤ (Ly lo d hi).1 ∧ (Ly lo d' hi).2 ≤ (Ly lo d hi).2 :=
 ⟨Int.mul_le_mul_of_nonneg_left h (by omega),Int.mul_le_mul_of_nonneg_left h (by omega)⟩
end Go.Proofs.Ytpbbnoggkbfkoaa
