/- Model of law 14's EdgeDoes. -/
import Derived.Test.YtleemdeodmdnkaaEn
import Derived.Test.YtleemdeodmdnkaaMg
noncomputable section
set_option linter.unusedSectionVars false
set_option linter.unusedVariables false
set_option linter.unusedSimpArgs false
namespace Go.Proofs.Ytleemdeodmdnkaa
open Go Go.Ev Go.Proofs
theorem dloose_ok : SpecOk Try.prog 17 (deepSpec eloose_S 0 false) := deepSpec_ok eloose_ok rfl fun x => ⟨_,rfl⟩
def sp_dloose : List (Nat × Ev.Spec) := (17,(deepSpec eloose_S 0 false)) :: sp_r14all
theorem sp_dloose_ok : SpecsOk Try.prog sp_dloose := SpecsOk.add (fn := Try.f17) (by kernel_rfl) dloose_ok sp_r14all_ok
def sp_smudge : List (Nat × Ev.Spec) := (23,smudgeSpec) :: sp_dloose
theorem sp_smudge_ok : SpecsOk Try.prog sp_smudge := SpecsOk.add (fn := Try.f23) (by kernel_rfl) smudge_ok sp_dloose_ok
def edgeDoes (x : (((List I3) × ((List I2) × ((List I3) × (List I9)))) × (Int × ((List (Int × (Int × (List Int)))) × I2)))) : Bool :=
 (letV (few14 x.1) fun y =>
 (if ((!y) = true) then
 true else
 (letV (big14 x.2.2.1) fun y_1 =>
 (if (y_1 = true) then
 true else
 (letV (r14all x.2.2.1) fun y_2 =>
 (letV (eedges x.1) fun y_3 =>
 (letV (r14edges x.1) fun y_4 =>
 (letV (enext (x.1,x.2.1)) fun y_5 =>
 (letV (r14next (x.1,x.2.1)) fun y_6 =>
 (letV (eparts x.1) fun y_7 =>
 (letV (r14parts x.1) fun y_8 =>
 (letV (eloose x.2.2.1) fun y_9 =>
 (letV (efind x.2.2) fun y_10 =>
 (letV (r14find (y_2,x.2.2.2)) fun y_11 =>
 (letV (same14 (y_3.1,y_4.1)) fun y_12 =>
 (if (y_12 = true) then
 (if ((y_3.2 == y_4.2) = true) then
 (letV (same01 (y_5.1,y_6.1)) fun y_13 =>
 (if (y_13 = true) then
 (if ((y_5.2 == y_6.2) = true) then
 (letV (same01 (y_7.1,y_8.1)) fun y_14 =>
 (if (y_14 = true) then
 (if ((y_7.2 == y_8.2) = true) then
 (letV (r14loose y_2) fun y_15 =>
 (letV (same14 (y_9,y_15)) fun y_16 =>
 (if (y_16 = true) then
 (letV (same14 ([y_10.1],[y_11.1])) fun y_17 =>
 (if (y_17 = true) then
 (letV (edged false) fun y_18 =>
 (if (y_18 = true) then
 (if ((y_10.2 == y_11.2) = true) then
 (letV (same14 (x.2.2.1,y_2)) fun y_19 =>
 y_19) else
 false) else
 false)) else
 (letV (edged false) fun y_18 =>
 (if (y_18 = true) then
 false else
 false)))) else
 (letV (edged false) fun y_17 =>
 (if (y_17 = true) then
 false else
 false))))) else
 (letV (edged false) fun y_15 =>
 (if (y_15 = true) then
 false else
 false))) else
 (letV (edged false) fun y_15 =>
 (if (y_15 = true) then
 false else
 false)))) else
 (letV (edged false) fun y_14 =>
 (if (y_14 = true) then
 false else
 false))) else
 (letV (edged false) fun y_14 =>
 (if (y_14 = true) then
 false else
 false)))) else
 (letV (edged false) fun y_13 =>
 (if (y_13 = true) then
 false else
 false))) else
 (letV (edged false) fun y_13 =>
 (if (y_13 = true) then
 false else
 false))))))))))))))))))
def edgeDoes_pre (x : (((List I3) × ((List I2) × ((List I3) × (List I9)))) × (Int × ((List (Int × (Int × (List Int)))) × I2)))) : Prop :=
 (letP (few14 x.1) fun y =>
 (¬ ((!y) = true) →
 ((big14_pre x.2.2.1) ∧
 letP (big14 x.2.2.1) fun y_1 =>
 (¬ (y_1 = true) →
 ((r14all_pre x.2.2.1) ∧
 letP (r14all x.2.2.1) fun y_2 =>
 ((eedges_pre x.1) ∧
 letP (eedges x.1) fun y_3 =>
 ((r14edges_pre x.1) ∧
 letP (r14edges x.1) fun y_4 =>
 ((enext_pre (x.1,x.2.1)) ∧
 letP (enext (x.1,x.2.1)) fun y_5 =>
 ((r14next_pre (x.1,x.2.1)) ∧
 letP (r14next (x.1,x.2.1)) fun y_6 =>
 ((eparts_pre x.1) ∧
 letP (eparts x.1) fun y_7 =>
 ((r14parts_pre x.1) ∧
 letP (r14parts x.1) fun y_8 =>
 ((eloose_pre x.2.2.1) ∧
 letP (eloose x.2.2.1) fun y_9 =>
 ((efind_pre x.2.2) ∧
 letP (efind x.2.2) fun y_10 =>
 ((r14find_pre (y_2,x.2.2.2)) ∧
 letP (r14find (y_2,x.2.2.2)) fun y_11 =>
 ((same14_pre (y_3.1,y_4.1)) ∧
 letP (same14 (y_3.1,y_4.1)) fun y_12 =>
 (((y_12 = true) →
 ((((y_3.2 == y_4.2) = true) →
 ((same01_pre (y_5.1,y_6.1)) ∧
 letP (same01 (y_5.1,y_6.1)) fun y_13 =>
 (((y_13 = true) →
 ((((y_5.2 == y_6.2) = true) →
 ((same01_pre (y_7.1,y_8.1)) ∧
 letP (same01 (y_7.1,y_8.1)) fun y_14 =>
 (((y_14 = true) →
 ((((y_7.2 == y_8.2) = true) →
 ((r14loose_pre y_2) ∧
 letP (r14loose y_2) fun y_15 =>
 ((same14_pre (y_9,y_15)) ∧
 letP (same14 (y_9,y_15)) fun y_16 =>
 (((y_16 = true) →
 ((same14_pre ([y_10.1],[y_11.1])) ∧
 letP (same14 ([y_10.1],[y_11.1])) fun y_17 =>
 (((y_17 = true) →
 (((smallE y_9) = true) ∧
 (((List.length y_10.1.2.2) < 4611686018427387904) ∧
 ((edged_pre false) ∧
 letP (edged false) fun y_18 =>
 ((y_18 = true) →
 (((y_10.2 == y_11.2) = true) →
 (same14_pre (x.2.2.1,y_2)))))))) ∧
 (¬ (y_17 = true) →
 (((smallE y_9) = true) ∧
 (((List.length y_10.1.2.2) < 4611686018427387904) ∧
 (edged_pre false))))))) ∧
 (¬ (y_16 = true) →
 (((smallE y_9) = true) ∧
 (((List.length y_10.1.2.2) < 4611686018427387904) ∧
 (edged_pre false)))))))) ∧
 (¬ ((y_7.2 == y_8.2) = true) →
 (((smallE y_9) = true) ∧
 (((List.length y_10.1.2.2) < 4611686018427387904) ∧
 (edged_pre false)))))) ∧
 (¬ (y_14 = true) →
 (((smallE y_9) = true) ∧
 (((List.length y_10.1.2.2) < 4611686018427387904) ∧
 (edged_pre false))))))) ∧
 (¬ ((y_5.2 == y_6.2) = true) →
 (((smallE y_9) = true) ∧
 (((List.length y_10.1.2.2) < 4611686018427387904) ∧
 (edged_pre false)))))) ∧
 (¬ (y_13 = true) →
 (((smallE y_9) = true) ∧
 (((List.length y_10.1.2.2) < 4611686018427387904) ∧
 (edged_pre false))))))) ∧
 (¬ ((y_3.2 == y_4.2) = true) →
 (((smallE y_9) = true) ∧
 (((List.length y_10.1.2.2) < 4611686018427387904) ∧
 (edged_pre false)))))) ∧
 (¬ (y_12 = true) →
 (((smallE y_9) = true) ∧
 (((List.length y_10.1.2.2) < 4611686018427387904) ∧
 (edged_pre false))))))))))))))))))))
def edgeDoes_t (x : (((List I3) × ((List I2) × ((List I3) × (List I9)))) × (Int × ((List (Int × (Int × (List Int)))) × I2)))) : Tr Bool true :=
 (.fn0 few14_S x.1 trivial fun y =>
 (.b01 (!y)
 (.ret true)
 (.fn big14_S x.2.2.1 fun y_1 =>
 (.b01 y_1
 (.ret true)
 (.fn r14all_S x.2.2.1 fun y_2 =>
 (.fn eedges_S x.1 fun y_3 =>
 (.fn r14edges_S x.1 fun y_4 =>
 (.fn enext_S (x.1,x.2.1) fun y_5 =>
 (.fn r14next_S (x.1,x.2.1) fun y_6 =>
 (.fn eparts_S x.1 fun y_7 =>
 (.fn r14parts_S x.1 fun y_8 =>
 (.fn eloose_S x.2.2.1 fun y_9 =>
 (.fn efind_S x.2.2 fun y_10 =>
 (.fn r14find_S (y_2,x.2.2.2) fun y_11 =>
 (.fn same14_S (y_3.1,y_4.1) fun y_12 =>
 (.b11 y_12
 (.b11 (y_3.2 == y_4.2)
 (.fn same01_S (y_5.1,y_6.1) fun y_13 =>
 (.b11 y_13
 (.b11 (y_5.2 == y_6.2)
 (.fn same01_S (y_7.1,y_8.1) fun y_14 =>
 (.b11 y_14
 (.b11 (y_7.2 == y_8.2)
 (.fn r14loose_S y_2 fun y_15 =>
 (.fn same14_S (y_9,y_15) fun y_16 =>
 (.b11 y_16
 (.fn same14_S ([y_10.1],[y_11.1]) fun y_17 =>
 (.b11 y_17
 (.ob (smallE y_9)
 (.od ((List.length y_10.1.2.2) < 4611686018427387904)
 (.fn edged_S false fun y_18 =>
 (.b10 y_18
 (.b10 (y_10.2 == y_11.2)
 (.fn same14_S (x.2.2.1,y_2) fun y_19 =>
 (.ret y_19))
 (.ret false))
 (.ret false)))))
 (.ob (smallE y_9)
 (.od ((List.length y_10.1.2.2) < 4611686018427387904)
 (.fn edged_S false fun y_18 =>
 (.b00 y_18
 (.ret false)
 (.ret false)))))))
 (.ob (smallE y_9)
 (.od ((List.length y_10.1.2.2) < 4611686018427387904)
 (.fn edged_S false fun y_17 =>
 (.b00 y_17
 (.ret false)
 (.ret false))))))))
 (.ob (smallE y_9)
 (.od ((List.length y_10.1.2.2) < 4611686018427387904)
 (.fn edged_S false fun y_15 =>
 (.b00 y_15
 (.ret false)
 (.ret false))))))
 (.ob (smallE y_9)
 (.od ((List.length y_10.1.2.2) < 4611686018427387904)
 (.fn edged_S false fun y_15 =>
 (.b00 y_15
 (.ret false)
 (.ret false)))))))
 (.ob (smallE y_9)
 (.od ((List.length y_10.1.2.2) < 4611686018427387904)
 (.fn edged_S false fun y_14 =>
 (.b00 y_14
 (.ret false)
 (.ret false))))))
 (.ob (smallE y_9)
 (.od ((List.length y_10.1.2.2) < 4611686018427387904)
 (.fn edged_S false fun y_14 =>
 (.b00 y_14
 (.ret false)
 (.ret false)))))))
 (.ob (smallE y_9)
 (.od ((List.length y_10.1.2.2) < 4611686018427387904)
 (.fn edged_S false fun y_13 =>
 (.b00 y_13
 (.ret false)
 (.ret false))))))
 (.ob (smallE y_9)
 (.od ((List.length y_10.1.2.2) < 4611686018427387904)
 (.fn edged_S false fun y_13 =>
 (.b00 y_13
 (.ret false)
 (.ret false)))))))))))))))))))))
abbrev edgeDoes_S : FnS := ⟨(.pair (.agg (Ty.prod (Ty.sl yy3) (Ty.prod (Ty.sl yy2) (Ty.prod (Ty.sl yy3) (Ty.sl yy9))))) (.pair (.one yi) (.pair (.one (Ty.sl (Ty.prod yi (Ty.prod yi (Ty.sl yi))))) (.pair (.one yi) (.one yi))))),(.one Ty.bool),edgeDoes_pre,edgeDoes⟩
theorem edgeDoes_ok : SpecOk Try.prog 3 (fnSpec edgeDoes_S) := SpecOk.tr edgeDoes_S edgeDoes_t (fn := Try.f3) tt_ok sp_smudge_ok mixed (by kernel_rfl) (ItsOk.nil _ _) (fun x => LpsOk.nil) (fun x => (by kernel_rfl)) fun x Q => (by kernel_rfl)
end Go.Proofs.Ytleemdeodmdnkaa

namespace Go.Proofs.Ytleemdeodmdnkaa
open Go Go.Ev Go.Proofs
theorem sml_nil : Sml [] := ⟨Nat.zero_le _,fun e he => by cases he⟩
theorem sml_small {l : List EdgeV} (h : Sml l) : smallE l = true := by
 unfold smallE
 simp only [Bool.and_eq_true,List.all_eq_true,decide_eq_true_eq]
 exact ⟨by have := h.1; omega,fun e he => by have := h.2 e he; omega⟩
theorem beq_refl' {α : Type} [BEq α] [LawfulBEq α] {a b : α} (h : b = a) : (a == b) = true := by rw [h]; simp
theorem does_law (x : Msh × (Int × (List EdgeV × P2))) : edgeDoes_pre x ∧ edgeDoes x = true := by
 obtain ⟨m,i,l,ab⟩ := x
 obtain ⟨a,b⟩ := ab
 cases hf : few14 m with
 | false =>
  constructor
  ·unfold edgeDoes_pre
   exact letP_i fun h => by dsimp only at h; rw [hf] at h; exact absurd rfl h
  ·unfold edgeDoes
   rw [letV_e]
   dsimp only
   rw [hf,if_pos (by decide)]
 | true =>
  obtain ⟨l1,l2,l3,l4⟩ := few14_law hf
  obtain ⟨b1,b2⟩ := big14_law l
  cases hb : big14 l with
  | true =>
   constructor
   ·unfold edgeDoes_pre
    exact letP_i fun _ => ⟨b1,letP_i fun h => absurd hb h⟩
   ·unfold edgeDoes
    rw [letV_e]
    dsimp only
    rw [hf,if_neg (by decide),letV_e,hb,if_pos rfl]
  | false =>
   obtain ⟨bl,bt⟩ := b2 hb
   have hs : Sml l := ⟨by omega,fun e he => by have := bt e he; omega⟩
   have hf' : Sml (l.filter lone) := ⟨Nat.le_trans (List.length_filter_le _ _) hs.1,fun e he => hs.2 e (List.mem_filter.1 he).1⟩
   obtain ⟨al1,al2⟩ := r14all_law hs
   have ed : eedges_pre m ∧ Sml (eedges m).1 := by
    cases hm : meshB m with
    | true =>
     obtain ⟨g1,g2,g3,g4⟩ := eedges_law hm
     exact ⟨g1,g3.sml (by omega) g4⟩
    | false =>
     obtain ⟨g1,g2⟩ := eedges_bad hm
     exact ⟨g1,by rw [g2]; exact sml_nil⟩
   obtain ⟨re1,re2⟩ := r14edges_law m
   have en : enext_pre (m,i) ∧ (enext (m,i)).1.length ≤ 4500 := by
    by_cases h : meshB m = true ∧ Has m i
    ·obtain ⟨g1,_,g3,_⟩ := enext_full h.1 h.2
     exact ⟨g1,g3⟩
    ·obtain ⟨g1,g2⟩ := enext_bad (m := m) (i := i) (by
      cases hm : meshB m with
      | true => exact .inr fun q => h ⟨hm,q⟩
      | false => exact .inl rfl)
     exact ⟨g1,by rw [g2]; exact Nat.zero_le _⟩
   obtain ⟨rn1,rn2⟩ := r14next_full m i
   have ep : eparts_pre m ∧ (eparts m).1.length ≤ 4500 := by
    cases hm : meshB m with
    | true =>
     obtain ⟨g1,_,g3⟩ := eparts_law hm
     exact ⟨g1,by rw [g3.len]; omega⟩
    | false =>
     obtain ⟨g1,g2⟩ := eparts_bad hm
     exact ⟨g1,by rw [g2]; exact Nat.zero_le _⟩
   obtain ⟨rp1,rp2⟩ := r14parts_law m
   obtain ⟨lo1,lo2⟩ := eloose_law hs
   obtain ⟨rl1,rl2⟩ := r14loose_law hs
   obtain ⟨fi1,fi2⟩ := efind_at hs a b
   obtain ⟨rf1,rf2⟩ := r14find_law hs a b
   have hv : Sml [(efind (l,(a,b))).1] := by
    refine ⟨by simp,fun e he => ?_⟩
    rw [List.mem_singleton] at he
    subst he
    rw [fi2]
    split
    ·rename_i j hj
     have hjl : j < l.length := (List.findIdx?_eq_some_iff_findIdx_eq.1 hj).1
     exact hs.2 _ (getD_in hjl _)
    ·exact Nat.zero_le _
   have hvl : (efind (l,(a,b))).1.2.2.length < 4611686018427387904 := by have := hv.2 _ (List.mem_singleton.2 rfl); omega
   have hlo : Sml (eloose l) := by rw [lo2]; exact hf'
   have s12 : same14_pre ((eedges m).1,(r14edges m).1) ∧ same14 ((eedges m).1,(r14edges m).1) = true := by rw [re2]; exact same14_law ed.2
   have s13 : same01_pre ((enext (m,i)).1,(r14next (m,i)).1) ∧ same01 ((enext (m,i)).1,(r14next (m,i)).1) = true := by
    rw [rn2]
    obtain ⟨g1,g2⟩ := same01_law (x := (enext (m,i)).1) (y := (enext (m,i)).1) (by have := en.2; omega)
    exact ⟨g1,by rw [g2]; simp⟩
   have s14 : same01_pre ((eparts m).1,(r14parts m).1) ∧ same01 ((eparts m).1,(r14parts m).1) = true := by
    rw [rp2]
    obtain ⟨g1,g2⟩ := same01_law (x := (eparts m).1) (y := (eparts m).1) (by have := ep.2; omega)
    exact ⟨g1,by rw [g2]; simp⟩
   have s16 : same14_pre (eloose l,r14loose (r14all l)) ∧ same14 (eloose l,r14loose (r14all l)) = true := by rw [al2,rl2]; exact same14_law hlo
   have s17 : same14_pre ([(efind (l,(a,b))).1],[(r14find (r14all l,(a,b))).1]) ∧ same14 ([(efind (l,(a,b))).1],[(r14find (r14all l,(a,b))).1]) = true := by rw [al2,rf2]; exact same14_law hv
   have s19 : same14_pre (l,r14all l) ∧ same14 (l,r14all l) = true := by rw [al2]; exact same14_law hs
   have q3 : ((eedges m).2 == (r14edges m).2) = true := beq_refl' (by rw [re2])
   have q5 : ((enext (m,i)).2 == (r14next (m,i)).2) = true := beq_refl' (by rw [rn2])
   have q7 : ((eparts m).2 == (r14parts m).2) = true := beq_refl' (by rw [rp2])
   have q10 : ((efind (l,(a,b))).2 == (r14find (r14all l,(a,b))).2) = true := beq_refl' (by rw [al2,rf2])
   have rf1' : r14find_pre (r14all l,(a,b)) := by rw [al2]; exact rf1
   have rl1' : r14loose_pre (r14all l) := by rw [al2]; exact rl1
   have sm := sml_small hlo
   obtain ⟨e1,e2⟩ := edged_law
   constructor
   ·unfold edgeDoes_pre
    exact letP_i fun _ => ⟨b1,letP_i fun _ => ⟨al1,letP_i ⟨ed.1,letP_i ⟨re1,letP_i ⟨en.1,letP_i ⟨rn1,letP_i ⟨ep.1,letP_i ⟨rp1,letP_i ⟨lo1,letP_i ⟨fi1,letP_i ⟨rf1',letP_i ⟨s12.1,letP_i
     ⟨fun _ => ⟨fun _ => ⟨s13.1,letP_i ⟨fun _ => ⟨fun _ => ⟨s14.1,letP_i ⟨fun _ => ⟨fun _ => ⟨rl1',letP_i ⟨s16.1,letP_i ⟨fun _ => ⟨s17.1,letP_i ⟨fun _ => ⟨sm,hvl,e1,letP_i fun _ _ => s19.1⟩,fun h => absurd s17.2 h⟩⟩,fun h => absurd s16.2 h⟩⟩⟩,
      fun h => absurd q7 h⟩,fun h => absurd s14.2 h⟩⟩,fun h => absurd q5 h⟩,fun h => absurd s13.2 h⟩⟩,fun h => absurd q3 h⟩,fun h => absurd s12.2 h⟩⟩⟩⟩⟩⟩⟩⟩⟩⟩⟩⟩⟩
   ·unfold edgeDoes
    rw [letV_e]
    dsimp only
    rw [hf,if_neg (by decide),letV_e,hb,if_neg (by decide),letV_e,letV_e,letV_e,letV_e,letV_e,letV_e,letV_e,letV_e,letV_e,letV_e,letV_e,s12.2,if_pos rfl,if_pos q3,letV_e,s13.2,if_pos rfl,if_pos q5,letV_e,s14.2,if_pos rfl,if_pos q7,letV_e,letV_e,s16.2,if_pos rfl,letV_e,s17.2,if_pos rfl,letV_e,e2,if_pos rfl,if_pos q10,letV_e,s19.2]
end Go.Proofs.Ytleemdeodmdnkaa
