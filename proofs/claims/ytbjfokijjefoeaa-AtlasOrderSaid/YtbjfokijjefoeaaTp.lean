/- Sorting: slices.SortFunc. -/
import Derived.Test.YtbjfokijjefoeaaTn
namespace Go.Proofs.Ytbjfokijjefoeaa
open Go Go.Ev Go.Proofs
set_option linter.unusedVariables false
set_option linter.unusedSimpArgs false
def sp_pdqT : List (Nat × Ev.Spec) := (45,fnSpecW pdqT_S) :: sp_pInsM
theorem sp_pdqT_ok : SpecsOk Try.prog sp_pdqT := SpecsOk.add (fn := Try.f45) (by kernel_rfl) pdqT_ok sp_pInsM_ok
noncomputable def sortM (x : ((List Int) × (List ((List Int) × ((List I6) × I2))))) : (Bool × ((List Int) × Bool)) :=
 (letV (lenM (IntKind.wrap IntKind.u64 (((List.length x.1):Nat):Int))) fun y =>
 (letV (pdqT (x.1,((0:Int),((((List.length x.1):Nat):Int),(y,x.2))))) fun y_1 =>
 (false,(y_1.2.1,false))))
noncomputable def sortM_pre (x : ((List Int) × (List ((List Int) × ((List I6) × I2))))) : Prop :=
 ((lenM_pre (IntKind.wrap IntKind.u64 (((List.length x.1):Nat):Int))) ∧
 letP (lenM (IntKind.wrap IntKind.u64 (((List.length x.1):Nat):Int))) fun y =>
 ((pdqT_pre (x.1,((0:Int),((((List.length x.1):Nat):Int),(y,x.2))))) ∧
 letP (pdqT (x.1,((0:Int),((((List.length x.1):Nat):Int),(y,x.2))))) fun y_1 =>
 ((List.length y_1.2.1) = (List.length x.1))))
noncomputable def sortM_t (x : ((List Int) × (List ((List Int) × ((List I6) × I2))))) : Tr (Bool × ((List Int) × Bool)) true :=
 (.fn lenM_S (IntKind.wrap IntKind.u64 (nL x.1)) fun y =>
 (.fnW pdqT_S (x.1,(z0,((nL x.1),(y,x.2)))) fun y_1 =>
 (.pn 0 2
 (.og ((decide ((List.length y_1.2.1) = (List.length x.1))) && true) ((List.length y_1.2.1) = (List.length x.1)) (fun h => (and_t (decide_eq_true h) rfl))
 (.ret (false,(y_1.2.1,false)))))))
noncomputable abbrev sortM_S : FnW := ⟨(.pair (.row yi) (.val cmpP)),.none,sortM_pre,sortM⟩
theorem sortM_ok : SpecOk Try.prog 28 (fnSpecW sortM_S) := SpecOk.trW sortM_S sortM_t (fn := Try.f28) tt_ok sp_pdqT_ok mixed (by kernel_rfl) (ItsOk.nil _ _) (fun x => LpsOk.nil) (fun x => (by kernel_rfl)) fun x r0 Q => (by kernel_rfl)
def sp_sortM : List (Nat × Ev.Spec) := (28,fnSpecW sortM_S) :: sp_pdqT
theorem sp_sortM_ok : SpecsOk Try.prog sp_sortM := SpecsOk.add (fn := Try.f28) (by kernel_rfl) sortM_ok sp_pdqT_ok
abbrev most : Nat := 1000000
theorem most_le : most ≤ 1000000 := by decide
theorem len_p (n:Nat) : len64M_pre (n:Int) := by
 simp only [len64M_pre,u8w]
 repeat' (first | with_reducible apply And.intro | intro _)
 all_goals omega
noncomputable def srt (r : RT) (d : List Int) : List Int := d.mergeSort fun x y => !ltM r y x
theorem sort_law {r : RT} {d : List Int} (hf : Fine r d) (hm : d.length ≤ most) : sortM_pre (d,r) ∧ (sortM (d,r)).2.1 = srt r d := by
 have hl := hf.len
 have e : IntKind.wrap IntKind.u64 ((d.length:Nat):Int) = ((d.length:Nat):Int) := by rw [u64w]; omega
 have h := fun lim => pdqT_law (d := d) (a := 0) (b := d.length) lim hf (Nat.zero_le _) (Nat.le_refl _) (.inl rfl)
 refine ⟨?_,?_⟩
 ·simp only [sortM_pre,letP,e]
  exact ⟨len_p _,(h _).1,(h _).2.1.2.1⟩
 ·simp only [sortM,letV,e]
  have h2 := (h (lenM ((d.length:Nat):Int))).2
  have := Sort.sorted_unique_holds (ltM_swo r) (ltM_total r) d.toArray _ (by simpa using h2.1.1) (by simpa using h2.2)
  simpa [srt] using this
theorem srt_perm (r : RT) (d : List Int) : (srt r d).Perm d := List.mergeSort_perm _ _
theorem srt_fine {r : RT} {d : List Int} (hf : Fine r d) : Fine r (srt r d) :=
 ⟨by rw [(srt_perm r d).length_eq]; exact hf.len,fun e he => hf.ok e ((srt_perm r d).mem_iff.1 he),hf.ro⟩
end Go.Proofs.Ytbjfokijjefoeaa
