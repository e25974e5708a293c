/- Model of law 15's ChartDoes. -/
import Derived.Test.YtkbmjhabfjgoiaaGreatCj
import Derived.Test.YtkbmjhabfjgoiaaGreatNd
noncomputable section
set_option linter.unusedSectionVars false
set_option linter.unusedVariables false
set_option linter.unusedSimpArgs false
namespace Go.Proofs.YtkbmjhabfjgoiaaGreat
open Go Go.Ev Go.Proofs
def chartDoes (x : (((List I3) × ((List I2) × ((List I3) × (List I9)))) × (Int × (Int × ((Int × (Int × (List Int))) × (List (Int × (Int × (List Int))))))))) : Bool :=
 (letV (few15 (x.1,x.2.2.2.2)) fun y =>
 (if ((!y) = true) then
 true else
 (if ((x.2.2.2.1.2.2.length:Int) > (20:Int)) then
 true else
 (letV (own08 x.1) fun y_1 =>
 (letV (facing (x.1,x.2.1)) fun y_2 =>
 (letV (r15facing (y_1,x.2.1)) fun y_3 =>
 (letV (shadow (x.1,(x.2.1,x.2.2.1))) fun y_4 =>
 (letV (r15shadow (y_1,(x.2.1,x.2.2.1))) fun y_5 =>
 (letV (cgrow x.1) fun y_6 =>
 (letV (r15grow y_1) fun y_7 =>
 (if ((y_2.1 == y_3.1) = true) then
 (if ((y_2.2.1 == y_3.2.1) = true) then
 (if ((y_2.2.2 == y_3.2.2) = true) then
 (if ((((y_4.1.1.1 == y_5.1.1.1) && ((y_4.1.1.2 == y_5.1.1.2) && true)) && (((y_4.1.2.1.1 == y_5.1.2.1.1) && ((y_4.1.2.1.2 == y_5.1.2.1.2) && true)) && (((y_4.1.2.2.1 == y_5.1.2.2.1) && ((y_4.1.2.2.2 == y_5.1.2.2.2) && true)) && true))) = true) then
 (if ((y_4.2 == y_5.2) = true) then
 (letV (same15 (y_6.1,y_7.1)) fun y_8 =>
 (if (y_8 = true) then
 (letV (cfits (x.1,(x.2.2.2.1,x.2.1))) fun y_9 =>
 (letV (r15fits (y_1,(x.2.2.2.1,x.2.1))) fun y_10 =>
 (if ((y_9 == y_10) = true) then
 (letV (cis (x.1,x.2.2.2.2)) fun y_11 =>
 (letV (r15is (y_1,x.2.2.2.2)) fun y_12 =>
 (if ((y_11 == y_12) = true) then
 (letV (tame x.1) fun y_13 =>
 (letV (r15tame y_1) fun y_14 =>
 (letV (charted false) fun y_15 =>
 (if (y_15 = true) then
 (if ((y_6.2 == y_7.2) = true) then
 (if ((y_13 == y_14) = true) then
 (letV (r8same (x.1,y_1)) fun y_16 =>
 y_16) else
 false) else
 false) else
 false)))) else
 (letV (charted false) fun y_13 =>
 (if (y_13 = true) then
 (if ((y_6.2 == y_7.2) = true) then
 false else
 false) else
 false))))) else
 (letV (charted false) fun y_11 =>
 (if (y_11 = true) then
 (if ((y_6.2 == y_7.2) = true) then
 false else
 false) else
 false))))) else
 (letV (cfits (x.1,(x.2.2.2.1,x.2.1))) fun y_9 =>
 (letV (r15fits (y_1,(x.2.2.2.1,x.2.1))) fun y_10 =>
 (if ((y_9 == y_10) = true) then
 (letV (cis (x.1,x.2.2.2.2)) fun y_11 =>
 (letV (r15is (y_1,x.2.2.2.2)) fun y_12 =>
 (if ((y_11 == y_12) = true) then
 (letV (tame x.1) fun y_13 =>
 (letV (r15tame y_1) fun y_14 =>
 (letV (charted false) fun y_15 =>
 (if (y_15 = true) then
 false else
 false)))) else
 (letV (charted false) fun y_13 =>
 (if (y_13 = true) then
 false else
 false))))) else
 (letV (charted false) fun y_11 =>
 (if (y_11 = true) then
 false else
 false))))))) else
 (letV (cfits (x.1,(x.2.2.2.1,x.2.1))) fun y_8 =>
 (letV (r15fits (y_1,(x.2.2.2.1,x.2.1))) fun y_9 =>
 (if ((y_8 == y_9) = true) then
 (letV (cis (x.1,x.2.2.2.2)) fun y_10 =>
 (letV (r15is (y_1,x.2.2.2.2)) fun y_11 =>
 (if ((y_10 == y_11) = true) then
 (letV (tame x.1) fun y_12 =>
 (letV (r15tame y_1) fun y_13 =>
 (letV (charted false) fun y_14 =>
 (if (y_14 = true) then
 false else
 false)))) else
 (letV (charted false) fun y_12 =>
 (if (y_12 = true) then
 false else
 false))))) else
 (letV (charted false) fun y_10 =>
 (if (y_10 = true) then
 false else
 false)))))) else
 (letV (cfits (x.1,(x.2.2.2.1,x.2.1))) fun y_8 =>
 (letV (r15fits (y_1,(x.2.2.2.1,x.2.1))) fun y_9 =>
 (if ((y_8 == y_9) = true) then
 (letV (cis (x.1,x.2.2.2.2)) fun y_10 =>
 (letV (r15is (y_1,x.2.2.2.2)) fun y_11 =>
 (if ((y_10 == y_11) = true) then
 (letV (tame x.1) fun y_12 =>
 (letV (r15tame y_1) fun y_13 =>
 (letV (charted false) fun y_14 =>
 (if (y_14 = true) then
 false else
 false)))) else
 (letV (charted false) fun y_12 =>
 (if (y_12 = true) then
 false else
 false))))) else
 (letV (charted false) fun y_10 =>
 (if (y_10 = true) then
 false else
 false)))))) else
 (letV (cfits (x.1,(x.2.2.2.1,x.2.1))) fun y_8 =>
 (letV (r15fits (y_1,(x.2.2.2.1,x.2.1))) fun y_9 =>
 (if ((y_8 == y_9) = true) then
 (letV (cis (x.1,x.2.2.2.2)) fun y_10 =>
 (letV (r15is (y_1,x.2.2.2.2)) fun y_11 =>
 (if ((y_10 == y_11) = true) then
 (letV (tame x.1) fun y_12 =>
 (letV (r15tame y_1) fun y_13 =>
 (letV (charted false) fun y_14 =>
 (if (y_14 = true) then
 false else
 false)))) else
 (letV (charted false) fun y_12 =>
 (if (y_12 = true) then
 false else
 false))))) else
 (letV (charted false) fun y_10 =>
 (if (y_10 = true) then
 false else
 false)))))) else
 (letV (cfits (x.1,(x.2.2.2.1,x.2.1))) fun y_8 =>
 (letV (r15fits (y_1,(x.2.2.2.1,x.2.1))) fun y_9 =>
 (if ((y_8 == y_9) = true) then
 (letV (cis (x.1,x.2.2.2.2)) fun y_10 =>
 (letV (r15is (y_1,x.2.2.2.2)) fun y_11 =>
 (if ((y_10 == y_11) = true) then
 (letV (tame x.1) fun y_12 =>
 (letV (r15tame y_1) fun y_13 =>
 (letV (charted false) fun y_14 =>
 (if (y_14 = true) then
 false else
 false)))) else
 (letV (charted false) fun y_12 =>
 (if (y_12 = true) then
 false else
 false))))) else
 (letV (charted false) fun y_10 =>
 (if (y_10 = true) then
 false else
 false)))))) else
 (letV (cfits (x.1,(x.2.2.2.1,x.2.1))) fun y_8 =>
 (letV (r15fits (y_1,(x.2.2.2.1,x.2.1))) fun y_9 =>
 (if ((y_8 == y_9) = true) then
 (letV (cis (x.1,x.2.2.2.2)) fun y_10 =>
 (letV (r15is (y_1,x.2.2.2.2)) fun y_11 =>
 (if ((y_10 == y_11) = true) then
 (letV (tame x.1) fun y_12 =>
 (letV (r15tame y_1) fun y_13 =>
 (letV (charted false) fun y_14 =>
 (if (y_14 = true) then
 false else
 false)))) else
 (letV (charted false) fun y_12 =>
 (if (y_12 = true) then
 false else
 false))))) else
 (letV (charted false) fun y_10 =>
 (if (y_10 = true) then
 false else
 false))))))))))))))))
def chartDoes_pre (x : (((List I3) × ((List I2) × ((List I3) × (List I9)))) × (Int × (Int × ((Int × (Int × (List Int))) × (List (Int × (Int × (List Int))))))))) : Prop :=
 ((few15_pre (x.1,x.2.2.2.2)) ∧
 letP (few15 (x.1,x.2.2.2.2)) fun y =>
 (¬ ((!y) = true) →
 (¬ ((x.2.2.2.1.2.2.length:Int) > (20:Int)) →
 ((own08_pre x.1) ∧
 letP (own08 x.1) fun y_1 =>
 ((facing_pre (x.1,x.2.1)) ∧
 letP (facing (x.1,x.2.1)) fun y_2 =>
 ((r15facing_pre (y_1,x.2.1)) ∧
 letP (r15facing (y_1,x.2.1)) fun y_3 =>
 ((shadow_pre (x.1,(x.2.1,x.2.2.1))) ∧
 letP (shadow (x.1,(x.2.1,x.2.2.1))) fun y_4 =>
 ((r15shadow_pre (y_1,(x.2.1,x.2.2.1))) ∧
 letP (r15shadow (y_1,(x.2.1,x.2.2.1))) fun y_5 =>
 ((cgrow_pre x.1) ∧
 letP (cgrow x.1) fun y_6 =>
 ((r15grow_pre y_1) ∧
 letP (r15grow y_1) fun y_7 =>
 ((((y_2.1 == y_3.1) = true) →
 ((((y_2.2.1 == y_3.2.1) = true) →
 ((((y_2.2.2 == y_3.2.2) = true) →
 ((((((y_4.1.1.1 == y_5.1.1.1) && ((y_4.1.1.2 == y_5.1.1.2) && true)) && (((y_4.1.2.1.1 == y_5.1.2.1.1) && ((y_4.1.2.1.2 == y_5.1.2.1.2) && true)) && (((y_4.1.2.2.1 == y_5.1.2.2.1) && ((y_4.1.2.2.2 == y_5.1.2.2.2) && true)) && true))) = true) →
 ((((y_4.2 == y_5.2) = true) →
 ((same15_pre (y_6.1,y_7.1)) ∧
 letP (same15 (y_6.1,y_7.1)) fun y_8 =>
 (((y_8 = true) →
 ((cfits_pre (x.1,(x.2.2.2.1,x.2.1))) ∧
 letP (cfits (x.1,(x.2.2.2.1,x.2.1))) fun y_9 =>
 ((r15fits_pre (y_1,(x.2.2.2.1,x.2.1))) ∧
 letP (r15fits (y_1,(x.2.2.2.1,x.2.1))) fun y_10 =>
 ((((y_9 == y_10) = true) →
 ((cis_pre (x.1,x.2.2.2.2)) ∧
 letP (cis (x.1,x.2.2.2.2)) fun y_11 =>
 ((r15is_pre (y_1,x.2.2.2.2)) ∧
 letP (r15is (y_1,x.2.2.2.2)) fun y_12 =>
 ((((y_11 == y_12) = true) →
 ((tame_pre x.1) ∧
 letP (tame x.1) fun y_13 =>
 ((r15tame_pre y_1) ∧
 letP (r15tame y_1) fun y_14 =>
 ((charted_pre false) ∧
 letP (charted false) fun y_15 =>
 ((y_15 = true) →
 (((y_6.2 == y_7.2) = true) →
 (((y_13 == y_14) = true) →
 (r8same_pre (x.1,y_1))))))))) ∧
 (¬ ((y_11 == y_12) = true) →
 (charted_pre false)))))) ∧
 (¬ ((y_9 == y_10) = true) →
 (charted_pre false)))))) ∧
 (¬ (y_8 = true) →
 ((cfits_pre (x.1,(x.2.2.2.1,x.2.1))) ∧
 letP (cfits (x.1,(x.2.2.2.1,x.2.1))) fun y_9 =>
 ((r15fits_pre (y_1,(x.2.2.2.1,x.2.1))) ∧
 letP (r15fits (y_1,(x.2.2.2.1,x.2.1))) fun y_10 =>
 ((((y_9 == y_10) = true) →
 ((cis_pre (x.1,x.2.2.2.2)) ∧
 letP (cis (x.1,x.2.2.2.2)) fun y_11 =>
 ((r15is_pre (y_1,x.2.2.2.2)) ∧
 letP (r15is (y_1,x.2.2.2.2)) fun y_12 =>
 ((((y_11 == y_12) = true) →
 ((tame_pre x.1) ∧
 letP (tame x.1) fun y_13 =>
 ((r15tame_pre y_1) ∧
 letP (r15tame y_1) fun y_14 =>
 (charted_pre false)))) ∧
 (¬ ((y_11 == y_12) = true) →
 (charted_pre false)))))) ∧
 (¬ ((y_9 == y_10) = true) →
 (charted_pre false))))))))) ∧
 (¬ ((y_4.2 == y_5.2) = true) →
 ((cfits_pre (x.1,(x.2.2.2.1,x.2.1))) ∧
 letP (cfits (x.1,(x.2.2.2.1,x.2.1))) fun y_8 =>
 ((r15fits_pre (y_1,(x.2.2.2.1,x.2.1))) ∧
 letP (r15fits (y_1,(x.2.2.2.1,x.2.1))) fun y_9 =>
 ((((y_8 == y_9) = true) →
 ((cis_pre (x.1,x.2.2.2.2)) ∧
 letP (cis (x.1,x.2.2.2.2)) fun y_10 =>
 ((r15is_pre (y_1,x.2.2.2.2)) ∧
 letP (r15is (y_1,x.2.2.2.2)) fun y_11 =>
 ((((y_10 == y_11) = true) →
 ((tame_pre x.1) ∧
 letP (tame x.1) fun y_12 =>
 ((r15tame_pre y_1) ∧
 letP (r15tame y_1) fun y_13 =>
 (charted_pre false)))) ∧
 (¬ ((y_10 == y_11) = true) →
 (charted_pre false)))))) ∧
 (¬ ((y_8 == y_9) = true) →
 (charted_pre false)))))))) ∧
 (¬ ((((y_4.1.1.1 == y_5.1.1.1) && ((y_4.1.1.2 == y_5.1.1.2) && true)) && (((y_4.1.2.1.1 == y_5.1.2.1.1) && ((y_4.1.2.1.2 == y_5.1.2.1.2) && true)) && (((y_4.1.2.2.1 == y_5.1.2.2.1) && ((y_4.1.2.2.2 == y_5.1.2.2.2) && true)) && true))) = true) →
 ((cfits_pre (x.1,(x.2.2.2.1,x.2.1))) ∧
 letP (cfits (x.1,(x.2.2.2.1,x.2.1))) fun y_8 =>
 ((r15fits_pre (y_1,(x.2.2.2.1,x.2.1))) ∧
 letP (r15fits (y_1,(x.2.2.2.1,x.2.1))) fun y_9 =>
 ((((y_8 == y_9) = true) →
 ((cis_pre (x.1,x.2.2.2.2)) ∧
 letP (cis (x.1,x.2.2.2.2)) fun y_10 =>
 ((r15is_pre (y_1,x.2.2.2.2)) ∧
 letP (r15is (y_1,x.2.2.2.2)) fun y_11 =>
 ((((y_10 == y_11) = true) →
 ((tame_pre x.1) ∧
 letP (tame x.1) fun y_12 =>
 ((r15tame_pre y_1) ∧
 letP (r15tame y_1) fun y_13 =>
 (charted_pre false)))) ∧
 (¬ ((y_10 == y_11) = true) →
 (charted_pre false)))))) ∧
 (¬ ((y_8 == y_9) = true) →
 (charted_pre false)))))))) ∧
 (¬ ((y_2.2.2 == y_3.2.2) = true) →
 ((cfits_pre (x.1,(x.2.2.2.1,x.2.1))) ∧
 letP (cfits (x.1,(x.2.2.2.1,x.2.1))) fun y_8 =>
 ((r15fits_pre (y_1,(x.2.2.2.1,x.2.1))) ∧
 letP (r15fits (y_1,(x.2.2.2.1,x.2.1))) fun y_9 =>
 ((((y_8 == y_9) = true) →
 ((cis_pre (x.1,x.2.2.2.2)) ∧
 letP (cis (x.1,x.2.2.2.2)) fun y_10 =>
 ((r15is_pre (y_1,x.2.2.2.2)) ∧
 letP (r15is (y_1,x.2.2.2.2)) fun y_11 =>
 ((((y_10 == y_11) = true) →
 ((tame_pre x.1) ∧
 letP (tame x.1) fun y_12 =>
 ((r15tame_pre y_1) ∧
 letP (r15tame y_1) fun y_13 =>
 (charted_pre false)))) ∧
 (¬ ((y_10 == y_11) = true) →
 (charted_pre false)))))) ∧
 (¬ ((y_8 == y_9) = true) →
 (charted_pre false)))))))) ∧
 (¬ ((y_2.2.1 == y_3.2.1) = true) →
 ((cfits_pre (x.1,(x.2.2.2.1,x.2.1))) ∧
 letP (cfits (x.1,(x.2.2.2.1,x.2.1))) fun y_8 =>
 ((r15fits_pre (y_1,(x.2.2.2.1,x.2.1))) ∧
 letP (r15fits (y_1,(x.2.2.2.1,x.2.1))) fun y_9 =>
 ((((y_8 == y_9) = true) →
 ((cis_pre (x.1,x.2.2.2.2)) ∧
 letP (cis (x.1,x.2.2.2.2)) fun y_10 =>
 ((r15is_pre (y_1,x.2.2.2.2)) ∧
 letP (r15is (y_1,x.2.2.2.2)) fun y_11 =>
 ((((y_10 == y_11) = true) →
 ((tame_pre x.1) ∧
 letP (tame x.1) fun y_12 =>
 ((r15tame_pre y_1) ∧
 letP (r15tame y_1) fun y_13 =>
 (charted_pre false)))) ∧
 (¬ ((y_10 == y_11) = true) →
 (charted_pre false)))))) ∧
 (¬ ((y_8 == y_9) = true) →
 (charted_pre false)))))))) ∧
 (¬ ((y_2.1 == y_3.1) = true) →
 ((cfits_pre (x.1,(x.2.2.2.1,x.2.1))) ∧
 letP (cfits (x.1,(x.2.2.2.1,x.2.1))) fun y_8 =>
 ((r15fits_pre (y_1,(x.2.2.2.1,x.2.1))) ∧
 letP (r15fits (y_1,(x.2.2.2.1,x.2.1))) fun y_9 =>
 ((((y_8 == y_9) = true) →
 ((cis_pre (x.1,x.2.2.2.2)) ∧
 letP (cis (x.1,x.2.2.2.2)) fun y_10 =>
 ((r15is_pre (y_1,x.2.2.2.2)) ∧
 letP (r15is (y_1,x.2.2.2.2)) fun y_11 =>
 ((((y_10 == y_11) = true) →
 ((tame_pre x.1) ∧
 letP (tame x.1) fun y_12 =>
 ((r15tame_pre y_1) ∧
 letP (r15tame y_1) fun y_13 =>
 (charted_pre false)))) ∧
 (¬ ((y_10 == y_11) = true) →
 (charted_pre false)))))) ∧
 (¬ ((y_8 == y_9) = true) →
 (charted_pre false)))))))))))))))))
def chartDoes_t (x : (((List I3) × ((List I2) × ((List I3) × (List I9)))) × (Int × (Int × ((Int × (Int × (List Int))) × (List (Int × (Int × (List Int))))))))) : Tr Bool true :=
 (.fn few15_S (x.1,x.2.2.2.2) fun y =>
 (.b01 (!y)
 (.ret true)
 (.i01 ((nL x.2.2.2.1.2.2) > (20:Int))
 (.ret true)
 (.fn own08_S x.1 fun y_1 =>
 (.fn facing_S (x.1,x.2.1) fun y_2 =>
 (.fn r15facing_S (y_1,x.2.1) fun y_3 =>
 (.fn shadow_S (x.1,(x.2.1,x.2.2.1)) fun y_4 =>
 (.fn r15shadow_S (y_1,(x.2.1,x.2.2.1)) fun y_5 =>
 (.fn cgrow_S x.1 fun y_6 =>
 (.fn r15grow_S y_1 fun y_7 =>
 (.b11 (y_2.1 == y_3.1)
 (.b11 (y_2.2.1 == y_3.2.1)
 (.b11 (y_2.2.2 == y_3.2.2)
 (.b11 (((y_4.1.1.1 == y_5.1.1.1) && ((y_4.1.1.2 == y_5.1.1.2) && true)) && (((y_4.1.2.1.1 == y_5.1.2.1.1) && ((y_4.1.2.1.2 == y_5.1.2.1.2) && true)) && (((y_4.1.2.2.1 == y_5.1.2.2.1) && ((y_4.1.2.2.2 == y_5.1.2.2.2) && true)) && true)))
 (.b11 (y_4.2 == y_5.2)
 (.fn same15_S (y_6.1,y_7.1) fun y_8 =>
 (.b11 y_8
 (.fn cfits_S (x.1,(x.2.2.2.1,x.2.1)) fun y_9 =>
 (.fn r15fits_S (y_1,(x.2.2.2.1,x.2.1)) fun y_10 =>
 (.b11 (y_9 == y_10)
 (.fn cis_S (x.1,x.2.2.2.2) fun y_11 =>
 (.fn r15is_S (y_1,x.2.2.2.2) fun y_12 =>
 (.b11 (y_11 == y_12)
 (.fn tame_S x.1 fun y_13 =>
 (.fn r15tame_S y_1 fun y_14 =>
 (.fn charted_S false fun y_15 =>
 (.b10 y_15
 (.b10 (y_6.2 == y_7.2)
 (.b10 (y_13 == y_14)
 (.fn r8same_S (x.1,y_1) fun y_16 =>
 (.ret y_16))
 (.ret false))
 (.ret false))
 (.ret false)))))
 (.fn charted_S false fun y_13 =>
 (.b00 y_13
 (.b00 (y_6.2 == y_7.2)
 (.ret false)
 (.ret false))
 (.ret false))))))
 (.fn charted_S false fun y_11 =>
 (.b00 y_11
 (.b00 (y_6.2 == y_7.2)
 (.ret false)
 (.ret false))
 (.ret false))))))
 (.fn cfits_S (x.1,(x.2.2.2.1,x.2.1)) fun y_9 =>
 (.fn r15fits_S (y_1,(x.2.2.2.1,x.2.1)) fun y_10 =>
 (.b11 (y_9 == y_10)
 (.fn cis_S (x.1,x.2.2.2.2) fun y_11 =>
 (.fn r15is_S (y_1,x.2.2.2.2) fun y_12 =>
 (.b11 (y_11 == y_12)
 (.fn tame_S x.1 fun y_13 =>
 (.fn r15tame_S y_1 fun y_14 =>
 (.fn charted_S false fun y_15 =>
 (.b00 y_15
 (.ret false)
 (.ret false)))))
 (.fn charted_S false fun y_13 =>
 (.b00 y_13
 (.ret false)
 (.ret false))))))
 (.fn charted_S false fun y_11 =>
 (.b00 y_11
 (.ret false)
 (.ret false))))))))
 (.fn cfits_S (x.1,(x.2.2.2.1,x.2.1)) fun y_8 =>
 (.fn r15fits_S (y_1,(x.2.2.2.1,x.2.1)) fun y_9 =>
 (.b11 (y_8 == y_9)
 (.fn cis_S (x.1,x.2.2.2.2) fun y_10 =>
 (.fn r15is_S (y_1,x.2.2.2.2) fun y_11 =>
 (.b11 (y_10 == y_11)
 (.fn tame_S x.1 fun y_12 =>
 (.fn r15tame_S y_1 fun y_13 =>
 (.fn charted_S false fun y_14 =>
 (.b00 y_14
 (.ret false)
 (.ret false)))))
 (.fn charted_S false fun y_12 =>
 (.b00 y_12
 (.ret false)
 (.ret false))))))
 (.fn charted_S false fun y_10 =>
 (.b00 y_10
 (.ret false)
 (.ret false)))))))
 (.fn cfits_S (x.1,(x.2.2.2.1,x.2.1)) fun y_8 =>
 (.fn r15fits_S (y_1,(x.2.2.2.1,x.2.1)) fun y_9 =>
 (.b11 (y_8 == y_9)
 (.fn cis_S (x.1,x.2.2.2.2) fun y_10 =>
 (.fn r15is_S (y_1,x.2.2.2.2) fun y_11 =>
 (.b11 (y_10 == y_11)
 (.fn tame_S x.1 fun y_12 =>
 (.fn r15tame_S y_1 fun y_13 =>
 (.fn charted_S false fun y_14 =>
 (.b00 y_14
 (.ret false)
 (.ret false)))))
 (.fn charted_S false fun y_12 =>
 (.b00 y_12
 (.ret false)
 (.ret false))))))
 (.fn charted_S false fun y_10 =>
 (.b00 y_10
 (.ret false)
 (.ret false)))))))
 (.fn cfits_S (x.1,(x.2.2.2.1,x.2.1)) fun y_8 =>
 (.fn r15fits_S (y_1,(x.2.2.2.1,x.2.1)) fun y_9 =>
 (.b11 (y_8 == y_9)
 (.fn cis_S (x.1,x.2.2.2.2) fun y_10 =>
 (.fn r15is_S (y_1,x.2.2.2.2) fun y_11 =>
 (.b11 (y_10 == y_11)
 (.fn tame_S x.1 fun y_12 =>
 (.fn r15tame_S y_1 fun y_13 =>
 (.fn charted_S false fun y_14 =>
 (.b00 y_14
 (.ret false)
 (.ret false)))))
 (.fn charted_S false fun y_12 =>
 (.b00 y_12
 (.ret false)
 (.ret false))))))
 (.fn charted_S false fun y_10 =>
 (.b00 y_10
 (.ret false)
 (.ret false)))))))
 (.fn cfits_S (x.1,(x.2.2.2.1,x.2.1)) fun y_8 =>
 (.fn r15fits_S (y_1,(x.2.2.2.1,x.2.1)) fun y_9 =>
 (.b11 (y_8 == y_9)
 (.fn cis_S (x.1,x.2.2.2.2) fun y_10 =>
 (.fn r15is_S (y_1,x.2.2.2.2) fun y_11 =>
 (.b11 (y_10 == y_11)
 (.fn tame_S x.1 fun y_12 =>
 (.fn r15tame_S y_1 fun y_13 =>
 (.fn charted_S false fun y_14 =>
 (.b00 y_14
 (.ret false)
 (.ret false)))))
 (.fn charted_S false fun y_12 =>
 (.b00 y_12
 (.ret false)
 (.ret false))))))
 (.fn charted_S false fun y_10 =>
 (.b00 y_10
 (.ret false)
 (.ret false)))))))
 (.fn cfits_S (x.1,(x.2.2.2.1,x.2.1)) fun y_8 =>
 (.fn r15fits_S (y_1,(x.2.2.2.1,x.2.1)) fun y_9 =>
 (.b11 (y_8 == y_9)
 (.fn cis_S (x.1,x.2.2.2.2) fun y_10 =>
 (.fn r15is_S (y_1,x.2.2.2.2) fun y_11 =>
 (.b11 (y_10 == y_11)
 (.fn tame_S x.1 fun y_12 =>
 (.fn r15tame_S y_1 fun y_13 =>
 (.fn charted_S false fun y_14 =>
 (.b00 y_14
 (.ret false)
 (.ret false)))))
 (.fn charted_S false fun y_12 =>
 (.b00 y_12
 (.ret false)
 (.ret false))))))
 (.fn charted_S false fun y_10 =>
 (.b00 y_10
 (.ret false)
 (.ret false)))))))))))))))))
abbrev chartDoes_S : FnS := ⟨(.pair (.agg (Ty.prod (Ty.sl yy3) (Ty.prod (Ty.sl yy2) (Ty.prod (Ty.sl yy3) (Ty.sl yy9))))) (.pair (.one yi) (.pair (.one yi) (.pair (.agg (Ty.prod yi (Ty.prod yi (Ty.sl yi)))) (.one (Ty.sl (Ty.prod yi (Ty.prod yi (Ty.sl yi))))))))),(.one Ty.bool),chartDoes_pre,chartDoes⟩
theorem chartDoes_ok : SpecOk Tryz.prog 3 (fnSpec chartDoes_S) := SpecOk.tr chartDoes_S chartDoes_t (fn := Tryz.f3) tt_ok sp_r15is_ok mixed (by kernel_rfl) (ItsOk.nil _ _) (fun x => LpsOk.nil) (fun x => (by kernel_rfl)) fun x Q => (by kernel_rfl)
end Go.Proofs.YtkbmjhabfjgoiaaGreat

namespace Go.Proofs.YtkbmjhabfjgoiaaGreat
open Go Go.Ev Go.Proofs
theorem letP_i {α : Type} {v : α} {f : α → Prop} (h : f v) : letP v f := h
theorem cS_r {α β : Type} {x : α ⊕ β} {b : β} {f : α → Prop} {g : β → Prop} (e : x = .inr b) (h : g b) : cS x f g := by subst e; exact h
theorem letV_e {α β : Type} (v : α) (f : α → β) : letV v f = f v := rfl
theorem same01_law {x y : List Int} (hx : x.length ≤ 1000000) : same01_pre (x,y) ∧ same01 (x,y) = decide (x = y) := by
 unfold same01_pre same01
 dsimp only [letV]
 by_cases hl : x.length = y.length
 ·have key : TR (same01_l0_step (x,y)) (same01_l0_pre (x,y)) 0 (fun r => Sum.elim (fun _ => false) (fun _ => true) r = decide (x = y)) := by
   refine for_loop x.length (fun i s => s = (i:Int) ∧ x.take i = y.take i) _ (fun i s hi ⟨e,h1⟩ => ?_) (fun s ⟨e,h1⟩ => ?_) ⟨rfl,rfl⟩
   ·subst e
    constructor
    ·unfold same01_l0_pre
     dsimp only
     intro _
     rw [Int.toNat_natCast]
     exact ⟨⟨by omega,by omega⟩,hi,hi,⟨by omega,by omega⟩,by omega,by omega⟩
    ·unfold same01_l0_step
     dsimp only
     rw [if_pos (by omega),Int.toNat_natCast,cnt (n := 1000000) (by omega) (by omega)]
     by_cases hg : x.getD i 0 = y.getD i 0
     ·rw [if_neg (by simpa using hg)]
      exact .inl ⟨_,rfl,rfl,by rw [take_snoc hi 0,take_snoc (by omega) 0,h1,hg]⟩
     ·rw [if_pos (by simpa using hg)]
      refine .inr ⟨_,rfl,?_⟩
      symm
      exact decide_eq_false fun e => hg (by rw [e])
   ·subst e
    constructor
    ·unfold same01_l0_pre
     dsimp only
     intro h; omega
    ·unfold same01_l0_step
     dsimp only
     rw [if_neg (by omega)]
     refine ⟨_,rfl,?_⟩
     rw [List.take_length,hl,List.take_length] at h1
     symm
     exact decide_eq_true h1
  rw [if_neg (by rw [hl]; simp)]
  exact ⟨fun _ => key.1,key.2⟩
 ·rw [if_pos (by simp; omega)]
  refine ⟨fun h => absurd (by simp; omega) h,?_⟩
  symm
  exact decide_eq_false fun e => hl (by rw [e])
def Sml (l : List Chr) : Prop := l.length ≤ 1000000 ∧ ∀ e ∈ l,e.2.2.length ≤ 1000000
theorem same15_law {u : List Chr} (h : Sml u) : same15_pre (u,u) ∧ same15 (u,u) = true := by
 have key : TR (same15_l0_step (u,u)) (same15_l0_pre (u,u)) 0 (fun r => r = .inr ()) := by
  refine for_loop u.length (fun i s => s = (i:Int)) _ (fun i s hi e => ?_) (fun s e => ?_) rfl
  ·subst e
   have hs := same01_law (x := (u.getD i (0,(0,[]))).2.2) (y := (u.getD i (0,(0,[]))).2.2) (h.2 _ (getD_in hi _))
   constructor
   ·unfold same15_l0_pre
    dsimp only [letP]
    intro _
    rw [Int.toNat_natCast]
    have b : (0:Int) ≤ (i:Int) ∧ (i:Int) < ((u.length:Nat):Int) := ⟨by omega,by omega⟩
    exact ⟨b,hi,hi,hi,b,hi,hi,hi,fun _ => ⟨b,hi,hi,hi,b,hi,hi,hi,fun _ => ⟨b,hi,hi,hi,b,hi,hi,hi,hs.1⟩⟩⟩
   ·refine .inl ?_
    unfold same15_l0_step
    dsimp only [letV]
    rw [if_pos (by omega),Int.toNat_natCast,if_neg (by simp),if_neg (by simp),hs.2,if_neg (by simp),cnt (n := 1000000) (by have := h.1; omega) (by omega)]
    exact ⟨_,rfl,rfl⟩
  ·subst e
   constructor
   ·unfold same15_l0_pre
    dsimp only
    intro h; omega
   ·unfold same15_l0_step
    dsimp only
    rw [if_neg (by omega)]
    exact ⟨_,rfl,rfl⟩
 unfold same15_pre same15
 dsimp only [letV]
 rw [if_neg (by simp),key.2]
 exact ⟨fun _ => key.1,rfl⟩
theorem r8s0 {m : Msh} (h : m.1.length ≤ 1000000) : TR (r8same_l0_step (m,m)) (r8same_l0_pre (m,m)) 0 (fun r => r = .inr ()) := by
 refine for_loop m.1.length (fun i s => s = (i:Int)) _ (fun i s hi e => ?_) (fun s e => ?_) rfl
 ·subst e
  constructor
  ·unfold r8same_l0_pre
   intro _
   rw [Int.toNat_natCast]
   exact ⟨⟨by omega,by dsimp only; omega⟩,hi,hi,⟨by omega,by dsimp only; omega⟩,hi,hi⟩
  ·refine .inl ?_
   unfold r8same_l0_step
   rw [if_pos (by dsimp only; omega),if_neg (by simp),cnt (n := 1000000) (by omega) (by omega)]
   exact ⟨_,rfl,rfl⟩
 ·subst e
  constructor
  ·unfold r8same_l0_pre
   dsimp only
   intro h; omega
  ·unfold r8same_l0_step
   rw [if_neg (by dsimp only; omega)]
   exact ⟨_,rfl,rfl⟩
theorem r8s2 {m : Msh} (h : m.2.1.length ≤ 1000000) : TR (r8same_l2_step (m,m)) (r8same_l2_pre (m,m)) 0 (fun r => r = .inr ()) := by
 refine for_loop m.2.1.length (fun i s => s = (i:Int)) _ (fun i s hi e => ?_) (fun s e => ?_) rfl
 ·subst e
  constructor
  ·unfold r8same_l2_pre
   intro _
   rw [Int.toNat_natCast]
   exact ⟨⟨by omega,by dsimp only; omega⟩,hi,hi,⟨by omega,by dsimp only; omega⟩,hi,hi⟩
  ·refine .inl ?_
   unfold r8same_l2_step
   rw [if_pos (by dsimp only; omega),if_neg (by simp),cnt (n := 1000000) (by omega) (by omega)]
   exact ⟨_,rfl,rfl⟩
 ·subst e
  constructor
  ·unfold r8same_l2_pre
   dsimp only
   intro h; omega
  ·unfold r8same_l2_step
   rw [if_neg (by dsimp only; omega)]
   exact ⟨_,rfl,rfl⟩
theorem r8s4 {m : Msh} (h : m.2.2.1.length ≤ 1000000) : TR (r8same_l4_step (m,m)) (r8same_l4_pre (m,m)) 0 (fun r => r = .inr ()) := by
 refine for_loop m.2.2.1.length (fun i s => s = (i:Int)) _ (fun i s hi e => ?_) (fun s e => ?_) rfl
 ·subst e
  constructor
  ·unfold r8same_l4_pre
   intro _
   rw [Int.toNat_natCast]
   exact ⟨⟨by omega,by dsimp only; omega⟩,hi,hi,⟨by omega,by dsimp only; omega⟩,hi,hi⟩
  ·refine .inl ?_
   unfold r8same_l4_step
   rw [if_pos (by dsimp only; omega),if_neg (by simp),cnt (n := 1000000) (by omega) (by omega)]
   exact ⟨_,rfl,rfl⟩
 ·subst e
  constructor
  ·unfold r8same_l4_pre
   dsimp only
   intro h; omega
  ·unfold r8same_l4_step
   rw [if_neg (by dsimp only; omega)]
   exact ⟨_,rfl,rfl⟩
theorem r7s0 {m : Msh} (h : m.2.2.2.length ≤ 1000000) : TR (r7same_l0_step (m.2.2.2,m.2.2.2)) (r7same_l0_pre (m.2.2.2,m.2.2.2)) 0 (fun r => r = .inr ()) := by
 refine for_loop m.2.2.2.length (fun i s => s = (i:Int)) _ (fun i s hi e => ?_) (fun s e => ?_) rfl
 ·subst e
  constructor
  ·unfold r7same_l0_pre
   intro _
   rw [Int.toNat_natCast]
   exact ⟨⟨by omega,by dsimp only; omega⟩,hi,hi,⟨by omega,by dsimp only; omega⟩,hi,hi⟩
  ·refine .inl ?_
   unfold r7same_l0_step
   rw [if_pos (by dsimp only; omega),if_neg (by simp),cnt (n := 1000000) (by omega) (by omega)]
   exact ⟨_,rfl,rfl⟩
 ·subst e
  constructor
  ·unfold r7same_l0_pre
   dsimp only
   intro h; omega
  ·unfold r7same_l0_step
   rw [if_neg (by dsimp only; omega)]
   exact ⟨_,rfl,rfl⟩
theorem r8same_law {m : Msh} (h1 : m.1.length ≤ 1000000) (h2 : m.2.1.length ≤ 1000000) (h3 : m.2.2.1.length ≤ 1000000) (h4 : m.2.2.2.length ≤ 1000000) : r8same_pre (m,m) ∧ r8same (m,m) = true := by
 have k0 := r8s0 h1
 have k2 := r8s2 h2
 have k4 := r8s4 h3
 have k7 := r7s0 h4
 have e7 : r7same_pre (m.2.2.2,m.2.2.2) ∧ r7same (m.2.2.2,m.2.2.2) = true := by
  unfold r7same_pre r7same
  rw [if_neg (by simp),letV_e,k7.2]
  exact ⟨fun _ => k7.1,rfl⟩
 constructor
 ·unfold r8same_pre
  exact fun _ _ _ => ⟨k0.1,letP_i (cS_r k0.2 ⟨k2.1,letP_i (cS_r k2.2 ⟨k4.1,letP_i (cS_r k4.2 e7.1)⟩)⟩)⟩
 ·unfold r8same
  rw [if_neg (by simp),if_neg (by simp),if_neg (by simp),letV_e,k0.2,Sum.elim_inr,letV_e,k2.2,Sum.elim_inr,letV_e,k4.2,Sum.elim_inr,letV_e]
  exact e7.2
theorem few15_full (m : Msh) (l : List Chr) : few15_pre (m,l) ∧ (few15 (m,l) = true → (m.1.length ≤ 20 ∧ m.2.1.length ≤ 60 ∧ m.2.2.1.length ≤ 60 ∧ m.2.2.2.length ≤ 12) ∧ l.length ≤ 20 ∧ ∀ c ∈ l,c.2.2.length ≤ 20) := by
 have key : TR (few15_l0_step (m,l)) (few15_l0_pre (m,l)) 0 (fun r => r = .inl () ∨ (r = .inr () ∧ (l.length ≤ 20 → ∀ c ∈ l,c.2.2.length ≤ 20))) := by
  by_cases hl : l.length ≤ 20
  ·refine for_loop l.length (fun i s => s = (i:Int) ∧ ∀ c ∈ l.take i,c.2.2.length ≤ 20) _ (fun i s hi ⟨e,h1⟩ => ?_) (fun s ⟨e,h1⟩ => ?_) ⟨rfl,by simp⟩
   ·subst e
    constructor
    ·unfold few15_l0_pre
     dsimp only
     intro _ _
     rw [Int.toNat_natCast]
     exact ⟨⟨by omega,by omega⟩,hi,hi,hi⟩
    ·unfold few15_l0_step
     dsimp only
     rw [if_pos (by omega),if_pos (by omega),Int.toNat_natCast,cnt (n := 60) (by omega) (by omega)]
     by_cases hg : (((l.getD i (0,(0,[]))).2.2.length:Nat):Int) > 20
     ·rw [if_pos hg]
      exact .inr ⟨_,rfl,.inl rfl⟩
     ·rw [if_neg hg]
      refine .inl ⟨_,rfl,rfl,fun e he => ?_⟩
      rw [take_snoc hi (0,(0,[])),List.mem_append,List.mem_singleton] at he
      rcases he with he | rfl
      ·exact h1 e he
      ·omega
   ·subst e
    constructor
    ·unfold few15_l0_pre
     dsimp only
     intro h; omega
    ·unfold few15_l0_step
     dsimp only
     rw [if_neg (by omega)]
     exact ⟨_,rfl,.inr ⟨rfl,fun _ => by rw [List.take_length] at h1; exact h1⟩⟩
  ·refine TR.stop (r := .inr ()) ?_ ?_ (.inr ⟨rfl,fun h => absurd h hl⟩)
   ·unfold few15_l0_pre
    dsimp only
    intro _ h; omega
   ·unfold few15_l0_step
    dsimp only
    rw [if_pos (by omega),if_neg (by omega)]
 refine ⟨key.1,fun h => ?_⟩
 unfold few15 at h
 rw [letV_e] at h
 rcases key.2 with e | ⟨e,hc⟩
 ·rw [e] at h; cases h
 ·rw [e,Sum.elim_inr] at h
  by_cases hl : ((l.length:Nat):Int) ≤ 20
  ·dsimp only at h
   rw [if_pos hl,letV_e] at h
   have hl' : l.length ≤ 20 := by omega
   have h5 : few15 (m,[]) = true := by
    unfold few15
    rw [letV_e]
    have k0 : run (few15_l0_step (m,[])) 0 = .inr () := by
     refine (TR.stop (pre := few15_l0_pre (m,[])) (Post := fun r : Unit ⊕ Unit => r = Sum.inr ()) ?_ (r := (Sum.inr () : Unit ⊕ Unit)) ?_ rfl).2
     ·unfold few15_l0_pre
      dsimp only
      intro h; simp at h
     ·unfold few15_l0_step
      dsimp only
      rw [if_neg (by simp)]
    rw [k0,Sum.elim_inr]
    dsimp only
    rw [if_pos (by decide),letV_e]
    exact h
   exact ⟨(few15_law m).2 h5,hl',hc hl'⟩
  ·dsimp only at h
   rw [if_neg hl] at h; cases h
theorem beq_self {a b : Bool} (h : a = b) : (a == b) = true := by rw [h]; simp
theorem does_law (x : Msh × (Int × (Int × (Chr × List Chr)))) : chartDoes_pre x ∧ chartDoes x = true := by
 obtain ⟨m,i,ax,c,l⟩ := x
 obtain ⟨w1,w2⟩ := few15_full m l
 have hov : own08 m = m := rfl
 cases hf : few15 (m,l) with
 | false =>
  constructor
  ·unfold chartDoes_pre
   exact ⟨w1,letP_i fun h => by dsimp only at h; rw [hf] at h; exact absurd rfl h⟩
  ·unfold chartDoes
   rw [letV_e]
   dsimp only
   rw [hf,if_pos (by decide)]
 | true =>
  obtain ⟨⟨l1,l2,l3,l4⟩,l5,l6⟩ := w2 hf
  by_cases hc : ((c.2.2.length:Nat):Int) > 20
  ·constructor
   ·unfold chartDoes_pre
    exact ⟨w1,letP_i fun _ h => absurd hc h⟩
   ·unfold chartDoes
    rw [letV_e]
    dsimp only
    rw [hf,if_neg (by decide),if_pos hc]
  ·have hV : m.1.length < 4611686018427387904 := by omega
   have hcl : c.2.2.length ≤ 1000 := by omega
   have hll : l.length ≤ 1000 := by omega
   have hls : ∀ c ∈ l,c.2.2.length ≤ 1000 := fun c hc => by have := l6 c hc; omega
   have o1 : own08_pre m := ⟨by omega,by omega,by omega,by omega⟩
   obtain ⟨fa1,_⟩ := facing_law m i
   obtain ⟨rf1,rf2⟩ := r15facing_law m i hV
   obtain ⟨sh1,_⟩ := shadow_law m i ax
   obtain ⟨rs1,rs2⟩ := r15shadow_law m i ax hV
   obtain ⟨g1,g2,g3⟩ := cgrow_law m
   obtain ⟨rg1,rg2⟩ := r15grow_law hV
   obtain ⟨cf1,cf2⟩ := cfits_full c hcl i
   obtain ⟨ri1,ri2⟩ := r15fits_law hV c hcl i
   obtain ⟨ci1,ci2⟩ := cis_full (m := m) hls hll
   obtain ⟨rc1,rc2⟩ := r15is_law hV hls hll
   obtain ⟨t1,t2⟩ := tame_law m
   obtain ⟨rt1,rt2⟩ := r15tame_law m hV
   obtain ⟨ch1,ch2⟩ := charted_law
   obtain ⟨r81,r82⟩ := r8same_law (m := m) (by omega) (by omega) (by omega) (by omega)
   have hsm : Sml (cgrow m).1 := by
    cases hm : tameB m with
    | true =>
     have := (g2 hm).2.okay hm
     exact ⟨by have := this.len; omega,fun e he => by have := this.small e he; omega⟩
    | false => rw [g3 hm]; exact ⟨Nat.zero_le _,fun e he => by cases he⟩
   obtain ⟨s1,s2⟩ := same15_law hsm
   have hfit : cfits (m,(c,i)) = r15fits (m,(c,i)) := by rw [Bool.eq_iff_iff,cf2,ri2]
   have his : cis (m,l) = r15is (m,l) := by rw [Bool.eq_iff_iff,ci2,rc2]
   have htm : tame m = r15tame m := by rw [t2,rt2]
   constructor
   ·unfold chartDoes_pre
    have n1 : ((facing (m,i)).1 == (r15facing (own08 m,i)).1) = true := by rw [hov,rf2]; simp
    have n2 : ((facing (m,i)).2.1 == (r15facing (own08 m,i)).2.1) = true := by rw [hov,rf2]; simp
    have n3 : ((facing (m,i)).2.2 == (r15facing (own08 m,i)).2.2) = true := by rw [hov,rf2]; simp
    have n4 : ((((shadow (m,(i,ax))).1.1.1 == (r15shadow (own08 m,(i,ax))).1.1.1) && (((shadow (m,(i,ax))).1.1.2 == (r15shadow (own08 m,(i,ax))).1.1.2) && true)) && ((((shadow (m,(i,ax))).1.2.1.1 == (r15shadow (own08 m,(i,ax))).1.2.1.1) && (((shadow (m,(i,ax))).1.2.1.2 == (r15shadow (own08 m,(i,ax))).1.2.1.2) && true)) && ((((shadow (m,(i,ax))).1.2.2.1 == (r15shadow (own08 m,(i,ax))).1.2.2.1) && (((shadow (m,(i,ax))).1.2.2.2 == (r15shadow (own08 m,(i,ax))).1.2.2.2) && true)) && true))) = true := by rw [hov,rs2]; simp
    have n5 : ((shadow (m,(i,ax))).2 == (r15shadow (own08 m,(i,ax))).2) = true := by rw [hov,rs2]; simp
    have n6 : same15 ((cgrow m).1,(r15grow (own08 m)).1) = true := by rw [hov,rg2]; exact s2
    have n6' : same15_pre ((cgrow m).1,(r15grow (own08 m)).1) := by rw [hov,rg2]; exact s1
    have n7 : (cfits (m,(c,i)) == r15fits (own08 m,(c,i))) = true := beq_self hfit
    have n8 : (cis (m,l) == r15is (own08 m,l)) = true := beq_self his
    exact ⟨w1,letP_i fun _ _ => ⟨o1,letP_i ⟨fa1,letP_i ⟨rf1,letP_i ⟨sh1,letP_i ⟨rs1,letP_i ⟨g1,letP_i ⟨rg1,letP_i
     ⟨fun _ => ⟨fun _ => ⟨fun _ => ⟨fun _ => ⟨fun _ => ⟨n6',letP_i ⟨fun _ => ⟨cf1,letP_i ⟨ri1,letP_i ⟨fun _ => ⟨ci1,letP_i ⟨rc1,letP_i ⟨fun _ => ⟨t1,letP_i ⟨rt1,letP_i ⟨ch1,letP_i fun _ _ _ => r81⟩⟩⟩,fun h => absurd n8 h⟩⟩⟩,fun h => absurd n7 h⟩⟩⟩,fun h => absurd n6 h⟩⟩,
      fun h => absurd n5 h⟩,fun h => absurd n4 h⟩,fun h => absurd n3 h⟩,fun h => absurd n2 h⟩,fun h => absurd n1 h⟩⟩⟩⟩⟩⟩⟩⟩⟩
   ·unfold chartDoes
    rw [letV_e]
    dsimp only
    rw [hf,if_neg (by decide),if_neg hc,letV_e,hov,letV_e,letV_e,rf2,letV_e,letV_e,rs2,letV_e,letV_e,rg2,if_pos (by simp),if_pos (by simp),if_pos (by simp),if_pos (by simp),if_pos (by simp),letV_e,s2,if_pos rfl,letV_e,letV_e,hfit,if_pos (by simp),letV_e,letV_e,his,if_pos (by simp),letV_e,letV_e,letV_e,ch2,if_pos rfl,if_pos (by simp),htm,if_pos (by simp),letV_e,r82]
end Go.Proofs.YtkbmjhabfjgoiaaGreat
