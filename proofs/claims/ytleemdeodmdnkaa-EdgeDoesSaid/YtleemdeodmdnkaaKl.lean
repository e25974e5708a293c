/- Models of law 14's functions. -/
import Derived.Test.YtleemdeodmdnkaaEd
import Derived.Test.YtleemdeodmdnkaaPw
noncomputable section
set_option linter.unusedSectionVars false
set_option linter.unusedVariables false
set_option linter.unusedSimpArgs false
namespace Go.Proofs.Ytleemdeodmdnkaa
open Go Go.Ev Go.Proofs
def three (x : I3) : I9 :=
 ((x.1,((-1:Int),(-1:Int))),((x.2.1,((-1:Int),(-1:Int))),(x.2.2,((-1:Int),(-1:Int)))))
def three_pre (_ : I3) : Prop := True
def three_t (x : I3) : Tr I9 false :=
 (.ret ((x.1,((-1:Int),(-1:Int))),((x.2.1,((-1:Int),(-1:Int))),(x.2.2,((-1:Int),(-1:Int))))))
abbrev three_S : FnS := ⟨(.pair (.one yi) (.pair (.one yi) (.one yi))),(.agg yy9),three_pre,three⟩
theorem three_ok : SpecOk Try.prog 28 (fnSpec three_S) := SpecOk.tr three_S three_t (fn := Try.f28) tt_ok sp_eedges2_ok mixed (by kernel_rfl) (ItsOk.nil _ _) (fun x => LpsOk.nil) (fun x => (by kernel_rfl)) fun x Q => (by kernel_rfl)
def sp_three : List (Nat × Ev.Spec) := (28,fnSpec three_S) :: sp_eedges2
theorem sp_three_ok : SpecsOk Try.prog sp_three := SpecsOk.add (fn := Try.f28) (by kernel_rfl) three_ok sp_eedges2_ok
def same01_l0 (x : ((List Int) × (List Int))) : LoopD := ⟨[],⟨pvs 26 0 [(0,.v (.one (.full 0))),(1,.v (.one (.full 1))),(5,.v (.one (.i .i64)))],[.row yi 0,.row yi 0],0,none,[],[1,2],[0],[.i],[.l yi x.1,.l yi x.2]⟩,[⟨.ret,.ret,⟨pvs 26 0 [(4,.v (.one (.b)))],[],0,none,[],[0],[],[],[.b false]⟩⟩,⟨(.exit 0),.normal,⟨pvs 26 0 [],[],0,none,[],[],[],[],[]⟩⟩]⟩
def same01_l0_step (x : ((List Int) × (List Int))) (s:Int) : Int ⊕ (Unit ⊕ Unit) :=
 (if (s < (x.1.length:Int)) then
 (if (((List.getD x.1 (Int.toNat s) (0:Int)) != (List.getD x.2 (Int.toNat s) (0:Int))) = true) then
 (Sum.inr (Sum.inl ())) else
 (Sum.inl (w64 (s + (1:Int))))) else
 (Sum.inr (Sum.inr (()))))
def same01_l0_pre (x : ((List Int) × (List Int))) (s:Int) : Prop :=
 ((s < (x.1.length:Int)) →
 ((((0:Int) ≤ s) ∧ (s < (x.1.length:Int))) ∧
 (((Int.toNat s) < (List.length x.1)) ∧
 (((Int.toNat s) < (List.length x.1)) ∧
 ((((0:Int) ≤ s) ∧ (s < (x.2.length:Int))) ∧
 (((Int.toNat s) < (List.length x.2)) ∧
 ((Int.toNat s) < (List.length x.2))))))))
def same01_l0_t (x : ((List Int) × (List Int))) (s:Int) : Tr (Int ⊕ (Unit ⊕ Unit)) true :=
 (.i10 (s < (nL x.1))
 (.oI2 s x.1
 (.oI2 s x.2
 (.b00 ((gI x.1 s) != (gI x.2 s))
 (.ret (.inr (Sum.inl ())))
 (.ret (.inl (w1 s))))))
 (.ret (.inr (Sum.inr (())))))
def same01 (x : ((List Int) × (List Int))) : Bool :=
 (if (((x.1.length:Int) != (x.2.length:Int)) = true) then
 false else
 (letV (run (same01_l0_step x) (0:Int)) fun r =>
 (Sum.elim (fun a =>
 false) (fun b =>
 true) r)))
def same01_pre (x : ((List Int) × (List Int))) : Prop :=
 (¬ (((x.1.length:Int) != (x.2.length:Int)) = true) →
 (Term (same01_l0_step x) (same01_l0_pre x) (0:Int)))
def same01_t (x : ((List Int) × (List Int))) : Tr Bool true :=
 (.b01 ((nL x.1) != (nL x.2))
 (.ret false)
 (LoopD.lp (same01_l0 x) (same01_l0_t x) z0 fun r =>
 (.s00 r (fun a =>
 (.ret false)) (fun b =>
 (.ret true)))))
abbrev same01_S : FnS := ⟨(.pair (.one (Ty.sl yi)) (.one (Ty.sl yi))),(.one Ty.bool),same01_pre,same01⟩
theorem same01_ok : SpecOk Try.prog 21 (fnSpec same01_S) := SpecOk.tr same01_S same01_t (fn := Try.f21) tt_ok sp_three_ok mixed (by kernel_rfl) (ItsOk.nil _ _) (fun x => (LpsOk.tr tt_ok (SpecsOk.ctxI sp_three_ok (ItsOk.nil _ _)) mixed 0 (same01_l0 x) (same01_l0_t x) LpsOk.nil (by kernel_rfl) fun g s Q => (by kernel_rfl))) (fun x => (by kernel_rfl)) fun x Q => (by kernel_rfl)
def sp_same01 : List (Nat × Ev.Spec) := (21,fnSpec same01_S) :: sp_three
theorem sp_same01_ok : SpecsOk Try.prog sp_same01 := SpecsOk.add (fn := Try.f21) (by kernel_rfl) same01_ok sp_three_ok
def edged (x : Bool) : Bool :=
 (letV (three ((0:Int),((1:Int),(2:Int)))) fun y =>
 (letV (three ((2:Int),((1:Int),(3:Int)))) fun y_1 =>
 (letV (three ((4:Int),((5:Int),(6:Int)))) fun y_2 =>
 (letV (eedges ((List.replicate 7 ((0:Int),((0:Int),(0:Int)))),([],([],[y,y_1,y_2])))) fun y_3 =>
 (letV (enext (((List.replicate 7 ((0:Int),((0:Int),(0:Int)))),([],([],[y,y_1,y_2]))),(0:Int))) fun y_4 =>
 (letV (eparts ((List.replicate 7 ((0:Int),((0:Int),(0:Int)))),([],([],[y,y_1,y_2])))) fun y_5 =>
 (letV (efind (y_3.1,((2:Int),(1:Int)))) fun y_6 =>
 (letV (enext (((List.replicate 7 ((0:Int),((0:Int),(0:Int)))),([],([],[y,y_1,y_2]))),(3:Int))) fun y_7 =>
 (if ((y_3.2 == (0:Int)) = true) then
 (if (((y_3.1.length:Int) == (8:Int)) = true) then
 (if (((List.getD y_3.1 2 ((0:Int),((0:Int),[]))).1 == (1:Int)) = true) then
 (if (((List.getD y_3.1 2 ((0:Int),((0:Int),[]))).2.1 == (2:Int)) = true) then
 (letV (same01 ((List.getD y_3.1 2 ((0:Int),((0:Int),[]))).2.2,[(0:Int),(1:Int)])) fun y_8 =>
 (if (y_8 = true) then
 (if ((y_4.2 == y_3.2) = true) then
 (letV (same01 (y_4.1,[(1:Int)])) fun y_9 =>
 (if (y_9 = true) then
 (if ((y_5.2 == y_3.2) = true) then
 (letV (same01 (y_5.1,[(0:Int),(0:Int),(2:Int)])) fun y_10 =>
 (if (y_10 = true) then
 (if (y_6.2 = true) then
 (if (((y_6.1.2.2.length:Int) == (2:Int)) = true) then
 (letV (eloose y_3.1) fun y_11 =>
 (if (((y_11.length:Int) == (7:Int)) = true) then
 (y_7.2 == (1:Int)) else
 false)) else
 false) else
 false) else
 false)) else
 false) else
 false)) else
 false) else
 false)) else
 false) else
 false) else
 false) else
 false)))))))))
def edged_pre (x : Bool) : Prop :=
 (letP (three ((0:Int),((1:Int),(2:Int)))) fun y =>
 (letP (three ((2:Int),((1:Int),(3:Int)))) fun y_1 =>
 (letP (three ((4:Int),((5:Int),(6:Int)))) fun y_2 =>
 ((eedges_pre ((List.replicate 7 ((0:Int),((0:Int),(0:Int)))),([],([],[y,y_1,y_2])))) ∧
 letP (eedges ((List.replicate 7 ((0:Int),((0:Int),(0:Int)))),([],([],[y,y_1,y_2])))) fun y_3 =>
 ((enext_pre (((List.replicate 7 ((0:Int),((0:Int),(0:Int)))),([],([],[y,y_1,y_2]))),(0:Int))) ∧
 letP (enext (((List.replicate 7 ((0:Int),((0:Int),(0:Int)))),([],([],[y,y_1,y_2]))),(0:Int))) fun y_4 =>
 ((eparts_pre ((List.replicate 7 ((0:Int),((0:Int),(0:Int)))),([],([],[y,y_1,y_2])))) ∧
 letP (eparts ((List.replicate 7 ((0:Int),((0:Int),(0:Int)))),([],([],[y,y_1,y_2])))) fun y_5 =>
 ((efind_pre (y_3.1,((2:Int),(1:Int)))) ∧
 letP (efind (y_3.1,((2:Int),(1:Int)))) fun y_6 =>
 ((enext_pre (((List.replicate 7 ((0:Int),((0:Int),(0:Int)))),([],([],[y,y_1,y_2]))),(3:Int))) ∧
 letP (enext (((List.replicate 7 ((0:Int),((0:Int),(0:Int)))),([],([],[y,y_1,y_2]))),(3:Int))) fun y_7 =>
 (((y_3.2 == (0:Int)) = true) →
 ((((y_3.1.length:Int) == (8:Int)) = true) →
 (((2:Int) < (y_3.1.length:Int)) ∧
 ((2 < (List.length y_3.1)) ∧
 ((2 < (List.length y_3.1)) ∧
 ((2 < (List.length y_3.1)) ∧
 ((((List.getD y_3.1 2 ((0:Int),((0:Int),[]))).1 == (1:Int)) = true) →
 (((2:Int) < (y_3.1.length:Int)) ∧
 ((2 < (List.length y_3.1)) ∧
 ((2 < (List.length y_3.1)) ∧
 ((2 < (List.length y_3.1)) ∧
 ((((List.getD y_3.1 2 ((0:Int),((0:Int),[]))).2.1 == (2:Int)) = true) →
 (((2:Int) < (y_3.1.length:Int)) ∧
 ((2 < (List.length y_3.1)) ∧
 ((2 < (List.length y_3.1)) ∧
 ((2 < (List.length y_3.1)) ∧
 ((same01_pre ((List.getD y_3.1 2 ((0:Int),((0:Int),[]))).2.2,[(0:Int),(1:Int)])) ∧
 letP (same01 ((List.getD y_3.1 2 ((0:Int),((0:Int),[]))).2.2,[(0:Int),(1:Int)])) fun y_8 =>
 ((y_8 = true) →
 (((y_4.2 == y_3.2) = true) →
 ((same01_pre (y_4.1,[(1:Int)])) ∧
 letP (same01 (y_4.1,[(1:Int)])) fun y_9 =>
 ((y_9 = true) →
 (((y_5.2 == y_3.2) = true) →
 ((same01_pre (y_5.1,[(0:Int),(0:Int),(2:Int)])) ∧
 letP (same01 (y_5.1,[(0:Int),(0:Int),(2:Int)])) fun y_10 =>
 ((y_10 = true) →
 ((y_6.2 = true) →
 ((((y_6.1.2.2.length:Int) == (2:Int)) = true) →
 (eloose_pre y_3.1)))))))))))))))))))))))))))))))))))
def edged_t (x : Bool) : Tr Bool true :=
 (.fn0 three_S (z0,(z1,(2:Int))) trivial fun y =>
 (.fn0 three_S ((2:Int),(z1,(3:Int))) trivial fun y_1 =>
 (.fn0 three_S ((4:Int),((5:Int),(6:Int))) trivial fun y_2 =>
 (.fn eedges_S ((List.replicate 7 zz3),([],([],[y,y_1,y_2]))) fun y_3 =>
 (.fn enext_S (((List.replicate 7 zz3),([],([],[y,y_1,y_2]))),z0) fun y_4 =>
 (.fn eparts_S ((List.replicate 7 zz3),([],([],[y,y_1,y_2]))) fun y_5 =>
 (.fn efind_S (y_3.1,((2:Int),z1)) fun y_6 =>
 (.fn enext_S (((List.replicate 7 zz3),([],([],[y,y_1,y_2]))),(3:Int)) fun y_7 =>
 (.b10 (y_3.2 == z0)
 (.b10 ((nL y_3.1) == (8:Int))
 (.og (true && (decide ((2:Int) < (nL y_3.1)))) ((2:Int) < (nL y_3.1)) (fun h => (and_t rfl (decide_eq_true h)))
 (.od (2 < (List.length y_3.1))
 (.od (2 < (List.length y_3.1))
 (.od (2 < (List.length y_3.1))
 (.b10 ((List.getD y_3.1 2 (z0,(z0,[]))).1 == z1)
 (.og (true && (decide ((2:Int) < (nL y_3.1)))) ((2:Int) < (nL y_3.1)) (fun h => (and_t rfl (decide_eq_true h)))
 (.od (2 < (List.length y_3.1))
 (.od (2 < (List.length y_3.1))
 (.od (2 < (List.length y_3.1))
 (.b10 ((List.getD y_3.1 2 (z0,(z0,[]))).2.1 == (2:Int))
 (.og (true && (decide ((2:Int) < (nL y_3.1)))) ((2:Int) < (nL y_3.1)) (fun h => (and_t rfl (decide_eq_true h)))
 (.od (2 < (List.length y_3.1))
 (.od (2 < (List.length y_3.1))
 (.od (2 < (List.length y_3.1))
 (.fn same01_S ((List.getD y_3.1 2 (z0,(z0,[]))).2.2,[z0,z1]) fun y_8 =>
 (.b10 y_8
 (.b10 (y_4.2 == y_3.2)
 (.fn same01_S (y_4.1,[z1]) fun y_9 =>
 (.b10 y_9
 (.b10 (y_5.2 == y_3.2)
 (.fn same01_S (y_5.1,[z0,z0,(2:Int)]) fun y_10 =>
 (.b10 y_10
 (.b10 y_6.2
 (.b10 ((nL y_6.1.2.2) == (2:Int))
 (.fn eloose_S y_3.1 fun y_11 =>
 (.b00 ((nL y_11) == (7:Int))
 (.ret (y_7.2 == z1))
 (.ret false)))
 (.ret false))
 (.ret false))
 (.ret false)))
 (.ret false))
 (.ret false)))
 (.ret false))
 (.ret false)))))))
 (.ret false))))))
 (.ret false))))))
 (.ret false))
 (.ret false))))))))))
abbrev edged_S : FnS := ⟨.none,(.one Ty.bool),edged_pre,edged⟩
theorem edged_ok : SpecOk Try.prog 24 (fnSpec edged_S) := SpecOk.tr edged_S edged_t (fn := Try.f24) tt_ok sp_same01_ok mixed (by kernel_rfl) (ItsOk.nil _ _) (fun x => LpsOk.nil) (fun x => (by kernel_rfl)) fun x Q => (by kernel_rfl)
def sp_edged : List (Nat × Ev.Spec) := (24,fnSpec edged_S) :: sp_same01
theorem sp_edged_ok : SpecsOk Try.prog sp_edged := SpecsOk.add (fn := Try.f24) (by kernel_rfl) edged_ok sp_same01_ok
def few14 (x : ((List I3) × ((List I2) × ((List I3) × (List I9))))) : Bool :=
 (if ((x.1.length:Int) ≤ (20:Int)) then
 (if ((x.2.1.length:Int) ≤ (60:Int)) then
 (if ((x.2.2.1.length:Int) ≤ (60:Int)) then
 (decide ((x.2.2.2.length:Int) ≤ (20:Int))) else
 false) else
 false) else
 false)
def few14_pre (_ : ((List I3) × ((List I2) × ((List I3) × (List I9))))) : Prop := True
def few14_t (x : ((List I3) × ((List I2) × ((List I3) × (List I9))))) : Tr Bool false :=
 (.i00 ((nL x.1) ≤ (20:Int))
 (.i00 ((nL x.2.1) ≤ (60:Int))
 (.i00 ((nL x.2.2.1) ≤ (60:Int))
 (.ret (decide ((nL x.2.2.2) ≤ (20:Int))))
 (.ret false))
 (.ret false))
 (.ret false))
abbrev few14_S : FnS := ⟨(.agg (Ty.prod (Ty.sl yy3) (Ty.prod (Ty.sl yy2) (Ty.prod (Ty.sl yy3) (Ty.sl yy9))))),(.one Ty.bool),few14_pre,few14⟩
theorem few14_ok : SpecOk Try.prog 8 (fnSpec few14_S) := SpecOk.tr few14_S few14_t (fn := Try.f8) tt_ok sp_edged_ok mixed (by kernel_rfl) (ItsOk.nil _ _) (fun x => LpsOk.nil) (fun x => (by kernel_rfl)) fun x Q => (by kernel_rfl)
def sp_few14 : List (Nat × Ev.Spec) := (8,fnSpec few14_S) :: sp_edged
theorem sp_few14_ok : SpecsOk Try.prog sp_few14 := SpecsOk.add (fn := Try.f8) (by kernel_rfl) few14_ok sp_edged_ok
def in14_l0 (x : ((List Int) × Int)) : LoopD := ⟨[],⟨pvs 18 0 [(0,.v (.one (.full 0))),(1,.v (.one (.i .i64))),(5,.v (.one (.i .i64)))],[.row yi 0],0,none,[],[0,2],[1],[.i],[.i x.2,.l yi x.1]⟩,[⟨.ret,.ret,⟨pvs 18 0 [(4,.v (.one (.b)))],[],0,none,[],[0],[],[],[.b true]⟩⟩,⟨(.exit 0),.normal,⟨pvs 18 0 [],[],0,none,[],[],[],[],[]⟩⟩]⟩
def in14_l0_step (x : ((List Int) × Int)) (s:Int) : Int ⊕ (Unit ⊕ Unit) :=
 (if (s < (x.1.length:Int)) then
 (if (((List.getD x.1 (Int.toNat s) (0:Int)) == x.2) = true) then
 (Sum.inr (Sum.inl ())) else
 (Sum.inl (w64 (s + (1:Int))))) else
 (Sum.inr (Sum.inr (()))))
def in14_l0_pre (x : ((List Int) × Int)) (s:Int) : Prop :=
 ((s < (x.1.length:Int)) →
 ((((0:Int) ≤ s) ∧ (s < (x.1.length:Int))) ∧
 (((Int.toNat s) < (List.length x.1)) ∧
 ((Int.toNat s) < (List.length x.1)))))
def in14_l0_t (x : ((List Int) × Int)) (s:Int) : Tr (Int ⊕ (Unit ⊕ Unit)) true :=
 (.i10 (s < (nL x.1))
 (.oI2 s x.1
 (.b00 ((gI x.1 s) == x.2)
 (.ret (.inr (Sum.inl ())))
 (.ret (.inl (w1 s)))))
 (.ret (.inr (Sum.inr (())))))
def in14 (x : ((List Int) × Int)) : Bool :=
 (letV (run (in14_l0_step x) (0:Int)) fun r =>
 (Sum.elim (fun a =>
 true) (fun b =>
 false) r))
def in14_pre (x : ((List Int) × Int)) : Prop :=
 (Term (in14_l0_step x) (in14_l0_pre x) (0:Int))
def in14_t (x : ((List Int) × Int)) : Tr Bool true :=
 (LoopD.lp (in14_l0 x) (in14_l0_t x) z0 fun r =>
 (.s00 r (fun a =>
 (.ret true)) (fun b =>
 (.ret false))))
abbrev in14_S : FnS := ⟨(.pair (.one (Ty.sl yi)) (.one yi)),(.one Ty.bool),in14_pre,in14⟩
theorem in14_ok : SpecOk Try.prog 26 (fnSpec in14_S) := SpecOk.tr in14_S in14_t (fn := Try.f26) tt_ok sp_few14_ok mixed (by kernel_rfl) (ItsOk.nil _ _) (fun x => (LpsOk.tr tt_ok (SpecsOk.ctxI sp_few14_ok (ItsOk.nil _ _)) mixed 0 (in14_l0 x) (in14_l0_t x) LpsOk.nil (by kernel_rfl) fun g s Q => (by kernel_rfl))) (fun x => (by kernel_rfl)) fun x Q => (by kernel_rfl)
def sp_in14 : List (Nat × Ev.Spec) := (26,fnSpec in14_S) :: sp_few14
theorem sp_in14_ok : SpecsOk Try.prog sp_in14 := SpecsOk.add (fn := Try.f26) (by kernel_rfl) in14_ok sp_few14_ok
end Go.Proofs.Ytleemdeodmdnkaa

namespace Go.Proofs.Ytleemdeodmdnkaa
open Go Go.Ev Go.Proofs
theorem same01_law {x y : List Int} (hx : x.length ≤ 1000000) : same01_pre (x,y) ∧ same01 (x,y) = decide (x = y) := by
 unfold same01_pre same01
 dsimp only [letV]
 by_cases hl : x.length = y.length
 ·have key : TR (same01_l0_step (x,y)) (same01_l0_pre (x,y)) 0 (fun r => Sum.elim (fun _ => false) (fun _ => true) r = decide (x = y)) := by
   refine for_loop x.length (fun i s => s = (i:Int) ∧ x.take i = y.take i) _ (fun i s hi ⟨e,h1⟩ => ?_) (fun s ⟨e,h1⟩ => ?_) ⟨rfl,rfl⟩
   ·subst e
    constructor
    ·unfold same01_l0_pre
     dsimp only
     intro _
     rw [Int.toNat_natCast]
     exact ⟨⟨by omega,by omega⟩,hi,hi,⟨by omega,by omega⟩,by omega,by omega⟩
    ·unfold same01_l0_step
     dsimp only
     rw [if_pos (by omega),Int.toNat_natCast,cnt (n := 1000000) (by omega) (by omega)]
     by_cases hg : x.getD i 0 = y.getD i 0
     ·rw [if_neg (by simpa using hg)]
      exact .inl ⟨_,rfl,rfl,by rw [take_snoc hi 0,take_snoc (by omega) 0,h1,hg]⟩
     ·rw [if_pos (by simpa using hg)]
      refine .inr ⟨_,rfl,?_⟩
      symm
      exact decide_eq_false fun e => hg (by rw [e])
   ·subst e
    constructor
    ·unfold same01_l0_pre
     dsimp only
     intro h; omega
    ·unfold same01_l0_step
     dsimp only
     rw [if_neg (by omega)]
     refine ⟨_,rfl,?_⟩
     rw [List.take_length,hl,List.take_length] at h1
     symm
     exact decide_eq_true h1
  rw [if_neg (by rw [hl]; simp)]
  exact ⟨fun _ => key.1,key.2⟩
 ·rw [if_pos (by simp; omega)]
  refine ⟨fun h => absurd (by simp; omega) h,?_⟩
  symm
  exact decide_eq_false fun e => hl (by rw [e])
theorem eown_law {e : EdgeV} (h : e.2.2.length ≤ 1000000) : eown_pre e ∧ eown e = e := by
 refine ⟨fun b hb => ⟨?_,fun _ => by omega⟩,rfl⟩
 cases b with
 | false => rfl
 | true =>
  rw [if_pos rfl]
  have : e.2.2 = [] := by
   cases h0 : e.2.2 with
   | nil => rfl
   | cons a r => exact absurd (hb (by rw [h0]; exact Nat.zero_lt_succ _)) (by decide)
  rw [this]; rfl
def Sml (l : List EdgeV) : Prop := l.length ≤ 1000000 ∧ ∀ e ∈ l,e.2.2.length ≤ 1000000
def lone (e : EdgeV) : Bool := decide (e.2.2.length = 1)
theorem eloose_law {l : List EdgeV} (h : Sml l) : eloose_pre l ∧ eloose l = l.filter lone := by
 have key : TR (eloose_l0_step l) (eloose_l0_pre l) ([],0) (fun r => r = l.filter lone) := by
  refine for_loop l.length (fun i s => s = ((l.take i).filter lone,(i:Int))) _ (fun i s hi e => ?_) (fun s e => ?_) rfl
  ·subst e
   have hin := getD_in hi ((0:Int),((0:Int),([] : List Int)))
   obtain ⟨o1,o2⟩ := eown_law (h.2 _ hin)
   have hsn : (l.take (i + 1)).filter lone = (l.take i).filter lone ++ [l.getD i (0,(0,[]))].filter lone := by rw [take_snoc hi (0,(0,[])),List.filter_append]
   have hle : ((l.take i).filter lone).length ≤ 1000000 := Nat.le_trans (List.length_filter_le _ _) (by rw [List.length_take]; have := h.1; omega)
   constructor
   ·unfold eloose_l0_pre
    dsimp only [letP]
    intro _
    rw [Int.toNat_natCast]
    exact ⟨⟨by omega,by omega⟩,hi,hi,fun _ => ⟨o1,by omega⟩⟩
   ·refine .inl ?_
    unfold eloose_l0_step
    dsimp only [letV]
    rw [if_pos (by omega),Int.toNat_natCast,o2,cnt (n := 1000000) (by have := h.1; omega) (by omega)]
    by_cases hg : (l.getD i (0,(0,[]))).2.2.length = 1
    ·rw [if_pos (by rw [hg]; rfl)]
     refine ⟨_,rfl,?_⟩
     have hL : lone (l.getD i (0,(0,[]))) = true := decide_eq_true hg
     rw [hsn,List.filter_cons_of_pos hL]; rfl
    ·rw [if_neg (by simp only [beq_iff_eq]; omega)]
     refine ⟨_,rfl,?_⟩
     have hL : ¬ lone (l.getD i (0,(0,[]))) = true := fun q => hg (of_decide_eq_true q)
     rw [hsn,List.filter_cons_of_neg hL,List.filter_nil,List.append_nil]
  ·subst e
   constructor
   ·unfold eloose_l0_pre
    dsimp only
    intro h; omega
   ·unfold eloose_l0_step
    dsimp only
    rw [if_neg (by omega)]
    exact ⟨_,rfl,by rw [List.take_length]⟩
 exact ⟨key.1,key.2⟩
def eatP (e : EdgeV) (a b:Int) : Prop := (e.1 = a ∧ e.2.1 = b) ∨ (e.1 = b ∧ e.2.1 = a)
theorem eat_iff (e : EdgeV) (a b:Int) : eat (e,(a,b)) = true ↔ eatP e a b := by
 unfold eat eatP
 dsimp only
 split
 ·rename_i h1
  split
  ·rename_i h2
   simp at h1 h2; simp [h1,h2]
  ·rename_i h2
   split <;> rename_i h3 <;> simp at h1 h2 h3 ⊢ <;> omega
 ·rename_i h1
  split <;> rename_i h3 <;> simp at h1 h3 ⊢ <;> omega
theorem efind_hit {l : List EdgeV} (hs : Sml l) {a b : Int} {e : EdgeV} (he : e ∈ l) (hb : eatP e a b) (hu : ∀ x ∈ l,eatP x a b → x = e) : efind_pre (l,(a,b)) ∧ efind (l,(a,b)) = (e,true) := by
 obtain ⟨i1,i2⟩ := index_loop l (by have := hs.1; omega) (fun x => eat (x,(a,b))) (indexE_l0_step (l,(a,b))) (indexE_l0_pre (l,(a,b))) (fun i hi => by
   unfold indexE_l0_pre
   intro h
   simp only [Int.toNat_natCast]
   dsimp only at h ⊢; omega) (fun i x hx => by
   have hlt := lt_of_get hx
   unfold indexE_l0_step
   rw [if_pos (by dsimp only; omega),Int.toNat_natCast]
   dsimp only [letV]
   rw [getD_of hx]) (by
   unfold indexE_l0_step
   rw [if_neg (by dsimp only; omega)])
 have hany : (l.findIdx? fun x => eat (x,(a,b))).isSome = true := by
  rw [List.findIdx?_isSome]
  exact List.any_eq_true.2 ⟨e,he,(eat_iff _ _ _).2 hb⟩
 obtain ⟨i,hi⟩ := Option.isSome_iff_exists.1 hany
 rw [hi] at i2
 have i2 : indexE (l,(a,b)) = (i:Int) := i2
 rw [List.findIdx?_eq_some_iff_getElem] at hi
 obtain ⟨h1,h2,_⟩ := hi
 have hx : l.getD i (0,(0,[])) = e := by
  rw [List.getD_eq_getElem?_getD,List.getElem?_eq_getElem h1]
  exact hu _ (List.getElem_mem h1) ((eat_iff _ _ _).1 h2)
 obtain ⟨o1,o2⟩ := eown_law (hs.2 e he)
 unfold efind_pre efind
 dsimp only [letP,letV]
 rw [i2,Int.toNat_natCast,hx,if_neg (by omega),o2]
 exact ⟨⟨i1,fun _ => ⟨⟨by omega,by omega⟩,h1,h1,o1⟩⟩,rfl⟩
def m0 : Msh := (List.replicate 7 (0,(0,0)),([],([],[three (0,(1,2)),three (2,(1,3)),three (4,(5,6))])))
def l0 : List EdgeV := [(0,(1,[0])),(0,(2,[0])),(1,(2,[0,1])),(1,(3,[1])),(2,(3,[1])),(4,(5,[2])),(4,(6,[2])),(5,(6,[2]))]
theorem m0_mesh : meshB m0 = true := by kernel_rfl
theorem m0_l : EdOf m0 l0 := by
 have q1 : (l0.all fun e => decide (e.2.2 = Tris m0 (e.1,e.2.1)) && decide (e.2.2 ≠ [])) = true := by kernel_rfl
 have q2 : ([0,1,2].all fun i : Nat => (Prs (Trg m0 (i:Int))).all fun p => decide ((p.1,(p.2,Tris m0 p)) ∈ l0)) = true := by kernel_rfl
 refine ⟨?_,fun e => ⟨fun he => ?_,fun ⟨h1,h2⟩ => ?_⟩⟩
 ·unfold SE
  decide
 ·have := List.all_eq_true.1 q1 e he
  simp only [Bool.and_eq_true,decide_eq_true_eq] at this
  exact this
 ·obtain ⟨k,hk⟩ := List.exists_mem_of_ne_nil _ h2
  rw [h1,tris_mem] at hk
  obtain ⟨⟨k1,k2⟩,k3⟩ := hk
  have k2 : k < 3 := k2
  have hk : k.toNat ∈ [0,1,2] := by
   have : k.toNat = 0 ∨ k.toNat = 1 ∨ k.toNat = 2 := by omega
   simpa using this
  have := List.all_eq_true.1 q2 _ hk
  rw [show ((k.toNat:Nat):Int) = k by omega] at this
  have := List.all_eq_true.1 this _ k3
  have := of_decide_eq_true this
  rw [← h1] at this
  exact this
theorem m0_edges : eedges m0 = (l0,0) := by
 obtain ⟨_,h1,h2,_⟩ := eedges_law m0_mesh
 rw [← h2.eq m0_l,← h1]
theorem m0_adj {i k : Int} (hi : Has m0 i) : Adj m0 i k ↔ (i = 0 ∧ k = 1) ∨ (i = 1 ∧ k = 0) := by
 have q : ([0,1,2].all fun i : Nat => [0,1,2].all fun k : Nat => decide ((k ≠ i ∧ ∃ p ∈ Prs (Trg m0 (i:Int)),p ∈ Prs (Trg m0 (k:Int))) ↔ ((i = 0 ∧ k = 1) ∨ (i = 1 ∧ k = 0)))) = true := by kernel_rfl
 have f : ∀ {z : Int},Has m0 z → z.toNat ∈ [0,1,2] ∧ ((z.toNat:Nat):Int) = z := fun {z} hz => by
  have h1 := hz.1
  have h2 : z < 3 := hz.2
  have : z.toNat = 0 ∨ z.toNat = 1 ∨ z.toNat = 2 := by omega
  exact ⟨by simpa using this,by omega⟩
 obtain ⟨i1,i2⟩ := f hi
 constructor
 ·rintro ⟨h1,h2,h3⟩
  obtain ⟨k1,k2⟩ := f h2
  have := of_decide_eq_true (List.all_eq_true.1 (List.all_eq_true.1 q _ i1) _ k1)
  rw [i2,k2] at this
  have := this.1 ⟨by omega,h3⟩
  omega
 ·intro h
  have hk : Has m0 k := ⟨by omega,by show k < 3; omega⟩
  obtain ⟨k1,k2⟩ := f hk
  have := of_decide_eq_true (List.all_eq_true.1 (List.all_eq_true.1 q _ i1) _ k1)
  rw [i2,k2] at this
  obtain ⟨q1,q2⟩ := this.2 (by omega)
  exact ⟨by omega,hk,q2⟩
theorem m0_has {i : Int} (h1 : 0 ≤ i) (h2 : i < 3) : Has m0 i := ⟨h1,h2⟩
theorem m0_next : enext_pre (m0,0) ∧ enext (m0,0) = ([1],0) := by
 obtain ⟨h1,h2,_,h3,h4⟩ := enext_full m0_mesh (m0_has (i := 0) (by decide) (by decide))
 refine ⟨h1,Prod.ext (ext_lt h3 (by decide) fun k => ?_) h4⟩
 rw [h2 k,m0_adj (m0_has (by decide) (by decide)),List.mem_singleton]
 omega
theorem m0_none : enext_pre (m0,3) ∧ enext (m0,3) = ([],1) := enext_bad (.inr fun h => absurd h.2 (by decide : ¬ ((3:Int) < ((3:Nat):Int))))
theorem m0_cn {i k : Int} (h : Cn m0 i k) : i < 2 → k < 2 := by
 induction h with
 | refl => exact id
 | step _ h1 h2 ih =>
  intro hi
  have := ih hi
  rcases (m0_adj h1).1 h2 with q | q <;> omega
theorem m0_parts : eparts_pre m0 ∧ eparts m0 = ([0,0,2],0) := by
 obtain ⟨h1,h2,h3⟩ := eparts_law m0_mesh
 refine ⟨h1,Prod.ext ?_ h2⟩
 have hlen : (eparts m0).1.length = 3 := h3.len
 have v0 := h3.val 0 (m0_has (by decide) (by decide))
 have v2 := h3.val 2 (m0_has (by decide) (by decide))
 have a1 := h3.adj 0 1 (m0_has (by decide) (by decide)) ((m0_adj (m0_has (by decide) (by decide))).2 (.inl ⟨rfl,rfl⟩))
 generalize (eparts m0).1 = p at hlen v0 v2 a1
 match p,hlen with
 | [a,b,c],_ =>
  have e0 : gp [a,b,c] 0 = a := rfl
  have e1 : gp [a,b,c] 1 = b := rfl
  have e2 : gp [a,b,c] 2 = c := rfl
  rw [e0] at v0 a1
  rw [e1] at a1
  rw [e2] at v2
  have hc := v2.2.2.2
  have : ¬ c < 2 := fun q => by have := m0_cn hc q; omega
  obtain rfl : a = 0 := by omega
  obtain rfl : b = 0 := a1
  obtain rfl : c = 2 := by omega
  rfl
theorem l0_sml : Sml l0 := ⟨by decide,by decide⟩
theorem m0_find : efind_pre (l0,(2,1)) ∧ efind (l0,(2,1)) = ((1,(2,[0,1])),true) :=
 efind_hit l0_sml (e := (1,(2,[0,1]))) (by decide) (.inr ⟨rfl,rfl⟩) (by unfold eatP; decide)
theorem edged_law : edged_pre false ∧ edged false = true := by
 have ep := (eedges_law m0_mesh).1
 obtain ⟨n1,n2⟩ := m0_next
 obtain ⟨n3,n4⟩ := m0_none
 obtain ⟨p1,p2⟩ := m0_parts
 obtain ⟨f1,f2⟩ := m0_find
 obtain ⟨u1,u2⟩ := eloose_law l0_sml
 constructor
 ·unfold edged_pre
  dsimp only [letP]
  rw [show (List.replicate 7 ((0:Int),((0:Int),(0:Int))),(([] : List P2),(([] : List P3),[three (0,(1,2)),three (2,(1,3)),three (4,(5,6))]))) = m0 from rfl,m0_edges]
  refine ⟨ep,n1,p1,f1,n3,fun _ _ => ?_⟩
  refine ⟨by decide,by decide,by decide,by decide,fun _ => ⟨by decide,by decide,by decide,by decide,fun _ => ⟨by decide,by decide,by decide,by decide,(same01_law (by decide)).1,fun _ _ => ⟨?_,fun _ _ => ⟨?_,fun _ _ _ => u1⟩⟩⟩⟩⟩
  ·show same01_pre ((enext (m0,0)).1,[1])
   rw [n2]
   exact (same01_law (by decide)).1
  ·show same01_pre ((eparts m0).1,[0,0,2])
   rw [p2]
   exact (same01_law (by decide)).1
 ·unfold edged
  dsimp only [letV]
  rw [show (List.replicate 7 ((0:Int),((0:Int),(0:Int))),(([] : List P2),(([] : List P3),[three (0,(1,2)),three (2,(1,3)),three (4,(5,6))]))) = m0 from rfl,m0_edges]
  dsimp only
  rw [n2,n4,p2,f2,u2,show l0.getD 2 (0,(0,[])) = (1,(2,[0,1])) from rfl]
  dsimp only
  rw [(same01_law (x := [0,1]) (y := [0,1]) (by decide)).2,(same01_law (x := [1]) (y := [1]) (by decide)).2,(same01_law (x := [0,0,2]) (y := [0,0,2]) (by decide)).2]
  decide
end Go.Proofs.Ytleemdeodmdnkaa

namespace Go.Proofs.Ytleemdeodmdnkaa
open Go Go.Ev Go.Proofs
theorem letP_i {α : Type} {v : α} {f : α → Prop} (h : f v) : letP v f := h
theorem letV_e {α β : Type} (v : α) (f : α → β) : letV v f = f v := rfl
theorem few14_law {m : Msh} (h : few14 m = true) : m.1.length ≤ 20 ∧ m.2.1.length ≤ 60 ∧ m.2.2.1.length ≤ 60 ∧ m.2.2.2.length ≤ 20 := by
 unfold few14 at h
 split at h
 ·split at h
  ·split at h
   ·have := of_decide_eq_true h
    refine ⟨?_,?_,?_,?_⟩ <;> omega
   ·cases h
  ·cases h
 ·cases h
theorem EdOf.sml {m : Msh} {l : List EdgeV} (h : EdOf m l) (hn : m.2.2.2.length ≤ 500) (hl : l.length ≤ 1500) : Sml l := by
 refine ⟨by omega,fun e he => ?_⟩
 rw [((h.2 e).1 he).1]
 unfold Tris
 rw [List.length_map]
 refine Nat.le_trans (List.length_filter_le _ _) ?_
 rw [List.length_range]; omega
end Go.Proofs.Ytleemdeodmdnkaa
