/- Model of law 16's FlatGrown. -/
import Derived.Test.YtpbbnoggkbfkoaaFg
import Derived.Test.YtpbbnoggkbfkoaaCb
import Derived.Test.YtpbbnoggkbfkoaaPv
noncomputable section
set_option linter.unusedSectionVars false
set_option linter.unusedVariables false
set_option linter.unusedSimpArgs false
namespace Go.Proofs.Ytpbbnoggkbfkoaa
open Go Go.Ev Go.Proofs
def sp_cgrow2 : List (Nat × Ev.Spec) := (18,fnSpec cgrow_S) :: sp_l16laid
theorem sp_cgrow2_ok : SpecsOk Try.prog sp_cgrow2 := SpecsOk.add (fn := Try.f18) (by kernel_rfl) cgrow_ok sp_l16laid_ok
def flatGrown_l0 (x : (((List I3) × ((List I2) × ((List I3) × (List I9)))) × I2)) : LoopD := ⟨[],⟨pvs 98 0 [(1,.v (.one (.i .i64))),(2,.v (.one (.i .i64))),(3,.v (.one (.ptr 0 0))),(7,.v (.one (.full 5))),(9,.v (.one (.i .i64)))],[.cells [.full 1,.full 2,.full 3,.full 4] 26,.row yy3 0,.row yy2 0,.row yy3 0,.row yy9 0,.row (Ty.prod yi (Ty.prod yi (Ty.sl yi))) 2],0,none,[],[0,1,3,4,5,6],[7,2],[(.l (Ty.prod yi (Ty.prod yi (Ty.sl yi)))),.i],[.i x.2.1,.i x.2.2,.l yy3 x.1.1,.l yy2 x.1.2.1,.l yy3 x.1.2.2.1,.l yy9 x.1.2.2.2]⟩,[⟨.ret,.ret,⟨pvs 98 0 [(6,.v (.one (.b)))],[],0,none,[],[0],[],[],[.b false]⟩⟩,⟨(.exit 0),.normal,⟨pvs 98 0 [],[],0,none,[],[],[],[],[]⟩⟩]⟩
def flatGrown_l0_step (x : (((List I3) × ((List I2) × ((List I3) × (List I9)))) × I2)) (s : ((List (Int × (Int × (List Int)))) × Int)) : ((List (Int × (Int × (List Int)))) × Int) ⊕ (Unit ⊕ Unit) :=
 (if (s.2 < (s.1.length:Int)) then
 (letV (flay (x.1,((List.getD s.1 (Int.toNat s.2) ((0:Int),((0:Int),[]))),x.2.1))) fun y =>
 (letV (flay (x.1,((List.getD s.1 (Int.toNat s.2) ((0:Int),((0:Int),[]))),x.2.2))) fun y_1 =>
 (if ((y.2 != (0:Int)) = true) then
 (if ((y.2 != (2:Int)) = true) then
 (Sum.inr (Sum.inl ())) else
 (if ((y.2 == (0:Int)) = true) then
 (if ((y_1.2 != (0:Int)) = true) then
 (Sum.inr (Sum.inl ())) else
 (if (y_1.1.2.2.1 > y.1.2.2.1) then
 (Sum.inr (Sum.inl ())) else
 (if (y_1.1.2.2.2 > y.1.2.2.2) then
 (Sum.inr (Sum.inl ())) else
 (Sum.inl (s.1,(w64 (s.2 + (1:Int)))))))) else
 (Sum.inl (s.1,(w64 (s.2 + (1:Int))))))) else
 (if ((y.2 == (0:Int)) = true) then
 (if ((y_1.2 != (0:Int)) = true) then
 (Sum.inr (Sum.inl ())) else
 (if (y_1.1.2.2.1 > y.1.2.2.1) then
 (Sum.inr (Sum.inl ())) else
 (if (y_1.1.2.2.2 > y.1.2.2.2) then
 (Sum.inr (Sum.inl ())) else
 (Sum.inl (s.1,(w64 (s.2 + (1:Int)))))))) else
 (Sum.inl (s.1,(w64 (s.2 + (1:Int))))))))) else
 (Sum.inr (Sum.inr (()))))
def flatGrown_l0_pre (x : (((List I3) × ((List I2) × ((List I3) × (List I9)))) × I2)) (s : ((List (Int × (Int × (List Int)))) × Int)) : Prop :=
 ((s.2 < (s.1.length:Int)) →
 ((((0:Int) ≤ s.2) ∧ (s.2 < (s.1.length:Int))) ∧
 (((Int.toNat s.2) < (List.length s.1)) ∧
 (((Int.toNat s.2) < (List.length s.1)) ∧
 ((flay_pre (x.1,((List.getD s.1 (Int.toNat s.2) ((0:Int),((0:Int),[]))),x.2.1))) ∧
 letP (flay (x.1,((List.getD s.1 (Int.toNat s.2) ((0:Int),((0:Int),[]))),x.2.1))) fun y =>
 ((((0:Int) ≤ s.2) ∧ (s.2 < (s.1.length:Int))) ∧
 (((Int.toNat s.2) < (List.length s.1)) ∧
 (((Int.toNat s.2) < (List.length s.1)) ∧
 (flay_pre (x.1,((List.getD s.1 (Int.toNat s.2) ((0:Int),((0:Int),[]))),x.2.2)))))))))))
def flatGrown_l0_t (x : (((List I3) × ((List I2) × ((List I3) × (List I9)))) × I2)) (s : ((List (Int × (Int × (List Int)))) × Int)) : Tr (((List (Int × (Int × (List Int)))) × Int) ⊕ (Unit ⊕ Unit)) true :=
 (.i10 (s.2 < (nL s.1))
 (.oI2 s.2 s.1
 (.fn flay_S (x.1,((gT s.1 s.2 (z0,(z0,[]))),x.2.1)) fun y =>
 (.oI2 s.2 s.1
 (.fn flay_S (x.1,((gT s.1 s.2 (z0,(z0,[]))),x.2.2)) fun y_1 =>
 (.b00 (y.2 != z0)
 (.b00 (y.2 != (2:Int))
 (.ret (.inr (Sum.inl ())))
 (.b00 (y.2 == z0)
 (.b00 (y_1.2 != z0)
 (.ret (.inr (Sum.inl ())))
 (.i00 (y_1.1.2.2.1 > y.1.2.2.1)
 (.ret (.inr (Sum.inl ())))
 (.i00 (y_1.1.2.2.2 > y.1.2.2.2)
 (.ret (.inr (Sum.inl ())))
 (.ret (.inl (s.1,(w1 s.2)))))))
 (.ret (.inl (s.1,(w1 s.2))))))
 (.b00 (y.2 == z0)
 (.b00 (y_1.2 != z0)
 (.ret (.inr (Sum.inl ())))
 (.i00 (y_1.1.2.2.1 > y.1.2.2.1)
 (.ret (.inr (Sum.inl ())))
 (.i00 (y_1.1.2.2.2 > y.1.2.2.2)
 (.ret (.inr (Sum.inl ())))
 (.ret (.inl (s.1,(w1 s.2)))))))
 (.ret (.inl (s.1,(w1 s.2))))))))))
 (.ret (.inr (Sum.inr (())))))
def flatGrown (x : (((List I3) × ((List I2) × ((List I3) × (List I9)))) × I2)) : Bool :=
 (letV (r15few (x.1,[])) fun y =>
 (if ((!y) = true) then
 (letV (l16laid false) fun y_1 =>
 y_1) else
 (if (x.2.1 < (1:Int)) then
 (letV (l16laid false) fun y_1 =>
 y_1) else
 (if (x.2.1 > (64:Int)) then
 (letV (l16laid false) fun y_1 =>
 y_1) else
 (if (x.2.2 < (1:Int)) then
 (letV (l16laid false) fun y_1 =>
 y_1) else
 (if (x.2.2 > x.2.1) then
 (letV (l16laid false) fun y_1 =>
 y_1) else
 (letV (cgrow x.1) fun y_1 =>
 (if ((y_1.2 != (0:Int)) = true) then
 (letV (l16laid false) fun y_2 =>
 y_2) else
 (letV (run (flatGrown_l0_step x) (y_1.1,(0:Int))) fun r =>
 (Sum.elim (fun a =>
 false) (fun b =>
 (letV (l16laid false) fun y_2 =>
 y_2)) r))))))))))
def flatGrown_pre (x : (((List I3) × ((List I2) × ((List I3) × (List I9)))) × I2)) : Prop :=
 ((r15few_pre (x.1,[])) ∧
 letP (r15few (x.1,[])) fun y =>
 ((((!y) = true) →
 (l16laid_pre false)) ∧
 (¬ ((!y) = true) →
 (((x.2.1 < (1:Int)) →
 (l16laid_pre false)) ∧
 (¬ (x.2.1 < (1:Int)) →
 (((x.2.1 > (64:Int)) →
 (l16laid_pre false)) ∧
 (¬ (x.2.1 > (64:Int)) →
 (((x.2.2 < (1:Int)) →
 (l16laid_pre false)) ∧
 (¬ (x.2.2 < (1:Int)) →
 (((x.2.2 > x.2.1) →
 (l16laid_pre false)) ∧
 (¬ (x.2.2 > x.2.1) →
 ((cgrow_pre x.1) ∧
 letP (cgrow x.1) fun y_1 =>
 ((((y_1.2 != (0:Int)) = true) →
 (l16laid_pre false)) ∧
 (¬ ((y_1.2 != (0:Int)) = true) →
 (Term (flatGrown_l0_step x) (flatGrown_l0_pre x) (y_1.1,(0:Int)) ∧
 letP (run (flatGrown_l0_step x) (y_1.1,(0:Int))) fun r =>
 (cS r (fun a =>
 True) (fun b =>
 (l16laid_pre false))))))))))))))))))
def flatGrown_t (x : (((List I3) × ((List I2) × ((List I3) × (List I9)))) × I2)) : Tr Bool true :=
 (.fn r15few_S (x.1,[]) fun y =>
 (.b11 (!y)
 (.fn l16laid_S false fun y_1 =>
 (.ret y_1))
 (.i11 (x.2.1 < z1)
 (.fn l16laid_S false fun y_1 =>
 (.ret y_1))
 (.i11 (x.2.1 > (64:Int))
 (.fn l16laid_S false fun y_1 =>
 (.ret y_1))
 (.i11 (x.2.2 < z1)
 (.fn l16laid_S false fun y_1 =>
 (.ret y_1))
 (.i11 (x.2.2 > x.2.1)
 (.fn l16laid_S false fun y_1 =>
 (.ret y_1))
 (.fn cgrow_S x.1 fun y_1 =>
 (.b11 (y_1.2 != z0)
 (.fn l16laid_S false fun y_2 =>
 (.ret y_2))
 (LoopD.lp (flatGrown_l0 x) (flatGrown_l0_t x) (y_1.1,z0) fun r =>
 (.s01 r (fun a =>
 (.ret false)) (fun b =>
 (.fn l16laid_S false fun y_2 =>
 (.ret y_2)))))))))))))
abbrev flatGrown_S : FnS := ⟨(.pair (.agg (Ty.prod (Ty.sl yy3) (Ty.prod (Ty.sl yy2) (Ty.prod (Ty.sl yy3) (Ty.sl yy9))))) (.pair (.one yi) (.one yi))),(.one Ty.bool),flatGrown_pre,flatGrown⟩
theorem flatGrown_ok : SpecOk Try.prog 6 (fnSpec flatGrown_S) := SpecOk.tr flatGrown_S flatGrown_t (fn := Try.f6) tt_ok sp_cgrow2_ok mixed (by kernel_rfl) (ItsOk.nil _ _) (fun x => (LpsOk.tr tt_ok (SpecsOk.ctxI sp_cgrow2_ok (ItsOk.nil _ _)) mixed 0 (flatGrown_l0 x) (flatGrown_l0_t x) LpsOk.nil (by kernel_rfl) fun g s Q => (by kernel_rfl))) (fun x => (by kernel_rfl)) fun x Q => (by kernel_rfl)
end Go.Proofs.Ytpbbnoggkbfkoaa

namespace Go.Proofs.Ytpbbnoggkbfkoaa
open Go Go.Ev Go.Proofs
theorem sz_mono {a b : Int} (h0 : 0 ≤ a) (h : a ≤ b) (hb : b ≤ 4096) : Sz a ≤ Sz b := by
 unfold Sz
 rw [if_neg (by omega),if_neg (by omega),if_neg (by omega),if_neg (by omega)]
 have := Int.ediv_le_ediv (c := 16) (by decide) h
 omega
theorem grown_len {m : Msh} (hm : tameB m = true) {out : List Chr} (h : Grown m (Free0 m) [] out) {c : Chr} (hc : c ∈ out) : c.2.2.length ≤ 500 := by
 have h1 := h.perm.length_eq
 rw [List.append_nil] at h1
 have h2 := free0_len m
 have h3 := (mesh_len (tame_mesh hm)).2.2.2
 have h4 : c.2.2.length ≤ (out.flatMap (·.2.2)).length := by
  obtain ⟨a,b,rfl⟩ := List.append_of_mem hc
  rw [List.flatMap_append,List.flatMap_cons,List.length_append,List.length_append]
  omega
 omega
theorem out_len {m : Msh} (hm : tameB m = true) {out : List Chr} (h : Grown m (Free0 m) [] out) : out.length ≤ 500 := by
 have h1 := h.len
 have h2 := free0_len m
 have h3 := (mesh_len (tame_mesh hm)).2.2.2
 omega
theorem two_lay {m : Msh} (hm : tameB m = true) {c : Chr} (hg : Good m (cw c) c.2.2) (h0 : c.2.2 ≠ []) (hl : c.2.2.length ≤ 500) {d d' : Int} (hd : 1 ≤ d ∧ d ≤ 64) (hd' : 1 ≤ d' ∧ d' ≤ d) :
  (flay (m,(c,d))).2 = 2 ∨ ((flay (m,(c,d))).2 = 0 ∧ (flay (m,(c,d'))).2 = 0 ∧ (flay (m,(c,d'))).1.2.2.1 ≤ (flay (m,(c,d))).1.2.2.1 ∧ (flay (m,(c,d'))).1.2.2.2 ≤ (flay (m,(c,d))).1.2.2.2) := by
 rcases gr_lay hm hg h0 (by omega) hd with ⟨_,e⟩ | ⟨hh,e⟩
 ·exact .inl (by rw [e])
 ·obtain ⟨lo,hi,hB,e1,hlo,hhi,hT,hH⟩ := gr_plain hm hg h0 (by omega) hd
  obtain ⟨lo',hi',hB',e1',hlo',hhi',hT',hH'⟩ := gr_plain hm hg h0 (by omega) (show 1 ≤ d' ∧ d' ≤ 64 by omega)
  rw [e1] at e1'
  simp only [Prod.mk.injEq] at e1'
  obtain ⟨rfl,rfl,_⟩ := e1'
  obtain ⟨p1,k1,q1⟩ := hB.l1
  obtain ⟨p2,k2,q2⟩ := hB.l2
  have a1 : lo.1 ≤ hi.1 := by have := (hB.high p1 k1).1; omega
  have a2 : lo.2 ≤ hi.2 := by have := (hB.high p2 k2).2; omega
  obtain ⟨b1,b2⟩ := gr_less a1 a2 hd'.2
  have z1 := ly_mono (l := lo.1) (d := d') a1 hd'.1
  have z2 := ly_mono (l := lo.2) (d := d') a2 hd'.1
  rw [Int.sub_self,Int.zero_mul] at z1 z2
  rw [hH] at hh
  have hh' : (High m c d').1 ≤ 4096 ∧ (High m c d').2 ≤ 4096 := by rw [hH']; exact ⟨by omega,by omega⟩
  rcases gr_lay hm hg h0 (by omega) (show 1 ≤ d' ∧ d' ≤ 64 by omega) with ⟨hn,_⟩ | ⟨_,e'⟩
  ·exact absurd hh' hn
  ·refine .inr ⟨by rw [e],by rw [e'],?_,?_⟩
   ·rw [e,e',hH,hH']; exact sz_mono z1 b1 hh.1
   ·rw [e,e',hH,hH']; exact sz_mono z2 b2 hh.2
abbrev zCh : Chr := (0,(0,[]))
theorem fg_loop {m : Msh} (hm : tameB m = true) {out : List Chr} (h : Grown m (Free0 m) [] out) {d d' : Int} (hd : 1 ≤ d ∧ d ≤ 64) (hd' : 1 ≤ d' ∧ d' ≤ d) :
  TR (flatGrown_l0_step (m,(d,d'))) (flatGrown_l0_pre (m,(d,d'))) (out,0) (fun r => r = .inr ()) := by
 have hol := out_len hm h
 refine for_loop out.length (fun i s => s = (out,(i:Int))) _ (fun i s hi e => ?_) (fun s e => ?_) rfl
 ·subst e
  have hmem : out.getD i zCh ∈ out := getD_in hi _
  obtain ⟨h0,hg⟩ := h.good _ hmem
  have hl := grown_len hm h hmem
  have f1 := (flay_law m (out.getD i zCh) d (by omega)).1
  have f2 := (flay_law m (out.getD i zCh) d' (by omega)).1
  have ht := two_lay hm hg h0 hl hd hd'
  constructor
  ·unfold flatGrown_l0_pre
   simp only [Int.toNat_natCast]
   exact fun _ => ⟨⟨by omega,by omega⟩,hi,hi,f1,letP_i ⟨⟨by omega,by omega⟩,hi,hi,f2⟩⟩
  ·refine .inl ?_
   unfold flatGrown_l0_step
   simp only [Int.toNat_natCast]
   rw [if_pos (by omega),letV_e,letV_e]
   rcases ht with e | ⟨e1,e2,e3,e4⟩
   ·rw [show (flay (m,(List.getD out i ((0:Int),((0:Int),[])),d))).2 = 2 from e,if_pos (by decide),if_neg (by decide),if_neg (by decide),cnt (n := 500) (by omega) (by omega)]
    exact ⟨_,rfl,rfl⟩
   ·rw [show (flay (m,(List.getD out i ((0:Int),((0:Int),[])),d))).2 = 0 from e1,show (flay (m,(List.getD out i ((0:Int),((0:Int),[])),d'))).2 = 0 from e2,if_neg (by decide),if_pos (by decide),if_neg (by decide),if_neg (by exact Int.not_lt.2 e3),if_neg (by exact Int.not_lt.2 e4),cnt (n := 500) (by omega) (by omega)]
    exact ⟨_,rfl,rfl⟩
 ·subst e
  constructor
  ·unfold flatGrown_l0_pre
   dsimp only
   intro h; omega
  ·unfold flatGrown_l0_step
   dsimp only
   rw [if_neg (by omega)]
   exact ⟨_,rfl,rfl⟩
theorem tame_cases (m : Msh) : (tameB m = true ∧ (cgrow m).2 = 0 ∧ Grown m (Free0 m) [] (cgrow m).1) ∨ (tameB m = false ∧ (cgrow m).2 = 1 ∧ (cgrow m).1 = []) := by
 obtain ⟨g1,g2,g3⟩ := cgrow_law m
 cases h : tameB m with
 | true => exact .inl ⟨rfl,g2 h⟩
 | false => exact .inr ⟨rfl,by rw [g3 h],by rw [g3 h]⟩
theorem grown_law (x : Msh × (Int × Int)) : flatGrown_pre x ∧ flatGrown x = true := by
 obtain ⟨m,d,d'⟩ := x
 obtain ⟨c1,c2⟩ := laid_law false
 have f1 := (r15few_law m []).1
 have g1 := (cgrow_law m).1
 have key : ∀ (hd : 1 ≤ d ∧ d ≤ 64) (hd' : 1 ≤ d' ∧ d' ≤ d),(cgrow m).2 = 0 → TR (flatGrown_l0_step (m,(d,d'))) (flatGrown_l0_pre (m,(d,d'))) ((cgrow m).1,0) (fun r => r = .inr ()) := fun hd hd' h0 => by
  rcases tame_cases m with ⟨ht,_,h2⟩ | ⟨_,h1,_⟩
  ·exact fg_loop ht h2 hd hd'
  ·rw [h1] at h0; exact absurd h0 (by decide)
 constructor
 ·unfold flatGrown_pre
  refine ⟨f1,letP_i ⟨fun _ => c1,fun _ => ⟨fun _ => c1,fun h1 => ⟨fun _ => c1,fun h2 => ⟨fun _ => c1,fun h3 => ⟨fun _ => c1,fun h4 => ⟨g1,letP_i ⟨fun _ => c1,fun h5 => ?_⟩⟩⟩⟩⟩⟩⟩⟩
  have hA := key (by dsimp only at h1 h2; omega) (by dsimp only at h3 h4; omega) (by simpa using h5)
  exact ⟨hA.1,letP_i (cS_r hA.2 c1)⟩
 ·unfold flatGrown
  rw [letV_e]
  by_cases h0 : (!r15few (m,[])) = true
  ·rw [if_pos h0,letV_e,c2]
  rw [if_neg h0]
  by_cases h1 : d < 1
  ·rw [if_pos h1,letV_e,c2]
  rw [if_neg h1]
  by_cases h2 : d > 64
  ·rw [if_pos h2,letV_e,c2]
  rw [if_neg h2]
  by_cases h3 : d' < 1
  ·rw [if_pos h3,letV_e,c2]
  rw [if_neg h3]
  by_cases h4 : d' > d
  ·rw [if_pos h4,letV_e,c2]
  rw [if_neg h4,letV_e]
  by_cases h5 : ((cgrow m).2 != 0) = true
  ·rw [if_pos h5,letV_e,c2]
  ·have hA := key (by omega) (by omega) (by simpa using h5)
   rw [if_neg h5,letV_e,hA.2,Sum.elim_inr,letV_e,c2]
end Go.Proofs.Ytpbbnoggkbfkoaa
