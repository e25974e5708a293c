/- Plain laws: how deep a tree is; what is built. -/
import Derived.Test.YtaipcbdilkcdbaaVf
import Derived.Test.YtaipcbdilkcdbaaUc
noncomputable section
set_option linter.unusedSectionVars false
set_option linter.unusedVariables false
set_option linter.unusedSimpArgs false
namespace Go.Proofs.Ytaipcbdilkcdbaa
open Go Go.Ev Go.Proofs
def DEq (G : List Brn) (N : List (List Int)) (d : List Int) (k:Nat) : Prop := ((G.getD k zB).2.1 = 0 ∧ (G.getD k zB).2.2.1 = 0 ∧ d.getD k 0 = 1) ∨
 (∃ r : Nat,(G.getD k zB).2.1 = ((k + 1:Nat):Int) ∧ (G.getD k zB).2.2.1 = (r:Int) ∧ k + 1 < r ∧ r < G.length ∧ d.getD k 0 = maxI (maxI 1 (d.getD (k + 1) 0 + 1)) (d.getD r 0 + 1))
theorem depth_inner (G : List Brn) (d T : List Int) (i r:Nat) (hd : d.length = G.length) (hi : i + 1 < r) (hr : r < G.length) (hb : ∀ k,k < G.length → 0 ≤ d.getD k 0 ∧ d.getD k 0 ≤ 1000000) :
  TR (depthT_l2_10_step G) (depthT_l2_10_pre G) (d.set i 1,(T,((i:Int),(((i + 1:Nat):Int),((r:Int),0))))) fun z => ∃ d',z = (d',T) ∧ d'.length = G.length ∧ ∀ k,k < G.length → d'.getD k 0 = if i = k then maxI (maxI 1 (d.getD (i + 1) 0 + 1)) (d.getD r 0 + 1) else d.getD k 0 := by
 have hl1 : (d.set i 1).length = G.length := by simp [hd]
 have g1 : (d.set i 1).getD i 0 = 1 := by rw [set_get _ _ _ _ _ (by omega),if_pos rfl]
 have g2 : (d.set i 1).getD (i + 1) 0 = d.getD (i + 1) 0 := by rw [set_get _ _ _ _ _ (by omega),if_neg (by omega)]
 have b1 := hb (i + 1) (by omega)
 have b2 := hb r hr
 have w1 : w64 (d.getD (i + 1) 0 + 1) = d.getD (i + 1) 0 + 1 := w64_id (by omega) (by omega)
 have w2 : w64 (d.getD r 0 + 1) = d.getD r 0 + 1 := w64_id (by omega) (by omega)
 generalize hd1 : (d.set i 1).set i (maxI 1 (d.getD (i + 1) 0 + 1)) = d1
 have hl2 : d1.length = G.length := by rw [← hd1]; simp [hd]
 have g3 : d1.getD i 0 = maxI 1 (d.getD (i + 1) 0 + 1) := by rw [← hd1,set_get _ _ _ _ _ (by omega),if_pos rfl]
 have g4 : d1.getD r 0 = d.getD r 0 := by rw [← hd1,set_get _ _ _ _ _ (by omega),if_neg (by omega),set_get _ _ _ _ _ (by omega),if_neg (by omega)]
 refine TR.go (s' := (d1,(T,((i:Int),(((i + 1:Nat):Int),((r:Int),1)))))) ?_ ?_ (TR.go (s' := (d1.set i (maxI (maxI 1 (d.getD (i + 1) 0 + 1)) (d.getD r 0 + 1)),(T,((i:Int),(((i + 1:Nat):Int),((r:Int),2)))))) ?_ ?_ (TR.stop (r := (d1.set i (maxI (maxI 1 (d.getD (i + 1) 0 + 1)) (d.getD r 0 + 1)),T)) ?_ ?_ ⟨_,rfl,by simp [hl2],fun k hk => ?_⟩))
 ·unfold depthT_l2_10_pre
  intro _
  dsimp only
  simp only [Int.toNat_natCast,show (0 + Int.toNat (0:Int) * 1) = 0 from rfl,List.getD_cons_zero]
  exact ⟨by decide,by decide,fun _ _ => ⟨by omega,by omega,by omega,by omega,by omega,by omega,by omega,by omega,by omega⟩⟩
 ·unfold depthT_l2_10_step letV
  dsimp only
  simp only [Int.toNat_natCast,show (0 + Int.toNat (0:Int) * 1) = 0 from rfl,List.getD_cons_zero]
  rw [if_pos (by decide),if_pos (by omega),if_pos (by omega),g1,g2,w1,hd1]
  rfl
 ·unfold depthT_l2_10_pre
  intro _
  dsimp only
  simp only [Int.toNat_natCast,show (0 + Int.toNat (1:Int) * 1) = 1 from rfl,List.getD_cons_succ,List.getD_cons_zero]
  exact ⟨by decide,by decide,fun _ _ => ⟨by omega,by omega,by omega,by omega,by omega,by omega,by omega,by omega,by omega⟩⟩
 ·unfold depthT_l2_10_step letV
  dsimp only
  simp only [Int.toNat_natCast,show (0 + Int.toNat (1:Int) * 1) = 1 from rfl,List.getD_cons_succ,List.getD_cons_zero]
  rw [if_pos (by decide),if_pos (by omega),if_pos (by omega),g3,g4,w2]
  rfl
 ·unfold depthT_l2_10_pre
  intro q
  exact absurd (show (2:Int) < 2 from q) (by decide)
 ·unfold depthT_l2_10_step
  dsimp only
  rw [if_neg (by decide)]
 ·rw [set_get _ _ _ _ _ (by omega)]
  by_cases e : i = k
  ·rw [if_pos e,if_pos e]
  ·rw [if_neg e,if_neg e,← hd1,set_get _ _ _ _ _ (by omega),if_neg e,set_get _ _ _ _ _ (by omega),if_neg e]
theorem maxI_bd (a b c:Int) (h1 : a ≤ c) (h2 : b ≤ c) : maxI a b ≤ c := by unfold maxI; split <;> assumption
section
variable {L : List T3} {pl : List Int} {G : List Brn} {N : List (List Int)} {U : List Int} (h : Facts L 0 (-1) pl G N U)
include h
theorem depth_loop (hG : G.length ≤ 10000) : TR (depthT_w0l0_8_step G ()) (depthT_w0l0_8_pre G ()) (List.replicate G.length 0,((G.length:Nat):Int) - 1) fun d => d.length = G.length ∧ ∀ k,k < G.length → DEq G N d k := by
 refine for_loop G.length (fun c s => ∃ d,s = (d,((G.length:Nat):Int) - 1 - (c:Int)) ∧ d.length = G.length ∧ (∀ k,k < G.length → 0 ≤ d.getD k 0 ∧ d.getD k 0 ≤ (c:Int)) ∧ ∀ k,k < G.length → G.length ≤ k + c → DEq G N d k) _ (fun c s hc hJ => ?_) (fun s hJ => ?_) ⟨List.replicate G.length 0,by simp,by simp,fun k hk => ?_,fun k hk hk2 => by omega⟩
 ·obtain ⟨d,rfl,hl,hbd,hE⟩ := hJ
  obtain ⟨i,hi⟩ : ∃ i,i = G.length - 1 - c := ⟨_,rfl⟩
  have hin : i < G.length := by omega
  have hii : ((G.length:Nat):Int) - 1 - (c:Int) = (i:Int) := by omega
  have hw : w64 ((i:Int) - 1) = ((G.length:Nat):Int) - 1 - ((c + 1:Nat):Int) := by rw [w64_id (by omega) (by omega)]; omega
  rw [hii]
  rcases h.kind0 hin with ⟨a1,a2,a3,a4⟩ | ⟨r,a1,a2,a3,a4,a5,a6,a7,a8⟩
  ·have hleaf : leafN (G.getD i ((((0:Int),((0:Int),(0:Int))),((0:Int),((0:Int),(0:Int)))),((0:Int),((0:Int),([] : List Int)))),(i:Int)) = true := (leafN_law (G.getD i zB) _).2 ⟨a1,a2⟩
   refine ⟨?_,.inl ⟨(d.set i 1,((G.length:Nat):Int) - 1 - ((c + 1:Nat):Int)),?_,_,rfl,by simp [hl],fun k hk => ?_,fun k hk hk2 => ?_⟩⟩
   ·unfold depthT_w0l0_8_pre letP
    intro _
    dsimp only
    rw [Int.toNat_natCast,hleaf]
    exact ⟨by omega,hin,hin,by omega,by omega,by omega,fun q => absurd rfl q⟩
   ·unfold depthT_w0l0_8_step letV
    dsimp only
    rw [if_pos (by omega),Int.toNat_natCast,hleaf,if_pos rfl,hw]
   ·rw [set_get _ _ _ _ _ (by omega)]
    have := hbd k hk
    split <;> omega
   ·by_cases e : i = k
    ·subst e
     exact .inl ⟨a1,a2,by rw [set_get _ _ _ _ _ (by omega),if_pos rfl]⟩
    ·rcases hE k hk (by omega) with ⟨q1,q2,q3⟩ | ⟨r',q1,q2,q3,q4,q5⟩
     ·exact .inl ⟨q1,q2,by rw [set_get _ _ _ _ _ (by omega),if_neg e]; exact q3⟩
     ·exact .inr ⟨r',q1,q2,q3,q4,by rw [set_get _ _ _ _ _ (by omega),if_neg e,set_get _ _ _ _ _ (by omega),if_neg (by omega),set_get _ _ _ _ _ (by omega),if_neg (by omega)]; exact q5⟩
  ·have hleaf : leafN (G.getD i ((((0:Int),((0:Int),(0:Int))),((0:Int),((0:Int),(0:Int)))),((0:Int),((0:Int),([] : List Int)))),(i:Int)) = false := by
    cases e : leafN (G.getD i ((((0:Int),((0:Int),(0:Int))),((0:Int),((0:Int),(0:Int)))),((0:Int),((0:Int),([] : List Int)))),(i:Int)) with
    | false => rfl
    | true =>
     have := ((leafN_law (G.getD i zB) _).1 e).1
     rw [a1] at this; omega
   have key := depth_inner G d (G.getD i zB).2.2.2 i r hl a3 a4 (fun k hk => by have := hbd k hk; omega)
   obtain ⟨d',e,hl',hd'⟩ := key.2
   have b1 : (G.getD i ((((0:Int),((0:Int),(0:Int))),((0:Int),((0:Int),(0:Int)))),((0:Int),((0:Int),([] : List Int))))).2.1 = ((i + 1:Nat):Int) := a1
   have b2 : (G.getD i ((((0:Int),((0:Int),(0:Int))),((0:Int),((0:Int),(0:Int)))),((0:Int),((0:Int),([] : List Int))))).2.2.1 = (r:Int) := a2
   refine ⟨?_,.inl ⟨(d',((G.length:Nat):Int) - 1 - ((c + 1:Nat):Int)),?_,d',rfl,hl',fun k hk => ?_,fun k hk hk2 => ?_⟩⟩
   ·unfold depthT_w0l0_8_pre letP
    intro _
    dsimp only
    rw [Int.toNat_natCast,hleaf,b1,b2]
    exact ⟨by omega,hin,hin,by omega,by omega,by omega,fun _ => key.1⟩
   ·unfold depthT_w0l0_8_step letV
    dsimp only
    rw [if_pos (by omega),Int.toNat_natCast,hleaf,if_neg (by decide),b1,b2]
    refine Eq.trans (congrArg (fun z : (List Int) × (List Int) => Sum.inl (z.1,w64 ((i:Int) - 1))) e) ?_
    dsimp only
    rw [hw]
   ·rw [hd' k hk]
    have q1 := hbd k hk
    have q2 := hbd (i + 1) (by omega)
    have q3 := hbd r a4
    split
    ·have m1 := maxI_le 1 (d.getD (i + 1) 0 + 1)
     have m2 := maxI_le (maxI 1 (d.getD (i + 1) 0 + 1)) (d.getD r 0 + 1)
     exact ⟨by omega,maxI_bd _ _ _ (maxI_bd _ _ _ (by omega) (by omega)) (by omega)⟩
    ·omega
   ·by_cases e2 : i = k
    ·subst e2
     refine .inr ⟨r,a1,a2,a3,a4,?_⟩
     rw [hd' i hk,if_pos rfl,hd' (i + 1) (by omega),if_neg (by omega),hd' r a4,if_neg (by omega)]
    ·rcases hE k hk (by omega) with ⟨q1,q2,q3⟩ | ⟨r',q1,q2,q3,q4,q5⟩
     ·exact .inl ⟨q1,q2,by rw [hd' k hk,if_neg e2]; exact q3⟩
     ·exact .inr ⟨r',q1,q2,q3,q4,by rw [hd' k hk,if_neg e2,hd' (k + 1) (by omega),if_neg (by omega),hd' r' q4,if_neg (by omega)]; exact q5⟩
 ·obtain ⟨d,rfl,hl,hbd,hE⟩ := hJ
  refine ⟨?_,d,?_,hl,fun k hk => hE k hk (by omega)⟩
  ·unfold depthT_w0l0_8_pre
   intro q
   dsimp only at q; omega
  ·unfold depthT_w0l0_8_step
   dsimp only
   rw [if_neg (by omega)]
 ·rw [List.getD_eq_getElem?_getD,List.getElem?_replicate,if_pos hk]
  exact ⟨by decide,by simp⟩
theorem depth_law (hG : G.length ≤ 10000) : depthT_pre G ∧ ∃ d : List Int,depthT G = d.getD 0 0 ∧ ∀ k,k < G.length → DEq G N d k := by
 have hpos := h.pos
 have key := depth_loop h hG
 have hb : ¬ ((((G.length:Nat):Int) == 0) = true) := by simp; exact List.length_pos_iff.1 hpos
 have hw : w64 (((G.length:Nat):Int) - 1) = ((G.length:Nat):Int) - 1 := w64_id (by omega) (by omega)
 unfold depthT_pre depthT letP letV
 dsimp only
 rw [if_neg hb,hw]
 have hl := key.2.1
 exact ⟨fun _ => ⟨⟨by omega,by omega⟩,key.1,by omega,by omega,by omega⟩,_,rfl,key.2.2⟩
end
end Go.Proofs.Ytaipcbdilkcdbaa

namespace Go.Proofs.Ytaipcbdilkcdbaa
open Go Go.Ev Go.Proofs
def sameI_l0 (x : ((List Int) × (List Int))) : LoopD := ⟨[],⟨pvs 26 0 [(0,.v (.one (.full 0))),(1,.v (.one (.full 1))),(5,.v (.one (.i .i64)))],[.row yi 0,.row yi 0],0,none,[],[1,2],[0],[.i],[.l yi x.1,.l yi x.2]⟩,[⟨.ret,.ret,⟨pvs 26 0 [(4,.v (.one (.b)))],[],0,none,[],[0],[],[],[.b false]⟩⟩,⟨(.exit 0),.normal,⟨pvs 26 0 [],[],0,none,[],[],[],[],[]⟩⟩]⟩
def sameI_l0_step (x : ((List Int) × (List Int))) (s:Int) : Int ⊕ (Unit ⊕ Unit) :=
 (if (s < (x.1.length:Int)) then
 (if (((List.getD x.1 (Int.toNat s) (0:Int)) != (List.getD x.2 (Int.toNat s) (0:Int))) = true) then
 (Sum.inr (Sum.inl ())) else
 (Sum.inl (w64 (s + (1:Int))))) else
 (Sum.inr (Sum.inr (()))))
def sameI_l0_pre (x : ((List Int) × (List Int))) (s:Int) : Prop :=
 ((s < (x.1.length:Int)) →
 ((((0:Int) ≤ s) ∧ (s < (x.1.length:Int))) ∧
 (((Int.toNat s) < (List.length x.1)) ∧
 (((Int.toNat s) < (List.length x.1)) ∧
 ((((0:Int) ≤ s) ∧ (s < (x.2.length:Int))) ∧
 (((Int.toNat s) < (List.length x.2)) ∧
 ((Int.toNat s) < (List.length x.2))))))))
def sameI_l0_t (x : ((List Int) × (List Int))) (s:Int) : Tr (Int ⊕ (Unit ⊕ Unit)) true :=
 (.i10 (s < (nL x.1))
 (.oI2 s x.1
 (.oI2 s x.2
 (.b00 ((gI x.1 s) != (gI x.2 s))
 (.ret (.inr (Sum.inl ())))
 (.ret (.inl (w1 s))))))
 (.ret (.inr (Sum.inr (())))))
def sameI (x : ((List Int) × (List Int))) : Bool :=
 (if (((x.1.length:Int) != (x.2.length:Int)) = true) then
 false else
 (letV (run (sameI_l0_step x) (0:Int)) fun r =>
 (Sum.elim (fun a =>
 false) (fun b =>
 true) r)))
def sameI_pre (x : ((List Int) × (List Int))) : Prop :=
 (¬ (((x.1.length:Int) != (x.2.length:Int)) = true) →
 (Term (sameI_l0_step x) (sameI_l0_pre x) (0:Int)))
def sameI_t (x : ((List Int) × (List Int))) : Tr Bool true :=
 (.b01 ((nL x.1) != (nL x.2))
 (.ret false)
 (LoopD.lp (sameI_l0 x) (sameI_l0_t x) z0 fun r =>
 (.s00 r (fun a =>
 (.ret false)) (fun b =>
 (.ret true)))))
abbrev sameI_S : FnS := ⟨(.pair (.one (Ty.sl yi)) (.one (Ty.sl yi))),(.one Ty.bool),sameI_pre,sameI⟩
theorem sameI_ok : SpecOk Try.prog 21 (fnSpec sameI_S) := SpecOk.tr sameI_S sameI_t (fn := Try.f21) tt_ok sp_depthT_ok mixed (by kernel_rfl) (ItsOk.nil _ _) (fun x => (LpsOk.tr tt_ok (SpecsOk.ctxI sp_depthT_ok (ItsOk.nil _ _)) mixed 0 (sameI_l0 x) (sameI_l0_t x) LpsOk.nil (by kernel_rfl) fun g s Q => (by kernel_rfl))) (fun x => (by kernel_rfl)) fun x Q => (by kernel_rfl)
def sp_sameI : List (Nat × Ev.Spec) := (21,fnSpec sameI_S) :: sp_depthT
theorem sp_sameI_ok : SpecsOk Try.prog sp_sameI := SpecsOk.add (fn := Try.f21) (by kernel_rfl) sameI_ok sp_depthT_ok
def alongM (x:Int) : I9 :=
 ((x,((0:Int),(0:Int))),(((w64 (x + (5:Int))),((0:Int),(0:Int))),(x,((1:Int),(0:Int)))))
def alongM_pre (_:Int) : Prop := True
def alongM_t (x:Int) : Tr I9 false :=
 (.ret ((x,zz2),(((w64 (x + (5:Int))),zz2),(x,(z1,z0)))))
abbrev alongM_S : FnS := ⟨(.one yi),(.agg yy9),alongM_pre,alongM⟩
theorem alongM_ok : SpecOk Try.prog 20 (fnSpec alongM_S) := SpecOk.tr alongM_S alongM_t (fn := Try.f20) tt_ok sp_sameI_ok mixed (by kernel_rfl) (ItsOk.nil _ _) (fun x => LpsOk.nil) (fun x => (by kernel_rfl)) fun x Q => (by kernel_rfl)
def sp_alongM : List (Nat × Ev.Spec) := (20,fnSpec alongM_S) :: sp_sameI
theorem sp_alongM_ok : SpecsOk Try.prog sp_alongM := SpecsOk.add (fn := Try.f20) (by kernel_rfl) alongM_ok sp_sameI_ok
def grownM (x : Bool) : Bool :=
 (letV (alongM (0:Int)) fun y =>
 (letV (alongM (10:Int)) fun y_1 =>
 (letV (alongM (20:Int)) fun y_2 =>
 (letV (buildT [y,y_1,y_2]) fun y_3 =>
 (letV (splitN ([y,y_1,y_2],[(2:Int),(0:Int),(1:Int)])) fun y_4 =>
 (letV (splitN ([y,y_1,y_2],[(2:Int),(3:Int)])) fun y_5 =>
 (if ((y_3.2 == (0:Int)) = true) then
 (if (((y_3.1.length:Int) == (3:Int)) = true) then
 (if (((List.getD y_3.1 0 ((((0:Int),((0:Int),(0:Int))),((0:Int),((0:Int),(0:Int)))),((0:Int),((0:Int),[])))).2.1 == (1:Int)) = true) then
 (if (((List.getD y_3.1 0 ((((0:Int),((0:Int),(0:Int))),((0:Int),((0:Int),(0:Int)))),((0:Int),((0:Int),[])))).2.2.1 == (2:Int)) = true) then
 (letV (sameI ((List.getD y_3.1 1 ((((0:Int),((0:Int),(0:Int))),((0:Int),((0:Int),(0:Int)))),((0:Int),((0:Int),[])))).2.2.2,[(0:Int)])) fun y_6 =>
 (if (y_6 = true) then
 (letV (sameI ((List.getD y_3.1 2 ((((0:Int),((0:Int),(0:Int))),((0:Int),((0:Int),(0:Int)))),((0:Int),((0:Int),[])))).2.2.2,[(1:Int),(2:Int)])) fun y_7 =>
 (if (y_7 = true) then
 (if ((y_4.2.2 == y_3.2) = true) then
 (letV (sameI (y_4.1,[(0:Int)])) fun y_8 =>
 (if (y_8 = true) then
 (letV (sameI (y_4.2.1,[(1:Int),(2:Int)])) fun y_9 =>
 (if (y_9 = true) then
 (if ((y_5.2.2 == (1:Int)) = true) then
 (letV (isT (y_3.1,[y,y_1,y_2])) fun y_10 =>
 (if (y_10 = true) then
 (letV (isT ([],[])) fun y_11 =>
 (if ((!y_11) = true) then
 (letV (depthT y_3.1) fun y_12 =>
 (y_12 == (2:Int))) else
 false)) else
 false)) else
 false) else
 false)) else
 false)) else
 false) else
 false)) else
 false)) else
 false) else
 false) else
 false) else
 false)))))))
def grownM_pre (x : Bool) : Prop :=
 (letP (alongM (0:Int)) fun y =>
 (letP (alongM (10:Int)) fun y_1 =>
 (letP (alongM (20:Int)) fun y_2 =>
 ((buildT_pre [y,y_1,y_2]) ∧
 letP (buildT [y,y_1,y_2]) fun y_3 =>
 ((splitN_pre ([y,y_1,y_2],[(2:Int),(0:Int),(1:Int)])) ∧
 letP (splitN ([y,y_1,y_2],[(2:Int),(0:Int),(1:Int)])) fun y_4 =>
 ((splitN_pre ([y,y_1,y_2],[(2:Int),(3:Int)])) ∧
 letP (splitN ([y,y_1,y_2],[(2:Int),(3:Int)])) fun y_5 =>
 (((y_3.2 == (0:Int)) = true) →
 ((((y_3.1.length:Int) == (3:Int)) = true) →
 (((0:Int) < (y_3.1.length:Int)) ∧
 ((0 < (List.length y_3.1)) ∧
 ((0 < (List.length y_3.1)) ∧
 ((0 < (List.length y_3.1)) ∧
 ((((List.getD y_3.1 0 ((((0:Int),((0:Int),(0:Int))),((0:Int),((0:Int),(0:Int)))),((0:Int),((0:Int),[])))).2.1 == (1:Int)) = true) →
 (((0:Int) < (y_3.1.length:Int)) ∧
 ((0 < (List.length y_3.1)) ∧
 ((0 < (List.length y_3.1)) ∧
 ((0 < (List.length y_3.1)) ∧
 ((((List.getD y_3.1 0 ((((0:Int),((0:Int),(0:Int))),((0:Int),((0:Int),(0:Int)))),((0:Int),((0:Int),[])))).2.2.1 == (2:Int)) = true) →
 (((1:Int) < (y_3.1.length:Int)) ∧
 ((1 < (List.length y_3.1)) ∧
 ((1 < (List.length y_3.1)) ∧
 ((1 < (List.length y_3.1)) ∧
 ((sameI_pre ((List.getD y_3.1 1 ((((0:Int),((0:Int),(0:Int))),((0:Int),((0:Int),(0:Int)))),((0:Int),((0:Int),[])))).2.2.2,[(0:Int)])) ∧
 letP (sameI ((List.getD y_3.1 1 ((((0:Int),((0:Int),(0:Int))),((0:Int),((0:Int),(0:Int)))),((0:Int),((0:Int),[])))).2.2.2,[(0:Int)])) fun y_6 =>
 ((y_6 = true) →
 (((2:Int) < (y_3.1.length:Int)) ∧
 ((2 < (List.length y_3.1)) ∧
 ((2 < (List.length y_3.1)) ∧
 ((2 < (List.length y_3.1)) ∧
 ((sameI_pre ((List.getD y_3.1 2 ((((0:Int),((0:Int),(0:Int))),((0:Int),((0:Int),(0:Int)))),((0:Int),((0:Int),[])))).2.2.2,[(1:Int),(2:Int)])) ∧
 letP (sameI ((List.getD y_3.1 2 ((((0:Int),((0:Int),(0:Int))),((0:Int),((0:Int),(0:Int)))),((0:Int),((0:Int),[])))).2.2.2,[(1:Int),(2:Int)])) fun y_7 =>
 ((y_7 = true) →
 (((y_4.2.2 == y_3.2) = true) →
 ((sameI_pre (y_4.1,[(0:Int)])) ∧
 letP (sameI (y_4.1,[(0:Int)])) fun y_8 =>
 ((y_8 = true) →
 ((sameI_pre (y_4.2.1,[(1:Int),(2:Int)])) ∧
 letP (sameI (y_4.2.1,[(1:Int),(2:Int)])) fun y_9 =>
 ((y_9 = true) →
 (((y_5.2.2 == (1:Int)) = true) →
 ((isT_pre (y_3.1,[y,y_1,y_2])) ∧
 letP (isT (y_3.1,[y,y_1,y_2])) fun y_10 =>
 ((y_10 = true) →
 ((isT_pre ([],[])) ∧
 letP (isT ([],[])) fun y_11 =>
 (((!y_11) = true) →
 (depthT_pre y_3.1)))))))))))))))))))))))))))))))))))))))))
def grownM_t (x : Bool) : Tr Bool true :=
 (.fn0 alongM_S z0 trivial fun y =>
 (.fn0 alongM_S (10:Int) trivial fun y_1 =>
 (.fn0 alongM_S (20:Int) trivial fun y_2 =>
 (.fn buildT_S [y,y_1,y_2] fun y_3 =>
 (.fn splitN_S ([y,y_1,y_2],[(2:Int),z0,z1]) fun y_4 =>
 (.fn splitN_S ([y,y_1,y_2],[(2:Int),(3:Int)]) fun y_5 =>
 (.b10 (y_3.2 == z0)
 (.b10 ((nL y_3.1) == (3:Int))
 (.og (true && (decide (z0 < (nL y_3.1)))) (z0 < (nL y_3.1)) (fun h => (and_t rfl (decide_eq_true h)))
 (.od (0 < (List.length y_3.1))
 (.od (0 < (List.length y_3.1))
 (.od (0 < (List.length y_3.1))
 (.b10 ((List.getD y_3.1 0 ((zz3,zz3),(z0,(z0,[])))).2.1 == z1)
 (.og (true && (decide (z0 < (nL y_3.1)))) (z0 < (nL y_3.1)) (fun h => (and_t rfl (decide_eq_true h)))
 (.od (0 < (List.length y_3.1))
 (.od (0 < (List.length y_3.1))
 (.od (0 < (List.length y_3.1))
 (.b10 ((List.getD y_3.1 0 ((zz3,zz3),(z0,(z0,[])))).2.2.1 == (2:Int))
 (.og (true && (decide (z1 < (nL y_3.1)))) (z1 < (nL y_3.1)) (fun h => (and_t rfl (decide_eq_true h)))
 (.od (1 < (List.length y_3.1))
 (.od (1 < (List.length y_3.1))
 (.od (1 < (List.length y_3.1))
 (.fn sameI_S ((List.getD y_3.1 1 ((zz3,zz3),(z0,(z0,[])))).2.2.2,[z0]) fun y_6 =>
 (.b10 y_6
 (.og (true && (decide ((2:Int) < (nL y_3.1)))) ((2:Int) < (nL y_3.1)) (fun h => (and_t rfl (decide_eq_true h)))
 (.od (2 < (List.length y_3.1))
 (.od (2 < (List.length y_3.1))
 (.od (2 < (List.length y_3.1))
 (.fn sameI_S ((List.getD y_3.1 2 ((zz3,zz3),(z0,(z0,[])))).2.2.2,[z1,(2:Int)]) fun y_7 =>
 (.b10 y_7
 (.b10 (y_4.2.2 == y_3.2)
 (.fn sameI_S (y_4.1,[z0]) fun y_8 =>
 (.b10 y_8
 (.fn sameI_S (y_4.2.1,[z1,(2:Int)]) fun y_9 =>
 (.b10 y_9
 (.b10 (y_5.2.2 == z1)
 (.fn isT_S (y_3.1,[y,y_1,y_2]) fun y_10 =>
 (.b10 y_10
 (.fn isT_S ([],[]) fun y_11 =>
 (.b10 (!y_11)
 (.fn depthT_S y_3.1 fun y_12 =>
 (.ret (y_12 == (2:Int))))
 (.ret false)))
 (.ret false)))
 (.ret false))
 (.ret false)))
 (.ret false)))
 (.ret false))
 (.ret false)))))))
 (.ret false)))))))
 (.ret false))))))
 (.ret false))))))
 (.ret false))
 (.ret false))))))))
abbrev grownM_S : FnS := ⟨.none,(.one Ty.bool),grownM_pre,grownM⟩
theorem grownM_ok : SpecOk Try.prog 8 (fnSpec grownM_S) := SpecOk.tr grownM_S grownM_t (fn := Try.f8) tt_ok sp_alongM_ok mixed (by kernel_rfl) (ItsOk.nil _ _) (fun x => LpsOk.nil) (fun x => (by kernel_rfl)) fun x Q => (by kernel_rfl)
def sp_grownM : List (Nat × Ev.Spec) := (8,fnSpec grownM_S) :: sp_alongM
theorem sp_grownM_ok : SpecsOk Try.prog sp_grownM := SpecsOk.add (fn := Try.f8) (by kernel_rfl) grownM_ok sp_alongM_ok
end Go.Proofs.Ytaipcbdilkcdbaa
