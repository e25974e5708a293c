/- Building a tree: the function that calls itself. -/
import Derived.Test.YtaipcbdilkcdbaaTq
import Derived.Test.YtaipcbdilkcdbaaEvU
import Derived.Test.YtaipcbdilkcdbaaVb
noncomputable section
set_option linter.unusedSectionVars false
set_option linter.unusedVariables false
set_option linter.unusedSimpArgs false
namespace Go.Proofs.Ytaipcbdilkcdbaa
open Go Go.Ev Go.Proofs
abbrev branchY : Ty := .prod (.prod (.prod (.int .i64) (.prod (.int .i64) (.int .i64))) (.prod (.int .i64) (.prod (.int .i64) (.int .i64)))) (.prod (.int .i64) (.prod (.int .i64) (.sl (.int .i64))))
abbrev triY : Ty := .prod (.prod (.int .i64) (.prod (.int .i64) (.int .i64))) (.prod (.prod (.int .i64) (.prod (.int .i64) (.int .i64))) (.prod (.int .i64) (.prod (.int .i64) (.int .i64))))
abbrev growD : OPar := ⟨branchY,triY,16,23,47,48⟩
abbrev Brn : Type := ((Int × (Int × Int)) × (Int × (Int × Int))) × (Int × (Int × (List Int)))
abbrev GArg : Type := List Int × (List ((Int × (Int × Int)) × ((Int × (Int × Int)) × (Int × (Int × Int)))) × List Brn)
class GrowSelf where
 pre : GArg → Prop
 f : GArg → List Brn
 ok : SpecOk Try.prog 16 (fnSpecO ⟨growD,pre,f⟩)
section
variable [GrowSelf]
def growR (x : GArg) : List Brn := GrowSelf.f x
def growR_pre (x : GArg) : Prop := GrowSelf.pre x
abbrev growR_S : FnO := ⟨growD,growR_pre,growR⟩
theorem growR_ok : SpecOk Try.prog 16 (fnSpecO growR_S) := GrowSelf.ok
def sp_growR : List (Nat × Ev.Spec) := (16,fnSpecO growR_S) :: sp_splitM
theorem sp_growR_ok : SpecsOk Try.prog sp_growR := SpecsOk.add (fn := Try.f16) (by kernel_rfl) growR_ok sp_splitM_ok
def growM (x : ((List Int) × ((List I9) × (List ((I3 × I3) × (Int × (Int × (List Int)))))))) : (List ((I3 × I3) × (Int × (Int × (List Int))))) :=
 (letV (boxF (x.2.1,x.1)) fun y =>
 (if ((x.1.length:Int) ≤ (2:Int)) then
 (letV (cloneI x.1) fun y_1 =>
 (letV (List.set (x.2.2 ++ [(y,((0:Int),((0:Int),[])))]) (List.length x.2.2) ((List.getD (x.2.2 ++ [(y,((0:Int),((0:Int),[])))]) (List.length x.2.2) ((((0:Int),((0:Int),(0:Int))),((0:Int),((0:Int),(0:Int)))),((0:Int),((0:Int),[])))).1,((List.getD (x.2.2 ++ [(y,((0:Int),((0:Int),[])))]) (List.length x.2.2) ((((0:Int),((0:Int),(0:Int))),((0:Int),((0:Int),(0:Int)))),((0:Int),((0:Int),[])))).2.1,((List.getD (x.2.2 ++ [(y,((0:Int),((0:Int),[])))]) (List.length x.2.2) ((((0:Int),((0:Int),(0:Int))),((0:Int),((0:Int),(0:Int)))),((0:Int),((0:Int),[])))).2.2.1,y_1)))) fun y_2 =>
 y_2)) else
 (letV (splitF (x.2.1,x.1)) fun y_1 =>
 (letV (growR (y_1.1,(x.2.1,(x.2.2 ++ [(y,((0:Int),((0:Int),[])))])))) fun y_2 =>
 (letV (growR (y_1.2,(x.2.1,y_2))) fun y_3 =>
 (letV (List.set y_3 (List.length x.2.2) ((List.getD y_3 (List.length x.2.2) ((((0:Int),((0:Int),(0:Int))),((0:Int),((0:Int),(0:Int)))),((0:Int),((0:Int),[])))).1,((w64 ((x.2.2.length:Int) + (1:Int))),(List.getD y_3 (List.length x.2.2) ((((0:Int),((0:Int),(0:Int))),((0:Int),((0:Int),(0:Int)))),((0:Int),((0:Int),[])))).2.2))) fun y_4 =>
 (letV (List.set y_4 (List.length x.2.2) ((List.getD y_4 (List.length x.2.2) ((((0:Int),((0:Int),(0:Int))),((0:Int),((0:Int),(0:Int)))),((0:Int),((0:Int),[])))).1,((List.getD y_4 (List.length x.2.2) ((((0:Int),((0:Int),(0:Int))),((0:Int),((0:Int),(0:Int)))),((0:Int),((0:Int),[])))).2.1,((y_2.length:Int),(List.getD y_4 (List.length x.2.2) ((((0:Int),((0:Int),(0:Int))),((0:Int),((0:Int),(0:Int)))),((0:Int),((0:Int),[])))).2.2.2)))) fun y_5 =>
 y_5)))))))
def growM_pre (x : ((List Int) × ((List I9) × (List ((I3 × I3) × (Int × (Int × (List Int)))))))) : Prop :=
 ((boxF_pre (x.2.1,x.1)) ∧
 letP (boxF (x.2.1,x.1)) fun y =>
 ((((List.length x.2.2) + 1) < 1099511627776) ∧
 ((((x.1.length:Int) ≤ (2:Int)) →
 ((cloneI_pre x.1) ∧
 letP (cloneI x.1) fun y_1 =>
 (((x.2.2.length:Int) < ((x.2.2 ++ [(y,((0:Int),((0:Int),[])))]).length:Int)) ∧
 (((List.length x.2.2) < (List.length (x.2.2 ++ [(y,((0:Int),((0:Int),[])))]))) ∧
 (((List.length x.2.2) < (List.length (x.2.2 ++ [(y,((0:Int),((0:Int),[])))]))) ∧
 ((List.length x.2.2) < (List.length (x.2.2 ++ [(y,((0:Int),((0:Int),[])))])))))))) ∧
 (¬ ((x.1.length:Int) ≤ (2:Int)) →
 ((splitF_pre (x.2.1,x.1)) ∧
 letP (splitF (x.2.1,x.1)) fun y_1 =>
 ((growR_pre (y_1.1,(x.2.1,(x.2.2 ++ [(y,((0:Int),((0:Int),[])))])))) ∧
 letP (growR (y_1.1,(x.2.1,(x.2.2 ++ [(y,((0:Int),((0:Int),[])))])))) fun y_2 =>
 ((growR_pre (y_1.2,(x.2.1,y_2))) ∧
 letP (growR (y_1.2,(x.2.1,y_2))) fun y_3 =>
 (((x.2.2.length:Int) < (y_3.length:Int)) ∧
 (((List.length x.2.2) < (List.length y_3)) ∧
 (((List.length x.2.2) < (List.length y_3)) ∧
 (((List.length x.2.2) < (List.length y_3)) ∧
 (letP (List.set y_3 (List.length x.2.2) ((List.getD y_3 (List.length x.2.2) ((((0:Int),((0:Int),(0:Int))),((0:Int),((0:Int),(0:Int)))),((0:Int),((0:Int),[])))).1,((w64 ((x.2.2.length:Int) + (1:Int))),(List.getD y_3 (List.length x.2.2) ((((0:Int),((0:Int),(0:Int))),((0:Int),((0:Int),(0:Int)))),((0:Int),((0:Int),[])))).2.2))) fun y_4 =>
 (((x.2.2.length:Int) < (y_4.length:Int)) ∧
 (((List.length x.2.2) < (List.length y_4)) ∧
 (((List.length x.2.2) < (List.length y_4)) ∧
 ((List.length x.2.2) < (List.length y_4)))))))))))))))))
def growM_t (x : ((List Int) × ((List I9) × (List ((I3 × I3) × (Int × (Int × (List Int)))))))) : Tr (List ((I3 × I3) × (Int × (Int × (List Int))))) true :=
 (.fn boxF_S (x.2.1,x.1) fun y =>
 (.od (((List.length x.2.2) + 1) < 1099511627776)
 (.i11 ((nL x.1) ≤ (2:Int))
 (.fn cloneI_S x.1 fun y_1 =>
 (.og ((decide (z0 ≤ (nL x.2.2))) && (decide ((nL x.2.2) < (nL (x.2.2 ++ [(y,(z0,(z0,[])))]))))) ((nL x.2.2) < (nL (x.2.2 ++ [(y,(z0,(z0,[])))]))) (fun h => (and_t rfl (decide_eq_true h)))
 (.od ((List.length x.2.2) < (List.length (x.2.2 ++ [(y,(z0,(z0,[])))])))
 (.od ((List.length x.2.2) < (List.length (x.2.2 ++ [(y,(z0,(z0,[])))])))
 (.od ((List.length x.2.2) < (List.length (x.2.2 ++ [(y,(z0,(z0,[])))])))
 (.lt (List.set (x.2.2 ++ [(y,(z0,(z0,[])))]) (List.length x.2.2) ((List.getD (x.2.2 ++ [(y,(z0,(z0,[])))]) (List.length x.2.2) ((zz3,zz3),(z0,(z0,[])))).1,((List.getD (x.2.2 ++ [(y,(z0,(z0,[])))]) (List.length x.2.2) ((zz3,zz3),(z0,(z0,[])))).2.1,((List.getD (x.2.2 ++ [(y,(z0,(z0,[])))]) (List.length x.2.2) ((zz3,zz3),(z0,(z0,[])))).2.2.1,y_1)))) fun y_2 =>
 (.pn 0 6
 (.ret y_2))))))))
 (.fn splitF_S (x.2.1,x.1) fun y_1 =>
 (.fnO growR_S (y_1.1,(x.2.1,(x.2.2 ++ [(y,(z0,(z0,[])))]))) fun y_2 =>
 (.fnO growR_S (y_1.2,(x.2.1,y_2)) fun y_3 =>
 (.og ((decide (z0 ≤ (nL x.2.2))) && (decide ((nL x.2.2) < (nL y_3)))) ((nL x.2.2) < (nL y_3)) (fun h => (and_t rfl (decide_eq_true h)))
 (.od ((List.length x.2.2) < (List.length y_3))
 (.od ((List.length x.2.2) < (List.length y_3))
 (.od ((List.length x.2.2) < (List.length y_3))
 (.lt (List.set y_3 (List.length x.2.2) ((List.getD y_3 (List.length x.2.2) ((zz3,zz3),(z0,(z0,[])))).1,((w1 (nL x.2.2)),(List.getD y_3 (List.length x.2.2) ((zz3,zz3),(z0,(z0,[])))).2.2))) fun y_4 =>
 (.og ((decide (z0 ≤ (nL x.2.2))) && (decide ((nL x.2.2) < (nL y_4)))) ((nL x.2.2) < (nL y_4)) (fun h => (and_t rfl (decide_eq_true h)))
 (.od ((List.length x.2.2) < (List.length y_4))
 (.od ((List.length x.2.2) < (List.length y_4))
 (.od ((List.length x.2.2) < (List.length y_4))
 (.lt (List.set y_4 (List.length x.2.2) ((List.getD y_4 (List.length x.2.2) ((zz3,zz3),(z0,(z0,[])))).1,((List.getD y_4 (List.length x.2.2) ((zz3,zz3),(z0,(z0,[])))).2.1,((nL y_2),(List.getD y_4 (List.length x.2.2) ((zz3,zz3),(z0,(z0,[])))).2.2.2)))) fun y_5 =>
 (.pn 0 6
 (.ret y_5))))))))))))))))))
abbrev growM_S : FnO := ⟨growD,growM_pre,growM⟩
theorem growM_ok : SpecOk Try.prog 16 (fnSpecO growM_S) := SpecOk.trO growM_S growM_t (fn := Try.f16) tt_ok sp_growR_ok mixed (by kernel_rfl) (ItsOk.nil _ _) (fun x => LpsOk.nil) (fun x => (by kernel_rfl)) fun x r0 Q => (by kernel_rfl)
end
end Go.Proofs.Ytaipcbdilkcdbaa

namespace Go.Proofs.Ytaipcbdilkcdbaa
open Go Go.Ev Go.Proofs
abbrev zB : Brn := ((z3,z3),(0,(0,[])))
inductive TreeOf (L : List T3) : Nat → Int → List Int → List Brn → List (List Int) → List Int → Prop
 | leaf (s:Nat) (par:Int) (pl : List Int) : pl.length ≤ 2 → TreeOf L s par pl [(boxF (L,pl),(0,(0,pl)))] [pl] [par]
 | fork (s:Nat) (par:Int) (pl a b : List Int) (A B : List Brn) (NA NB : List (List Int)) (UA UB : List Int) : 2 < pl.length → (a ++ b).Perm pl → a.length = pl.length / 2 → b.length = pl.length - pl.length / 2 → a ++ b = srtd L pl →
   TreeOf L (s + 1) s a A NA UA → TreeOf L (s + 1 + A.length) s b B NB UB →
   TreeOf L s par pl ((boxF (L,pl),(((s + 1:Nat):Int),(((s + 1 + A.length:Nat):Int),[]))) :: (A ++ B)) (pl :: (NA ++ NB)) (par :: (UA ++ UB))
theorem gdA {α : Type} {x : α} {A B : List α} {k : Nat} (h : k < A.length) (d : α) : (x :: (A ++ B)).getD (1 + k) d = A.getD k d := by
 rw [Nat.add_comm,List.getD_eq_getElem?_getD,List.getElem?_cons_succ,List.getElem?_append_left h,List.getD_eq_getElem?_getD]
theorem gdB {α : Type} {x : α} {A B : List α} (k n:Nat) (hn : A.length = n) (d : α) : (x :: (A ++ B)).getD (1 + n + k) d = B.getD k d := by
 subst hn
 rw [show 1 + A.length + k = (A.length + k) + 1 by omega,List.getD_eq_getElem?_getD,List.getElem?_cons_succ,List.getElem?_append_right (by omega),Nat.add_sub_cancel_left,List.getD_eq_getElem?_getD]
def leafy (b : Brn) : Bool := b.2.1 == 0
structure Facts (L : List T3) (s:Nat) (par:Int) (pl : List Int) (G : List Brn) (N : List (List Int)) (U : List Int) : Prop where
 n1 : N.length = G.length
 u1 : U.length = G.length
 pos : 0 < G.length
 n0 : N.getD 0 [] = pl
 u0 : U.getD 0 0 = par
 box : ∀ k,k < G.length → (G.getD k zB).1 = boxF (L,N.getD k [])
 sub : ∀ k,k < G.length → ∀ i ∈ N.getD k [],i ∈ pl
 ne : pl ≠ [] → ∀ k,k < G.length → N.getD k [] ≠ []
 up : ∀ k,0 < k → k < G.length → ∃ j,j < k ∧ U.getD k 0 = ((s + j:Nat):Int) ∧ (∀ i ∈ N.getD k [],i ∈ N.getD j []) ∧ ((G.getD j zB).2.1 = ((s + k:Nat):Int) ∨ (G.getD j zB).2.2.1 = ((s + k:Nat):Int))
 kind : ∀ k,k < G.length → ((G.getD k zB).2.1 = 0 ∧ (G.getD k zB).2.2.1 = 0 ∧ (G.getD k zB).2.2.2 = N.getD k [] ∧ (N.getD k []).length ≤ 2) ∨
  (∃ r,(G.getD k zB).2.1 = ((s + (k + 1):Nat):Int) ∧ (G.getD k zB).2.2.1 = ((s + r:Nat):Int) ∧ k + 1 < r ∧ r < G.length ∧ (G.getD k zB).2.2.2 = [] ∧ U.getD (k + 1) 0 = ((s + k:Nat):Int) ∧ U.getD r 0 = ((s + k:Nat):Int) ∧ (N.getD (k + 1) [] ++ N.getD r []).Perm (N.getD k []) ∧ 2 < (N.getD k []).length ∧ (N.getD (k + 1) []).length ≤ ((N.getD k []).length + 1) / 2 ∧ (N.getD r []).length ≤ ((N.getD k []).length + 1) / 2)
 tris : (G.flatMap fun b => b.2.2.2).Perm pl
 many : G.countP leafy = G.countP (fun b => !leafy b) + 1
theorem TreeOf.facts {L : List T3} {s : Nat} {par : Int} {pl : List Int} {G : List Brn} {N : List (List Int)} {U : List Int} (h : TreeOf L s par pl G N U) : Facts L s par pl G N U := by
 induction h with
 | leaf s par pl hl =>
  have h0 : ∀ k,k < 1 → k = 0 := fun k hk => by omega
  refine ⟨rfl,rfl,Nat.one_pos,rfl,rfl,fun k hk => ?_,fun k hk i hi => ?_,fun hp k hk => ?_,fun k h1 h2 => ?_,fun k hk => ?_,by simp,rfl⟩
  ·rw [h0 k hk]; rfl
  ·rw [h0 k hk] at hi; exact hi
  ·rw [h0 k hk]; exact hp
  ·have := h0 k h2; omega
  ·rw [h0 k hk]; exact .inl ⟨rfl,rfl,rfl,hl⟩
 | fork s par pl a b A B NA NB UA UB h2 hp ha hb he hA hB ihA ihB =>
  have hlen : ((boxF (L,pl),(((s + 1:Nat):Int),(((s + 1 + A.length:Nat):Int),[]))) :: (A ++ B)).length = 1 + A.length + B.length := by simp; omega
  have hpa := ihA.pos
  have hpb := ihB.pos
  have hna := ihA.n1
  have hnb := ihB.n1
  have hua := ihA.u1
  have hub := ihB.u1
  have gA : ∀ k,k < A.length → ((boxF (L,pl),(((s + 1:Nat):Int),(((s + 1 + A.length:Nat):Int),[]))) :: (A ++ B)).getD (1 + k) zB = A.getD k zB := fun k hk => gdA hk zB
  have gB : ∀ k,((boxF (L,pl),(((s + 1:Nat):Int),(((s + 1 + A.length:Nat):Int),[]))) :: (A ++ B)).getD (1 + A.length + k) zB = B.getD k zB := fun k => gdB k _ rfl zB
  have nA : ∀ k,k < A.length → (pl :: (NA ++ NB)).getD (1 + k) [] = NA.getD k [] := fun k hk => gdA (by omega) []
  have nB : ∀ k,(pl :: (NA ++ NB)).getD (1 + A.length + k) [] = NB.getD k [] := fun k => gdB k _ hna []
  have uA : ∀ k,k < A.length → (par :: (UA ++ UB)).getD (1 + k) 0 = UA.getD k 0 := fun k hk => gdA (by omega) 0
  have uB : ∀ k,(par :: (UA ++ UB)).getD (1 + A.length + k) 0 = UB.getD k 0 := fun k => gdB k _ hua 0
  have g0 : ((boxF (L,pl),(((s + 1:Nat):Int),(((s + 1 + A.length:Nat):Int),[]))) :: (A ++ B)).getD 0 zB = (boxF (L,pl),(((s + 1:Nat):Int),(((s + 1 + A.length:Nat):Int),[]))) := rfl
  have n0 : (pl :: (NA ++ NB)).getD 0 [] = pl := rfl
  generalize hG : ((boxF (L,pl),(((s + 1:Nat):Int),(((s + 1 + A.length:Nat):Int),[]))) :: (A ++ B)) = G at *
  generalize hN : (pl :: (NA ++ NB)) = N at *
  generalize hU : (par :: (UA ++ UB)) = U at *
  have hcase : ∀ k,k < G.length → k = 0 ∨ (∃ q,k = 1 + q ∧ q < A.length) ∨ ∃ q,k = 1 + A.length + q ∧ q < B.length := fun k hk => by
   rcases Nat.eq_zero_or_pos k with e | e
   ·exact .inl e
   ·rcases Nat.lt_or_ge (k - 1) A.length with e2 | e2
    ·exact .inr (.inl ⟨k - 1,by omega,e2⟩)
    ·exact .inr (.inr ⟨k - 1 - A.length,by omega,by omega⟩)
  have hia : ∀ i ∈ a,i ∈ pl := fun i hi => hp.mem_iff.1 (List.mem_append.2 (.inl hi))
  have hib : ∀ i ∈ b,i ∈ pl := fun i hi => hp.mem_iff.1 (List.mem_append.2 (.inr hi))
  refine ⟨by rw [← hN,← hG]; simp [hna,hnb],by rw [← hU,← hG]; simp [hua,hub],by omega,n0,by rw [← hU]; rfl,fun k hk => ?_,fun k hk i hi => ?_,fun hne k hk => ?_,fun k h1 hk => ?_,fun k hk => ?_,?_,?_⟩
  ·rcases hcase k hk with rfl | ⟨q,rfl,hq⟩ | ⟨q,rfl,hq⟩
   ·rw [g0,n0]
   ·rw [gA q hq,nA q hq]; exact ihA.box q hq
   ·rw [gB,nB]; exact ihB.box q hq
  ·rcases hcase k hk with rfl | ⟨q,rfl,hq⟩ | ⟨q,rfl,hq⟩
   ·rw [n0] at hi; exact hi
   ·rw [nA q hq] at hi; exact hia i (ihA.sub q hq i hi)
   ·rw [nB] at hi; exact hib i (ihB.sub q hq i hi)
  ·rcases hcase k hk with rfl | ⟨q,rfl,hq⟩ | ⟨q,rfl,hq⟩
   ·rw [n0]; exact hne
   ·rw [nA q hq]
    exact ihA.ne (fun e => by rw [e] at ha; simp at ha; omega) q hq
   ·rw [nB]
    exact ihB.ne (fun e => by rw [e] at hb; simp at hb; omega) q hq
  ·rcases hcase k hk with rfl | ⟨q,rfl,hq⟩ | ⟨q,rfl,hq⟩
   ·omega
   ·rcases Nat.eq_zero_or_pos q with rfl | hq0
    ·refine ⟨0,by omega,?_,fun i hi => ?_,.inl ?_⟩
     ·rw [uA 0 hq,ihA.u0]; rfl
     ·rw [nA 0 hq,ihA.n0] at hi; rw [n0]; exact hia i hi
     ·rw [g0]
    ·obtain ⟨j,j1,j2,j3,j4⟩ := ihA.up q hq0 hq
     refine ⟨1 + j,by omega,?_,fun i hi => ?_,?_⟩
     ·rw [uA q hq,j2]; omega
     ·rw [nA q hq] at hi; rw [nA j (by omega)]; exact j3 i hi
     ·rw [gA j (by omega)]
      exact j4.imp (fun e => by rw [e]; omega) fun e => by rw [e]; omega
   ·rcases Nat.eq_zero_or_pos q with rfl | hq0
    ·refine ⟨0,by omega,?_,fun i hi => ?_,.inr ?_⟩
     ·rw [uB,ihB.u0]; rfl
     ·rw [nB,ihB.n0] at hi; rw [n0]; exact hib i hi
     ·rw [g0]; dsimp only; omega
    ·obtain ⟨j,j1,j2,j3,j4⟩ := ihB.up q hq0 hq
     refine ⟨1 + A.length + j,by omega,?_,fun i hi => ?_,?_⟩
     ·rw [uB,j2]; omega
     ·rw [nB] at hi; rw [nB]; exact j3 i hi
     ·rw [gB]
      exact j4.imp (fun e => by rw [e]; omega) fun e => by rw [e]; omega
  ·rcases hcase k hk with rfl | ⟨q,rfl,hq⟩ | ⟨q,rfl,hq⟩
   ·refine .inr ⟨1 + A.length,?_,?_,by omega,by omega,by rw [g0],?_,?_,?_⟩
    ·rw [g0]
    ·rw [g0]; dsimp only; omega
    ·have := uA 0 hpa
     rw [ihA.u0] at this
     exact this
    ·have := uB 0
     rw [ihB.u0,Nat.add_zero] at this
     exact this
    ·have e1 := nA 0 hpa
     have e2 := nB 0
     rw [ihA.n0,Nat.add_zero] at e1
     rw [ihB.n0,Nat.add_zero] at e2
     rw [show 0 + 1 = 1 from rfl,e1,e2,n0]; exact ⟨hp,h2,by omega,by omega⟩
   ·rcases ihA.kind q hq with ⟨k1,k2,k3,k4⟩ | ⟨r,k1,k2,k3,k4,k5,k6,k7,k8⟩
    ·refine .inl ?_
     rw [gA q hq,nA q hq]
     exact ⟨k1,k2,k3,k4⟩
    ·refine .inr ⟨1 + r,?_,?_,by omega,by omega,?_,?_,?_,?_⟩
     ·rw [gA q hq,k1]; omega
     ·rw [gA q hq,k2]; omega
     ·rw [gA q hq]; exact k5
     ·rw [show 1 + q + 1 = 1 + (q + 1) by omega,uA (q + 1) (by omega),k6]; omega
     ·rw [uA r k4,k7]; omega
     ·rw [show 1 + q + 1 = 1 + (q + 1) by omega,nA (q + 1) (by omega),nA r k4,nA q hq]; exact k8
   ·rcases ihB.kind q hq with ⟨k1,k2,k3,k4⟩ | ⟨r,k1,k2,k3,k4,k5,k6,k7,k8⟩
    ·refine .inl ?_
     rw [gB,nB]
     exact ⟨k1,k2,k3,k4⟩
    ·refine .inr ⟨1 + A.length + r,?_,?_,by omega,by omega,?_,?_,?_,?_⟩
     ·rw [gB,k1]; omega
     ·rw [gB,k2]; omega
     ·rw [gB]; exact k5
     ·rw [show 1 + A.length + q + 1 = 1 + A.length + (q + 1) by omega,uB,k6]; omega
     ·rw [uB,k7]; omega
     ·rw [show 1 + A.length + q + 1 = 1 + A.length + (q + 1) by omega,nB,nB,nB]; exact k8
  ·rw [← hG]
   simp only [List.flatMap_cons,List.flatMap_append,List.nil_append]
   exact (ihA.tris.append ihB.tris).trans hp
  ·rw [← hG]
   have m1 := ihA.many
   have m2 := ihB.many
   have hlf : leafy (boxF (L,pl),(((s + 1:Nat):Int),(((s + 1 + A.length:Nat):Int),([] : List Int)))) = false := by
    unfold leafy
    dsimp only
    simp
    omega
   rw [List.countP_cons_of_neg (by rw [hlf]; decide),List.countP_cons_of_pos (by rw [hlf]; rfl),List.countP_append,List.countP_append]
   omega
end Go.Proofs.Ytaipcbdilkcdbaa

namespace Go.Proofs.Ytaipcbdilkcdbaa
open Go Go.Ev Go.Proofs
theorem growNone_ok : SpecOk Try.prog 16 (fnSpecO ⟨growD,fun _ => False,fun x => []⟩) := by
 intro X args hp nm k hs
 unfold fnSpecO at hs
 split at hs
 ·split at hs
  ·split at hs
   ·split at hs
    ·obtain ⟨_,h,_⟩ := ob_spec hs
     exact h.elim
    ·exact hs.elim
   ·exact hs.elim
  ·exact hs.elim
 ·exact hs.elim
@[reducible] noncomputable def growF : Nat → GrowSelf
 | 0 => ⟨fun _ => False,fun x => [],growNone_ok⟩
 | n + 1 => ⟨@growM_pre (growF n),@growM (growF n),@growM_ok (growF n)⟩
def growT_pre (x : GArg) : Prop := @growR_pre (growF (x.1.length + 1)) x
def growT (x : GArg) : List Brn := @growR (growF (x.1.length + 1)) x
abbrev growT_S : FnO := ⟨growD,growT_pre,growT⟩
theorem growT_ok : SpecOk Try.prog 16 (fnSpecO growT_S) := by
 intro X args hp nm k hs
 unfold fnSpecO at hs
 split at hs
 rotate_left
 ·exact hs.elim
 rename_i a nT nF nG
 split at hs
 rotate_left
 ·exact hs.elim
 rename_i pl tc1 b1 cT eT cF eF cG eG hd1 hT1 hF1 hG1
 split at hs
 rotate_left
 ·exact hs.elim
 rename_i l rr L tc2 b2 hsl hd2
 have hsl' : slotE hp branchY cT = some (l,rr) := hsl
 have hd2' : decP hp (.one (.sl triY)) [.v (.one cF)] = some (L,[],tc2,b2) := hd2
 refine (growF (pl.length + 1)).ok X _ hp nm k ?_
 simp only [fnSpecO,hd1,hT1,hF1,hG1,hsl',hd2']
 exact hs
end Go.Proofs.Ytaipcbdilkcdbaa

namespace Go.Proofs.Ytaipcbdilkcdbaa
open Go Go.Ev Go.Proofs
theorem set_last {α : Type} (l : List α) (x y : α) : (l ++ [x]).set l.length y = l ++ [y] := by simp
theorem set_mid {α : Type} (l r : List α) (x y : α) : (l ++ (x :: r)).set l.length y = l ++ (y :: r) := by simp
theorem get_mid {α : Type} (l r : List α) (x d : α) : (l ++ (x :: r)).getD l.length d = x := by simp
theorem one_len (pl : List Int) (x : Brn) : [x].length + 1 ≤ 2 * pl.length ∨ (pl.length = 0 ∧ [x].length = 1) := by
 rcases Nat.eq_zero_or_pos pl.length with e | e
 ·exact .inr ⟨e,rfl⟩
 ·left; simp; omega
def Grown (L : List T3) (pl : List Int) (l r : List Brn) : Prop := ∃ G N U,r = l ++ G ∧ (G.length + 1 ≤ 2 * pl.length ∨ (pl.length = 0 ∧ G.length = 1)) ∧ ∀ par,∃ U',U'.tail = U ∧ TreeOf L l.length par pl G N U'
def GrowSpec (n:Nat) : Prop := ∀ L pl l,InL L pl → pl.length < n → pl.length ≤ 1000 → l.length + 3 * pl.length ≤ 100000 → @growR_pre (growF n) (pl,(L,l)) ∧ Grown L pl l (@growR (growF n) (pl,(L,l)))
theorem grow_step {n : Nat} (ih : GrowSpec n) : GrowSpec (n + 1) := by
 intro L pl l hi hn hl hb
 obtain ⟨b1,_⟩ := boxF_law hi (by omega)
 obtain ⟨s1,s2⟩ := splitF_law hi (by omega)
 show @growM_pre (growF n) (pl,(L,l)) ∧ Grown L pl l (@growM (growF n) (pl,(L,l)))
 unfold growM_pre growM letP letV
 dsimp only
 by_cases h2 : ((pl.length:Nat):Int) ≤ 2
 ·rw [if_pos h2]
  have hlen : (l ++ [(boxF (L,pl),((0:Int),((0:Int),([] : List Int))))]).length = l.length + 1 := by simp
  refine ⟨⟨b1,by omega,fun _ => ⟨cloneI_p pl (by omega),by rw [hlen]; omega,by rw [hlen]; omega,by rw [hlen]; omega,by rw [hlen]; omega⟩,fun q => absurd h2 q⟩,?_⟩
  refine ⟨[(boxF (L,pl),(0,(0,pl)))],[pl],[],?_,one_len pl _,fun par => ⟨[par],rfl,.leaf _ par pl (by omega)⟩⟩
  have hcl : ∀ x,cloneI x = x := fun _ => rfl
  rw [hcl,set_last,get_mid l [] _ _]
 ·rw [if_neg h2,s2]
  dsimp only
  have hpl : 2 < pl.length := by omega
  have hperm := srtd_perm L pl
  have hsl := hperm.length_eq
  have hta : ((srtd L pl).take (pl.length / 2)).length = pl.length / 2 := by rw [List.length_take]; omega
  have htb : ((srtd L pl).drop (pl.length / 2)).length = pl.length - pl.length / 2 := by rw [List.length_drop]; omega
  have hia : InL L ((srtd L pl).take (pl.length / 2)) := fun i h => hi i (hperm.mem_iff.1 (List.mem_of_mem_take h))
  have hib : InL L ((srtd L pl).drop (pl.length / 2)) := fun i h => hi i (hperm.mem_iff.1 (List.mem_of_mem_drop h))
  have hlen : (l ++ [(boxF (L,pl),((0:Int),((0:Int),([] : List Int))))]).length = l.length + 1 := by simp
  obtain ⟨p1,G1,N1,U1,e1,g1,t1⟩ := ih L _ (l ++ [(boxF (L,pl),((0:Int),((0:Int),([] : List Int))))]) hia (by omega) (by omega) (by rw [hlen]; omega)
  have hlen2 : (l ++ [(boxF (L,pl),((0:Int),((0:Int),([] : List Int))))] ++ G1).length = l.length + 1 + G1.length := by rw [List.length_append,hlen]
  obtain ⟨p2,G2,N2,U2,e2,g2,t2⟩ := ih L _ (l ++ [(boxF (L,pl),((0:Int),((0:Int),([] : List Int))))] ++ G1) hib (by omega) (by omega) (by rw [hlen2]; omega)
  have e3 : l ++ [(boxF (L,pl),((0:Int),((0:Int),([] : List Int))))] ++ G1 ++ G2 = l ++ ((boxF (L,pl),((0:Int),((0:Int),([] : List Int)))) :: (G1 ++ G2)) := by simp
  rw [e1,e2,e3,hlen2]
  have hw : w64 (((l.length:Nat):Int) + 1) = ((l.length + 1:Nat):Int) := by rw [w64_id (by omega) (by omega)]; omega
  have hlen3 : (l ++ ((boxF (L,pl),((0:Int),((0:Int),([] : List Int)))) :: (G1 ++ G2))).length = l.length + (1 + G1.length + G2.length) := by simp; omega
  have hlen4 : ∀ y : Brn,(l ++ (y :: (G1 ++ G2))).length = l.length + (1 + G1.length + G2.length) := fun y => by simp; omega
  rw [hw,get_mid,set_mid,get_mid,set_mid]
  dsimp only
  refine ⟨⟨b1,by omega,fun q => absurd q h2,fun _ => ⟨s1,p1,p2,by rw [hlen3]; omega,by rw [hlen3]; omega,by rw [hlen3]; omega,by rw [hlen3]; omega,by rw [hlen4]; omega,by rw [hlen4]; omega,by rw [hlen4]; omega,by rw [hlen4]; omega⟩⟩,?_⟩
  rw [hlen] at t1
  rw [hlen2] at t2
  obtain ⟨UA,_,tA⟩ := t1 ((l.length:Nat):Int)
  obtain ⟨UB,_,tB⟩ := t2 ((l.length:Nat):Int)
  refine ⟨(boxF (L,pl),(((l.length + 1:Nat):Int),(((l.length + 1 + G1.length:Nat):Int),[]))) :: (G1 ++ G2),pl :: (N1 ++ N2),UA ++ UB,rfl,?_,fun par => ⟨par :: (UA ++ UB),rfl,?_⟩⟩
  ·simp only [List.length_cons,List.length_append]
   omega
  ·exact .fork _ par pl _ _ G1 G2 N1 N2 UA UB hpl (by rw [List.take_append_drop]; exact hperm) hta htb (List.take_append_drop _ _) tA tB
theorem grow_all : ∀ n,GrowSpec n
 | 0 => fun L pl l _ hn => absurd hn (Nat.not_lt_zero _)
 | n + 1 => grow_step (grow_all n)
theorem growT_law {L : List T3} {pl : List Int} (l : List Brn) (hi : InL L pl) (hl : pl.length ≤ 1000) (hb : l.length ≤ 1000) : growT_pre (pl,(L,l)) ∧ ∃ G N U,growT (pl,(L,l)) = l ++ G ∧ (G.length + 1 ≤ 2 * pl.length ∨ (pl.length = 0 ∧ G.length = 1)) ∧ TreeOf L l.length (-1) pl G N U := by
 obtain ⟨h1,G,N,U,h2,h3,h4⟩ := grow_all (pl.length + 1) L pl l hi (by omega) hl (by omega)
 obtain ⟨U',_,h5⟩ := h4 (-1)
 exact ⟨h1,G,N,U',h2,h3,h5⟩
end Go.Proofs.Ytaipcbdilkcdbaa
