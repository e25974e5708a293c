/- What the library's sort, compact and delete do to a row of ints. -/
import Derived.Test.YtkbmjhabfjgoiaaGreatEvW
import Derived.Sort.Grow
import Derived.Lib.SlicesCompact
noncomputable section
set_option linter.unusedSectionVars false
set_option linter.unusedVariables false
set_option linter.unusedSimpArgs false
namespace Go.Ev
open Go.RowKit
abbrev tI : Ty := .int .i64
def sortZ (l : List Int) : List Int := l.mergeSort fun x y => decide (x ≤ y)
def compZ (l : List Int) : List Int := Lib.compact l
def delZ (l : List Int) (i j:Int) : List Int := l.take i.toNat ++ l.drop j.toNat
def sortSpec : Spec := fun _ args hp nm k => match args with
 | [.v (.one (.full n))] => match hp n with
  | some (.row (.int .i64) l rk) => if rk = 0 then False else ob (decide (l.length < 1099511627776)) (True ∧ ∀ l',l' = sortZ l → k { val := und,writes := [(n,.row (.int .i64) l' rk)],touch := [n] })
  | _ => False
 | _ => False
def compSpec : Spec := fun _ args hp nm k => match args with
 | [.v (.one (.full n))] => match hp n with
  | some (.row (.int .i64) l rk) => if rk = 0 then False else ob (decide (l.length < 1099511627776)) (True ∧ ∀ l',l' = compZ l → k { val := .v (.one (.full nm)),fresh := [.row (.int .i64) l' rk],writes := [(n,.gone)],touch := [n] })
  | _ => False
 | _ => False
def delSpec : Spec := fun _ args hp nm k => match args with
 | [.v (.one (.full n)),.v (.one (.raw (.int .i64 i))),.v (.one (.raw (.int .i64 j)))] => match hp n with
  | some (.row (.int .i64) l rk) => if rk = 0 then False else ob (decide (0 ≤ i) && (decide (i ≤ j) && decide (j ≤ (l.length:Int)))) (True ∧ ∀ l',l' = delZ l i j → k { val := .v (.one (.full nm)),fresh := [.row (.int .i64) l' rk],writes := [(n,.gone)],touch := [n] })
  | _ => False
 | _ => False

abbrev encZ : Int → Value := Value.int .i64
theorem flatZ (l : List Int) : flatVals tI l = l.map encZ := by
 induction l with
 | nil => rfl
 | cons x r ih =>
  have : flatVals tI (x :: r) = encZ x :: flatVals tI r := rfl
  rw [this,ih]; rfl
theorem putRow_heap {w : World} {b : Nat} {xs ys : List Int} {rest : List Value} {e : TypeId} {fr : Nat × Nat} (h : w.heap[b]? = some (.cells (xs.map encZ ++ rest).toArray e fr)) (hl : ys.length = xs.length) :
  (Sort.putRow encZ w b 0 ys.toArray).heap[b]? = some (.cells (ys.map encZ ++ rest).toArray e fr) := by
 unfold Sort.putRow Sort.mapBlock
 simp only [Array.getElem?_modify,if_true,h,Option.map_some,Sort.onCells,Option.some.injEq,Obj.cells.injEq,and_true]
 unfold Sort.putCells
 apply Array.ext_getElem?
 intro k
 rw [Array.getElem?_mapIdx]
 simp only [List.getElem?_toArray,Nat.zero_le,true_and,Nat.zero_add,List.size_toArray,Nat.sub_zero]
 by_cases hk : k < ys.length
 ·rw [List.getElem?_append_left (by simpa using hl ▸ hk),List.getElem?_append_left (by simpa using hk)]
  have hkx : k < xs.length := hl ▸ hk
  simp only [List.getElem?_map,List.getElem?_eq_getElem hk,List.getElem?_eq_getElem hkx,Option.map_some,if_pos hk]
  rw [getElem!_pos ys.toArray k (by simpa using hk)]
  simp
 ·rw [List.getElem?_append_right (by simpa using by omega),List.getElem?_append_right (by simpa using by omega)]
  simp only [List.length_map,hl]
  have hk' : ¬ k < xs.length := hl ▸ hk
  cases rest[k - xs.length]? <;> simp [hk']
theorem putRow_heap_ne {w : World} {b b' : Nat} {d : Array Int} (h : b' ≠ b) : (Sort.putRow encZ w b 0 d).heap[b']? = w.heap[b']? := by
 unfold Sort.putRow Sort.mapBlock
 simp only [Array.getElem?_modify]
 rw [if_neg (Ne.symm h)]
theorem holdsZ {w : World} {b : Nat} {xs : List Int} {rest : List Value} {e : TypeId} (h : w.heap[b]? = some (.cells (xs.map encZ ++ rest).toArray e (0,0))) : Sort.Holds encZ w b 0 xs.toArray := by
 intro j hj
 have hj : j < xs.length := by simpa using hj
 refine ⟨?_,by simp [World.frozen?,h]⟩
 rw [Nat.zero_add,cell_of_heap h,List.getElem?_append_left (by simpa using hj),List.getElem?_map,List.getElem?_eq_getElem hj,getElem!_pos xs.toArray j (by simpa using hj)]
 simp
theorem grow_heap {w : World} {os : Array Obj} {b : Nat} (h : b < w.heap.size) : (Sort.grow w os).heap[b]? = w.heap[b]? := by
 unfold Sort.grow
 exact Array.getElem?_append_left h

theorem compact_le (l : List Int) : (Lib.compact l).length ≤ l.length := by
 unfold Lib.compact Lib.compactUpTo
 rw [List.length_map]
 exact Nat.le_trans (List.length_filter_le _ _) (by simp)

section
variable {P : Program} {f : FuncId}
theorem rowZ {bor : Bor} {W w : World} {ρ : Env} {Kn : Nat → Prop} {Γ : HP} {n rk : Nat} {l : List Int} (hst : St bor W ρ Kn Γ w) (hΓ : Γ n = some (.row tI l rk)) (hrk : rk ≠ 0) :
  (ρ n).len = l.length ∧ (ρ n).es = 1 ∧ l.length ≤ (ρ n).cap ∧ (((ρ n).blk = none ∧ l = [] ∧ (ρ n).cap = 0 ∧ (ρ n).base = none) ∨
   ∃ b rest e,(ρ n).blk = some b ∧ (ρ n).base = some ⟨b,0,none⟩ ∧ w.heap[b]? = some (.cells (l.map encZ ++ rest).toArray e (0,0)) ∧ (ρ n).cap = l.length + rest.length ∧ (ρ n).cap ≤ 9223372036854775807) := by
 obtain ⟨o1,o2,o3,sub,m1,m2,m3,m4⟩ := hst.at_ n _ hΓ
 refine ⟨o1,o2,o3,?_⟩
 rcases m4 hrk with h | ⟨b,rest,e,h1,h2,h3,h4,h5⟩
 ·exact .inl h
 ·rw [valsFrom_flat (u := tI) rfl,flatZ] at h3 h4
  refine .inr ⟨b,rest,e,h1,h2,h3,?_,h5⟩
  have : (ρ n).cap * 1 = _ := h4
  rw [Nat.mul_one,List.length_append,List.length_map] at this
  exact this
theorem objZ {fz pm : Nat → Prop} {ρ : Env} {n b rk : Nat} {w : World} {l : List Int} {rest : List Value} {e : TypeId} (hrk : rk ≠ 0) (h1 : (ρ n).len = l.length) (h2 : (ρ n).es = 1) (h3 : (ρ n).blk = some b) (h4 : (ρ n).base = some ⟨b,0,none⟩)
  (h5 : w.heap[b]? = some (.cells (l.map encZ ++ rest).toArray e (0,0))) (h6 : (ρ n).cap = l.length + rest.length) (h7 : (ρ n).cap ≤ 9223372036854775807) : objAt fz pm ρ n (.row tI l rk) w := by
 refine ⟨h1,h2,by omega,fun _ => (none,0),fun i v hv => ⟨_,h4,?_,fun e => absurd e hrk⟩,fun q u' l' hq => ?_,fun e => absurd e hrk,fun _ => .inr ⟨b,rest,e,h3,h4,?_,?_,h7⟩⟩
 ·rw [valsFrom_flat (u := tI) rfl,flatZ] at hv
  have e1 : (⟨b,0,none⟩ : Addr).add i = ⟨b,i,none⟩ := by unfold Addr.add; split <;> simp_all
  rw [e1,cell_of_heap h5,List.getElem?_append_left (List.getElem?_eq_some_iff.1 hv).1]; exact hv
 ·obtain ⟨v,hv⟩ := flat_row (t := tI) rfl (List.mem_of_getElem? hq)
  cases hv
 ·rw [valsFrom_flat (u := tI) rfl,flatZ]; exact h5
 ·rw [valsFrom_flat (u := tI) rfl,flatZ]
  show (ρ n).cap * 1 = _
  rw [h6]; simp
theorem Fr.putZ {bor : Bor} {W w : World} {b m : Nat} {d : Array Int} (h : Fr bor W w) (hb : W.heap.size ≤ b ∨ bor b) : Fr bor W (Sort.putRow encZ (Sort.ahead w m) b 0 d) :=
 ⟨h.os,h.tape,h.output,by rw [Sort.size_putRow]; exact h.size,fun k hk hn => by
  rw [putRow_heap_ne (by rintro rfl; exact hb.elim (by omega) hn)]; exact h.block k hk hn⟩
theorem Fr.growZ {bor : Bor} {W w : World} {os : Array Obj} (h : Fr bor W w) : Fr bor W (Sort.grow w os) :=
 ⟨h.os,h.tape,h.output,by have := h.size; simp only [Sort.grow,Array.size_append]; omega,fun k hk hn => by rw [grow_heap (by have := h.size; omega)]; exact h.block k hk hn⟩
theorem sortSpec_ok (hS : ∀ (blk off cap : Nat) (zs : List Int) (w : World), Sort.Holds encZ w blk off zs.toArray → blk < w.heap.size → zs.length < 4611686018427387904 →
      Calls P f #[.slice (some ⟨blk, off, none⟩) zs.length cap] w fun e w' => e = .returned (.tuple #[]) ∧ ∃ n os, w' = Sort.grow (Sort.putRow encZ (Sort.ahead w n) blk off (zs.mergeSort fun x y => decide (x ≤ y)).toArray) os)
    (hN : ∀ (p : Option Addr) (cap : Nat) (w : World), Calls P f #[.slice p 0 cap] w fun e w' => e = .returned (.tuple #[]) ∧ w' = w) : SpecOk P f sortSpec := by
  intro X args hp nm k hs
  unfold sortSpec at hs
  split at hs <;> try (exact hs.elim)
  rename_i n
  split at hs <;> try (exact hs.elim)
  rename_i l rk he
  split at hs <;> try (exact hs.elim)
  rename_i hrk
  obtain ⟨hlen, _, hk⟩ := ob_spec hs
  have hlen := of_decide_eq_true hlen
  refine ⟨_, ⟨fun p hp' => ?_, ?_⟩, hk _ rfl⟩
  · simp only [List.mem_singleton] at hp'; subst hp'; rw [he]; simp
  intro bor W ρ Kn Γ w _ hok ht hfr hst
  have hΓ : Γ n = some (.row tI l rk) := by rw [ht n (by simp), he]
  obtain ⟨z1, z2, z3, z4⟩ := rowZ hst hΓ hrk
  have eSt : knR Kn nm { val := und, writes := [(n, AObj.row (.int .i64) (sortZ l) rk)], touch := [n] } = Kn := knR_nil _ _ _ _ _
  have hl' : (sortZ l).length = l.length := List.length_mergeSort l
  have ea : ([AV.v (.one (.full n))].map (AV.conc ρ)).toArray = #[.slice (ρ n).base (ρ n).len (ρ n).cap] := rfl
  rcases z4 with ⟨_, rfl, h3, h4⟩ | ⟨b, rest, e0, h1, h2, h3, h4, h5⟩
  · rw [ea, z1]
    refine (hN _ _ w).mono ?_
    rintro e w' ⟨rfl, rfl⟩
    refine ⟨ρ, rfl, fun _ _ => rfl, und_ok _, ?_⟩
    rw [eSt, appH_write _ _ _ _ _ _ rfl]
    have e1 : sortZ [] = [] := by simp [sortZ]
    have : updH Γ n (.row (.int .i64) (sortZ []) rk) = Γ := by
      funext m; unfold updH; split
      · rename_i e2; subst e2; rw [e1]; exact hΓ.symm
      · rfl
    rw [this]; exact hst
  · rw [ea, z1, h2]
    have hb := hst.lt n b (by rw [hΓ]; rfl) (.inl h1)
    refine (hS b 0 _ l w (holdsZ h3) hb (by omega)).mono ?_
    rintro e w' ⟨rfl, m, os, rfl⟩
    refine ⟨ρ, rfl, fun _ _ => rfl, und_ok _, ?_⟩
    rw [eSt, appH_write _ _ _ _ _ _ rfl]
    have hown := hst.own n b (by rw [hΓ]; rfl) h1
    have hput : (Sort.putRow encZ (Sort.ahead w m) b 0 (sortZ l).toArray).heap[b]? = some (.cells ((sortZ l).map encZ ++ rest).toArray e0 (0, 0)) := putRow_heap (w := Sort.ahead w m) h3 hl'
    have hst1 : St bor W ρ Kn (updH Γ n (.row tI (sortZ l) rk)) (Sort.putRow encZ (Sort.ahead w m) b 0 (sortZ l).toArray) :=
      hst.writeW hΓ h1 trivial (fun _ h => by cases h) (hst.fr.putZ hown) (fun b' hb' => putRow_heap_ne hb') (by rw [Sort.size_putRow]; exact Nat.le_refl _)
        fun _ => objZ hrk (by rw [hl']; exact z1) z2 h1 h2 hput (by rw [hl']; exact h4) h5
    exact hst1.world hst1.fr.growZ fun b' hb' => grow_heap hb'
theorem moveZ {bor : Bor} {W w w' : World} {ρ : Env} {Kn : Nat → Prop} {Γ : HP} {n nm b rk : Nat} {l l' : List Int} {rest' : List Value} {e0 : TypeId} {tc : List Nat} {v : AV} (hst : St bor W ρ Kn Γ w) (hn : ¬ Kn nm) (hΓ : Γ n = some (.row tI l rk)) (hrk : rk ≠ 0)
  (h1 : (ρ n).blk = some b) (h2 : (ρ n).base = some ⟨b,0,none⟩) (h4 : (ρ n).cap = l'.length + rest'.length) (h5 : (ρ n).cap ≤ 9223372036854775807) (hf : Fr bor W w') (hne : ∀ b',b' ≠ b → w'.heap[b']? = w.heap[b']?) (hh : w'.heap[b]? = some (.cells (l'.map encZ ++ rest').toArray e0 (0,0))) :
  St bor W (updE ρ nm { ρ n with len := l'.length,es := 1,ents := [] }) (knR Kn nm { val := v,fresh := [.row (.int .i64) l' rk],writes := [(n,.gone)],touch := tc }) (appH { val := v,fresh := [.row (.int .i64) l' rk],writes := [(n,.gone)],touch := tc } nm Γ) w' := by
 rw [show knR Kn nm { val := v,fresh := [AObj.row (.int .i64) l' rk],writes := [(n,.gone)],touch := tc } = knN Kn nm by
  funext m; simp only [knR,knN,List.length_singleton]; congr 1; apply propext; omega]
 refine hst.swap (G := [n]) (o := AObj.row tI l' rk) (x := { ρ n with len := l'.length,es := 1,ents := [] }) hn hf (fun b' _ hb' => hne b' fun e => hb' (by rw [e]; exact h1)) (fun b' hb' => ⟨.inr ⟨n,by simp,by rw [hΓ]; rfl,hb'⟩,hst.own n b' (by rw [hΓ]; rfl) hb'⟩) (fun m p hp => ?_) trivial (fun _ h => by cases h) fun _ _ => ?_
 ·simp only [appH,List.length_singleton,lastW] at hp
  by_cases h6 : nm ≤ m ∧ m < nm + 1
  ·rw [if_pos h6,show m - nm = 0 by omega] at hp
   simp only [List.getElem?_cons_zero,live,Option.some.injEq] at hp
   exact .inl ⟨by omega,hp.symm⟩
  ·rw [if_neg h6] at hp
   by_cases h7 : m = n
   ·subst h7; simp [live] at hp
   ·refine .inr ⟨by omega,by simpa using h7,?_⟩
    simpa [Ne.symm h7,h7] using hp
 ·have hx : updE ρ nm { ρ n with len := l'.length,es := 1,ents := [] } nm = { ρ n with len := l'.length,es := 1,ents := [] } := by simp [updE]
  exact objZ hrk (by rw [hx]) (by rw [hx]) (by rw [hx]; exact h1) (by rw [hx]; exact h2) hh (by rw [hx]; exact h4) (by rw [hx]; exact h5)
theorem moveNil {bor : Bor} {W w : World} {ρ : Env} {Kn : Nat → Prop} {Γ : HP} {n nm rk : Nat} {tc : List Nat} {v : AV} (hst : St bor W ρ Kn Γ w) (hn : ¬ Kn nm) (hΓ : Γ n = some (.row tI [] rk)) (hrk : rk ≠ 0) (h1 : (ρ n).blk = none) (h2 : (ρ n).base = none) (h4 : (ρ n).cap = 0) :
  St bor W (updE ρ nm { ρ n with len := 0,es := 1,ents := [] }) (knR Kn nm { val := v,fresh := [.row (.int .i64) [] rk],writes := [(n,.gone)],touch := tc }) (appH { val := v,fresh := [.row (.int .i64) [] rk],writes := [(n,.gone)],touch := tc } nm Γ) w := by
 rw [show knR Kn nm { val := v,fresh := [AObj.row (.int .i64) [] rk],writes := [(n,.gone)],touch := tc } = knN Kn nm by
  funext m; simp only [knR,knN,List.length_singleton]; congr 1; apply propext; omega]
 refine hst.swap (G := [n]) (o := AObj.row tI [] rk) (x := { ρ n with len := 0,es := 1,ents := [] }) hn hst.fr (fun b' _ hb' => rfl) (fun b' hb' => by
  have : (ρ n).blk = some b' := hb'
  rw [h1] at this; cases this) (fun m p hp => ?_) trivial (fun _ h => by cases h) fun _ _ => ?_
 ·simp only [appH,List.length_singleton,lastW] at hp
  by_cases h6 : nm ≤ m ∧ m < nm + 1
  ·rw [if_pos h6,show m - nm = 0 by omega] at hp
   simp only [List.getElem?_cons_zero,live,Option.some.injEq] at hp
   exact .inl ⟨by omega,hp.symm⟩
  ·rw [if_neg h6] at hp
   by_cases h7 : m = n
   ·subst h7; simp [live] at hp
   ·refine .inr ⟨by omega,by simpa using h7,?_⟩
    simpa [Ne.symm h7,h7] using hp
 ·have hx : updE ρ nm { ρ n with len := 0,es := 1,ents := [] } nm = { ρ n with len := 0,es := 1,ents := [] } := by simp [updE]
  rw [objAt,hx]
  exact ⟨rfl,rfl,Nat.zero_le _,fun _ => (none,0),fun i v hv => by simp [rowComps,valsFrom] at hv,fun q u l' hq => by simp [rowComps] at hq,fun e => absurd e hrk,fun _ => .inl ⟨h1,rfl,h4,h2⟩⟩
theorem compSpec_ok (hC : ∀ (blk off cap : Nat) (zs : List Int) (w : World), Sort.Holds encZ w blk off zs.toArray → zs.length ≤ 9223372036854775807 → zs.length ≤ cap →
      Calls P f #[.slice (some ⟨blk, off, none⟩) zs.length cap] w fun e w' => e = .returned (.slice (some ⟨blk, off, none⟩) (Lib.compact zs).length cap) ∧ ∃ q, w' = Sort.putRow encZ (Sort.ahead w q) blk off (Lib.compact zs ++ List.replicate (zs.length - (Lib.compact zs).length) 0).toArray)
    (hN : ∀ (a : Option Addr) (cap : Nat) (w : World), Calls P f #[.slice a 0 cap] w fun e w' => e = .returned (.slice a 0 cap) ∧ w' = w) : SpecOk P f compSpec := by
  intro X args hp nm k hs
  unfold compSpec at hs
  split at hs <;> try (exact hs.elim)
  rename_i n
  split at hs <;> try (exact hs.elim)
  rename_i l rk he
  split at hs <;> try (exact hs.elim)
  rename_i hrk
  obtain ⟨hlen, _, hk⟩ := ob_spec hs
  have hlen := of_decide_eq_true hlen
  refine ⟨_, ⟨fun p hp' => ?_, ?_⟩, hk _ rfl⟩
  · simp only [List.mem_singleton] at hp'; subst hp'; rw [he]; simp
  intro bor W ρ Kn Γ w _ hok ht hfr hst
  have hn : ¬ Kn nm := by simpa using hfr 0 (by simp)
  have hΓ : Γ n = some (.row tI l rk) := by rw [ht n (by simp), he]
  obtain ⟨z1, z2, z3, z4⟩ := rowZ hst hΓ hrk
  have ea : ([AV.v (.one (.full n))].map (AV.conc ρ)).toArray = #[.slice (ρ n).base (ρ n).len (ρ n).cap] := rfl
  rcases z4 with ⟨h0, rfl, h3, h4⟩ | ⟨b, rest, e0, h1, h2, h3, h4, h5⟩
  · rw [ea, z1]
    refine (hN _ _ w).mono ?_
    rintro e w' ⟨rfl, rfl⟩
    refine ⟨_, ?_, updE_old hn, .inr (by simp), moveNil hst hn hΓ hrk h0 h4 h3⟩
    simp [AV.conc, A0.conc, Cell.conc, updE]
  · rw [ea, z1, h2]
    refine (hC b 0 _ l w (holdsZ h3) (by omega) z3).mono ?_
    rintro e w' ⟨rfl, m, rfl⟩
    have hcl := compact_le l
    have hown := hst.own n b (by rw [hΓ]; rfl) h1
    have hput : (Sort.putRow encZ (Sort.ahead w m) b 0 (Lib.compact l ++ List.replicate (l.length - (Lib.compact l).length) 0).toArray).heap[b]? = some (.cells ((compZ l).map encZ ++ (List.replicate (l.length - (Lib.compact l).length) (encZ 0) ++ rest)).toArray e0 (0, 0)) := by
      rw [putRow_heap (w := Sort.ahead w m) h3 (by simp; omega), List.map_append, List.map_replicate, List.append_assoc]; rfl
    have hcap : (ρ n).cap = (compZ l).length + (List.replicate (l.length - (Lib.compact l).length) (encZ 0) ++ rest).length := by
      rw [h4]; simp only [compZ, List.length_append, List.length_replicate]; omega
    refine ⟨_, ?_, updE_old hn, .inr (by simp), moveZ hst hn hΓ hrk h1 h2 hcap h5 (hst.fr.putZ hown) (fun b' hb' => putRow_heap_ne hb') hput⟩
    simp [AV.conc, A0.conc, Cell.conc, updE, h2, compZ]
theorem delSpec_ok (hD : ∀ (blk off cap i j : Nat) (zs : List Int) (w : World), Sort.Holds encZ w blk off zs.toArray → zs.length ≤ cap → cap ≤ 9223372036854775807 → i ≤ j → j ≤ zs.length →
      Calls P f #[.slice (some ⟨blk, off, none⟩) zs.length cap, .int .i64 i, .int .i64 j] w fun e w' => e = .returned (.slice (some ⟨blk, off, none⟩) (zs.length - (j - i)) cap) ∧ ∃ q, w' = Sort.putRow encZ (Sort.ahead w q) blk off (zs.take i ++ zs.drop j ++ List.replicate (j - i) 0).toArray)
    (hN : ∀ (a : Option Addr) (c : Nat) (w : World), Calls P f #[.slice a 0 c, .int .i64 0, .int .i64 0] w fun e w' => e = .returned (.slice a 0 c) ∧ w' = w) : SpecOk P f delSpec := by
  intro X args hp nm k hs
  unfold delSpec at hs
  split at hs <;> try (exact hs.elim)
  rename_i n i j
  split at hs <;> try (exact hs.elim)
  rename_i l rk he
  split at hs <;> try (exact hs.elim)
  rename_i hrk
  obtain ⟨hb, _, hk⟩ := ob_spec hs
  simp only [Bool.and_eq_true, decide_eq_true_eq] at hb
  obtain ⟨hi0, hij, hjl⟩ := hb
  refine ⟨_, ⟨fun p hp' => ?_, ?_⟩, hk _ rfl⟩
  · simp only [List.mem_singleton] at hp'; subst hp'; rw [he]; simp
  intro bor W ρ Kn Γ w _ hok ht hfr hst
  have hn : ¬ Kn nm := by simpa using hfr 0 (by simp)
  have hΓ : Γ n = some (.row tI l rk) := by rw [ht n (by simp), he]
  obtain ⟨z1, z2, z3, z4⟩ := rowZ hst hΓ hrk
  obtain ⟨i, rfl⟩ := Int.eq_ofNat_of_zero_le hi0
  obtain ⟨j, rfl⟩ := Int.eq_ofNat_of_zero_le (Int.le_trans hi0 hij)
  have hij : i ≤ j := by omega
  have hjl : j ≤ l.length := by omega
  have ea : ([AV.v (.one (.full n)), .v (.one (.raw (.int .i64 i))), .v (.one (.raw (.int .i64 j)))].map (AV.conc ρ)).toArray = #[.slice (ρ n).base (ρ n).len (ρ n).cap, .int .i64 i, .int .i64 j] := rfl
  rcases z4 with ⟨h0, rfl, h3, h4⟩ | ⟨b, rest, e0, h1, h2, h3, h4, h5⟩
  · have hj0 : j = 0 := by simpa using hjl
    subst hj0
    have hi0 : i = 0 := by omega
    subst hi0
    rw [ea, z1]
    refine (hN _ _ w).mono ?_
    rintro e w' ⟨rfl, rfl⟩
    refine ⟨_, ?_, updE_old hn, .inr (by simp), moveNil hst hn hΓ hrk h0 h4 h3⟩
    simp [AV.conc, A0.conc, Cell.conc, updE]
  · rw [ea, z1, h2]
    refine (hD b 0 _ i j l w (holdsZ h3) z3 h5 hij hjl).mono ?_
    rintro e w' ⟨rfl, m, rfl⟩
    have hown := hst.own n b (by rw [hΓ]; rfl) h1
    have hdl : (delZ l i j).length = l.length - (j - i) := by simp [delZ]; omega
    have hput : (Sort.putRow encZ (Sort.ahead w m) b 0 (l.take i ++ l.drop j ++ List.replicate (j - i) 0).toArray).heap[b]? = some (.cells ((delZ l i j).map encZ ++ (List.replicate (j - i) (encZ 0) ++ rest)).toArray e0 (0, 0)) := by
      rw [putRow_heap (w := Sort.ahead w m) h3 (by simp; omega), List.map_append, List.map_replicate, List.append_assoc]; rfl
    have hcap : (ρ n).cap = (delZ l i j).length + (List.replicate (j - i) (encZ 0) ++ rest).length := by
      rw [h4, hdl]; simp only [List.length_append, List.length_replicate]; omega
    refine ⟨_, ?_, updE_old hn, .inr (by simp), moveZ hst hn hΓ hrk h1 h2 hcap h5 (hst.fr.putZ hown) (fun b' hb' => putRow_heap_ne hb') hput⟩
    simp [AV.conc, A0.conc, Cell.conc, updE, h2, hdl]
end
end Go.Ev

namespace Go.Ev
open Go.RowKit
structure LPar where
 ka : Bool
 k : Ty
 u : Ty
 q : Par
@[reducible] def LPar.ty (d : LPar) : Ty := .prod (.sl (.prod d.k (.sl d.u))) d.q.ty
structure FnL where
 p : LPar
 r : Par
 pre : p.ty.T → Prop
 f : p.ty.T → r.ty.T × List (p.k.T × List p.u.T)
def argsL (d : LPar) (x : d.ty.T) : List AV := .v (.one (.mp 0)) :: (encP 0 2 d.q x.2).1.map .v
def rowsL (d : LPar) (x : d.ty.T) : List AObj := .grp d.ka d.k d.u x.1 1 none :: .set 0 :: (encP 0 2 d.q x.2).2
def heapL (d : LPar) (x : d.ty.T) (r0 : Env) : List AObj := rowsL d x ++ [.pin r0 (rowsL d x).length]
def fnSpecL (s : FnL) : Spec := fun _ args hp nm k => match args with
 | .v (.one (.mp n)) :: r => match hp n with
  | some (.grp ka k0 u0 l c none) => if ka = s.p.ka ∧ setOf (hp c) n = true then (match castG k0 u0 s.p.k s.p.u l with
   | some l' => match decP hp s.p.q r with
    | some (y,[],tc,b) => if disN tc [n,c] then ob b (s.pre (l',y) ∧ ∀ z,z = s.f (l',y) → k { val := resV (encP 2 nm s.r z.1).1,fresh := (encP 2 nm s.r z.1).2,writes := [(n,.grp s.p.ka s.p.k s.p.u z.2 c none),(c,.set n)],touch := n :: c :: tc }) else False
    | _ => False
   | none => False) else False
  | _ => False
 | _ => False
def retL (r : Par) (d : LPar) (x : d.ty.T) (ρ : Env) (Q : r.ty.T × List (d.k.T × List d.u.T) → Prop) (v : AV) (st : AS) : Prop := match partsV v with
 | some l => match decR (liveAt st.heap) r l with
  | some (y,[],ss) => if nodupL (ss.filterMap srcB ++ [0,1]) then (match liveAt st.heap 0 with
   | some (.grp ka k0 u0 l c none) => if ka = d.ka ∧ (Nat.beq c 1 = true ∧ setOf (liveAt st.heap 1) 0 = true) then (match castG k0 u0 d.k d.u l with
    | some l' => isPin (liveAt st.heap (rowsL d x).length) ρ (rowsL d x).length (Q (y,l'))
    | none => False) else False
   | _ => False) else False
  | _ => False
 | none => False
theorem castG_eq {k' u' k u : Ty} {l : List (k'.T × List u'.T)} {l' : List (k.T × List u.T)} (h : castG k' u' k u l = some l') (ka : Bool) (c:Nat) : AObj.grp ka k' u' l c none = .grp ka k u l' c none := by
 unfold castG at h
 obtain ⟨e1,e2⟩ := castL_eq h
 cases e1
 dsimp only at e2
 subst e2
 rfl
def recsL (d : LPar) (n c len:Nat) (l l' : List (d.k.T × List d.u.T)) : List WRec :=
 [⟨n,0,0,.grp d.ka d.k d.u l 1 none,.grp d.ka d.k d.u l c none,.grp d.ka d.k d.u l' (len + 1) none,.grp d.ka d.k d.u l' c none⟩,⟨c,0,1,.set 0,.set n,.set len,.set n⟩]
theorem retL_spec {r : Par} {d : LPar} {x : d.ty.T} {ρ0 : Env} {Q : r.ty.T × List (d.k.T × List d.u.T) → Prop} {v : AV} {st : AS} (h : retL r d x ρ0 Q v st) : ∃ y l',Q (y,l') ∧ liveAt st.heap (rowsL d x).length = some (.pin ρ0 (rowsL d x).length) ∧
  ∃ ss,ss.length = (encP 2 0 r y).2.length ∧ Ren (ss ++ [.same 0,.same 1]) ⟨[v],st.heap⟩ ⟨[resV (encP 2 0 r y).1],(encP 2 0 r y).2 ++ [.grp d.ka d.k d.u l' ((encP 2 0 r y).2.length + 1) none,.set (encP 2 0 r y).2.length]⟩ := by
 unfold retL at h
 split at h <;> try (exact h.elim)
 rename_i l hl
 split at h <;> try (exact h.elim)
 rename_i y ss hd
 split at h <;> try (exact h.elim)
 rename_i hn
 split at h <;> try (exact h.elim)
 rename_i ka k0 u0 l0 c h0
 split at h <;> try (exact h.elim)
 rename_i hk
 obtain ⟨rfl,hc,hs1⟩ := hk
 have hc := Nat.eq_of_beq_eq_true hc
 subst hc
 have hs1 := setOf_spec hs1
 split at h <;> try (exact h.elim)
 rename_i l' hl'
 rw [castG_eq hl'] at h0
 obtain ⟨hp,hQ⟩ := isPin_spec h
 obtain ⟨ys,e,hs⟩ := decR_spec r _ _ _ _ hd
 rw [List.append_nil] at e
 subst e
 have hlen := (hs ss 0 fun i s hi => by rwa [Nat.zero_add]).2.length
 refine ⟨y,l',hQ,hp,ss,hlen,?_⟩
 obtain ⟨h1,h2⟩ := hs (ss ++ [.same 0,.same 1]) 0 fun i s hi => by
  rw [Nat.zero_add,List.getElem?_append_left (List.getElem?_eq_some_iff.1 hi).1]; exact hi
 have g0 : (ss ++ [Src.same 0,.same 1])[(encP 2 0 r y).2.length]? = some (.same 0) := by rw [← hlen,List.getElem?_append_right (Nat.le_refl _),Nat.sub_self]; rfl
 have g1 : (ss ++ [Src.same 0,.same 1])[(encP 2 0 r y).2.length + 1]? = some (.same 1) := by rw [← hlen,List.getElem?_append_right (by omega),Nat.add_sub_cancel_left]; rfl
 have h3 : All2 (objR (ss ++ [.same 0,.same 1]) st.heap) (ss ++ [.same 0,.same 1]) ((encP 2 0 r y).2 ++ [.grp d.ka d.k d.u l' ((encP 2 0 r y).2.length + 1) none,.set (encP 2 0 r y).2.length]) :=
  h2.append ⟨⟨_,h0,by simp only [renO,renN,g1]⟩,⟨_,hs1,by simp only [renO,renN,g0]⟩,trivial⟩
 obtain ⟨h4,h5⟩ := heapR_of _ _ h3
 refine ⟨tmpsR_one (resV_key hl h1),h4,?_⟩
 show nodupL (srcs _ (_ ++ _)) = true
 rw [h5,List.filterMap_append]
 exact hn
section
variable {P : Program} {tt : List (Nat × TI)} {specs : List (Nat × Spec)}
theorem SpecOk.fnL (hT : TOk P tt) (hS : SpecsOk P specs) (hm : P.follows .mixedOrders = true) {f : FuncId} {fn : Func} (hf : P.funcs[f]? = some fn) (hn : nodupB (ids (bodyOf fn)) = true) {s : FnL} (hres : s.r.res = true)
  (h : ∀ x,s.pre x → ∀ ρ0,∃ lp its,ItsOk P noX its ∧ LpsOk P noX (bodyOf fn) lp ∧ fnE ⟨tt,specs,noX,lp,[],its⟩ fn (argsL s.p x) (heapL s.p x ρ0) (retL s.r s.p x ρ0 (· = s.f x))) : SpecOk P f (fnSpecL s) := by
 intro X args hp nm k hs
 unfold fnSpecL at hs
 split at hs <;> try (exact hs.elim)
 rename_i n r
 split at hs <;> try (exact hs.elim)
 rename_i ka k0 u0 l0 c hgn
 split at hs <;> try (exact hs.elim)
 rename_i hkc
 obtain ⟨rfl,hcc⟩ := hkc
 have hcc := setOf_spec hcc
 split at hs <;> try (exact hs.elim)
 rename_i l hl
 rw [castG_eq hl] at hgn
 split at hs <;> try (exact hs.elim)
 rename_i y tc b hd
 split at hs <;> try (exact hs.elim)
 rename_i hdj
 have hdj := disN_spec hdj
 obtain ⟨rfl,hpre,hk⟩ := ob_spec hs
 have hk := hk _ rfl
 obtain ⟨as,e,hargs⟩ := decP_specO s.p.q _ _ _ _ hd
 rw [List.append_nil] at e
 subst e
 have hnc : n ≠ c := by rintro rfl; rw [hgn] at hcc; cases hcc
 obtain ⟨x,hx⟩ : ∃ x : s.p.ty.T,x = (l,y) := ⟨_,rfl⟩
 rw [← hx] at hpre hk
 refine ⟨_,⟨fun p hp' => ?_,?_⟩,hk⟩
 ·simp only [List.mem_cons,List.mem_nil_iff,or_false] at hp'
  rcases hp' with rfl | rfl
  ·rw [hgn]; exact fun h => by cases h
  ·rw [hcc]; exact fun h => by cases h
 intro bor W ρ Kn Γ w _ _ ht hfr hst
 have hΓn : Γ n = some (.grp s.p.ka s.p.k s.p.u l c none) := by rw [ht n (by simp),hgn]
 have hΓc : Γ c = some (.set n) := by rw [ht c (by simp),hcc]
 obtain ⟨R0,hR0⟩ : ∃ R,R = recsL s.p n c 0 l l := ⟨_,rfl⟩
 have hmem : ∀ {q : WRec} {len : Nat} {l' : List (s.p.k.T × List s.p.u.T)},q ∈ recsL s.p n c len l l' → (q = ⟨n,0,0,.grp s.p.ka s.p.k s.p.u l 1 none,.grp s.p.ka s.p.k s.p.u l c none,.grp s.p.ka s.p.k s.p.u l' (len + 1) none,.grp s.p.ka s.p.k s.p.u l' c none⟩ ∨ q = ⟨c,0,1,.set 0,.set n,.set len,.set n⟩) := fun hq => by
  simpa [recsL] using hq
 have hΓq : ∀ {q : WRec} {len : Nat} {l' : List (s.p.k.T × List s.p.u.T)},q ∈ recsL s.p n c len l l' → Γ q.n = some q.b := fun hq => by
  rcases hmem hq with rfl | rfl
  ·exact hΓn
  ·exact hΓc
 obtain ⟨gf1,gf2,gnd,gb,ges,gclk,gblk,gheap,gR⟩ := hst.at_ n _ hΓn
 obtain ⟨sb,se,sp⟩ := hst.at_ c _ hΓc
 have hok : OkFor (fun b => cellsB w b ∧ ∀ q ∈ R0,¬ (ρ q.n).has b) ρ Γ w tc := by
  refine ⟨fun b hb => ⟨hb.1,fun q hq e => hb.2 (.inl ⟨q.n,?_,e⟩)⟩,fun m hm hs b hb hc => ⟨hc,fun q hq e => ?_⟩⟩
  ·rw [hR0] at hq; rw [hΓq hq]; rfl
  ·rw [hR0] at hq
   have := hst.injH m q.n b hs (by rw [hΓq hq]; rfl) (.inl hb) e
   refine hdj m hm ?_
   rw [this]
   rcases hmem hq with rfl | rfl <;> simp
 obtain ⟨ys,hg,hc⟩ := hargs bor W ρ Kn Γ w (fun m hm => ht m (by simp [hm])) hst _ hok 2
 have hyl := hg.length
 obtain ⟨xs,hxs⟩ : ∃ xs,xs = ρ n :: ρ c :: ys := ⟨_,rfl⟩
 have hxl : xs.length = (rowsL s.p x).length := by rw [hxs,hx]; simp [rowsL,hyl]
 have hb := St.beginV (R := R0) (os := rowsL s.p x) hst hxl (fun q hq => by
  rw [hR0] at hq
  refine ⟨hΓq hq,?_⟩
  rcases hmem hq with rfl | rfl
  ·exact ⟨⟨fun S => by simp,by show 1 < _; simp [rowsL]⟩,.inr ((hst.noe n _ hΓn).elim (fun ⟨_,e⟩ => by cases e) id)⟩
  ·exact ⟨⟨fun S => by simp,by show 0 < _; simp [rowsL]⟩,.inl ⟨_,rfl⟩⟩) (fun q hq e fz pm => by
  rw [hR0] at hq
  rcases hmem hq with rfl | rfl
  ·rw [hxs]
   exact ⟨gf1,gf2,gnd,gb,ges,gclk,gblk,gheap,gR⟩
  ·rw [hxs]
   exact ⟨sb,se,sp⟩) (fun q hq q' hq' e => by
  rw [hR0] at hq hq'
  rcases hmem hq with rfl | rfl <;> rcases hmem hq' with rfl | rfl
  ·rfl
  ·exact absurd e hnc
  ·exact absurd e.symm hnc
  ·rfl) (fun i o hi => by
  match i with
  | 0 =>
   refine ⟨ρ n,by rw [hxs]; rfl,.inr ⟨⟨n,0,0,.grp s.p.ka s.p.k s.p.u l 1 none,.grp s.p.ka s.p.k s.p.u l c none,.grp s.p.ka s.p.k s.p.u l (0 + 1) none,.grp s.p.ka s.p.k s.p.u l c none⟩,by rw [hR0]; simp [recsL],rfl,?_,rfl⟩⟩
   rw [hx] at hi; simpa [rowsL] using hi.symm
  | 1 =>
   refine ⟨ρ c,by rw [hxs]; rfl,.inr ⟨⟨c,0,1,.set 0,.set n,.set 0,.set n⟩,by rw [hR0]; simp [recsL],rfl,?_,rfl⟩⟩
   simpa [rowsL] using hi.symm
  | j + 2 =>
   have hi : (encP 0 2 s.p.q x.2).2[j]? = some o := by simpa [rowsL] using hi
   rw [hx] at hi
   obtain ⟨q,h1,h2⟩ := hg.get j o hi
   exact ⟨q,by rw [hxs]; simpa using h1,.inl h2⟩)
 obtain ⟨ρ0,hρ0⟩ : ∃ ρ0 : Env,ρ0 = fun n => xs.getD n {} := ⟨_,rfl⟩
 rw [← hρ0] at hb
 have e0 : ρ0 0 = ρ n := by rw [hρ0,hxs]; rfl
 have e1 : ρ0 1 = ρ c := by rw [hρ0,hxs]; rfl
 obtain ⟨lp,its,hi,hlp,hfn⟩ := h x hpre ρ0
 have hcs := hc ρ0 fun i q hi => by rw [hρ0,hxs]; simp [show 2 + i = i + 1 + 1 by omega,hi]
 have key := calls_of_fnE (ctx := ⟨tt,specs,noX,lp,[],its⟩) hT ⟨hS,YsOk.nil P,hi⟩ (noX.ok _ w) hm hf (fun c hc => by
  have : bodyOf fn = c := by unfold bodyOf; rw [hc]
  subst this
  exact lpOk_of (nodupB_spec hn) hlp) hfn (fun a ha => by
   simp only [argsL,List.mem_cons] at ha
   rcases ha with rfl | ha
   ·show 0 < _
    simp [heapL,rowsL]
   ·obtain ⟨a0,h1,rfl⟩ := List.mem_map.1 ha
    exact A0.ok_mono (fun m hm => by simp [heapL,rowsL]; omega) a0 (encP_ok 0 s.p.q x.2 2 a0 h1)) hb
 have ea : (argsL s.p x).map (AV.conc ρ0) = (AV.v (.one (.mp n)) :: r).map (AV.conc ρ) := by
  rw [List.map_cons,hcs,hx]
  simp [argsL,AV.conc,A0.conc,Cell.conc,e0,Function.comp_def]
 rw [ea] at key
 refine key.mono ?_
 rintro e w' ⟨st,ρ1,v,rfl,hv,hR,hst1⟩
 obtain ⟨z,l',hyz,hpin,ss,hssl,hren⟩ := retL_spec hR
 obtain ⟨rfl,rfl⟩ : z = (s.f x).1 ∧ l' = (s.f x).2 := ⟨congrArg Prod.fst hyz,congrArg Prod.snd hyz⟩
 have hp1 := (hst1.at_ _ _ hpin).2
 have f0 : ρ1 0 = ρ n := by rw [hp1 0 (by simp [rowsL]),e0]
 have f1 : ρ1 1 = ρ c := by rw [hp1 1 (by simp [rowsL]),e1]
 have hat : AtS { wr := fun b => ∃ q ∈ R0,(ρ q.n).has b } w [] ⟨[v],st.heap⟩ ρ1 { tmps := #[v.conc ρ1],defers := [] } w' := by
  refine ⟨fun t _ => ?_,rfl,rfl,fun t => ?_,hst1⟩
  ·match t with
   | 0 => rfl
   | t + 1 => rfl
  ·match t with
   | 0 => exact hv
   | t + 1 => exact und_ok _
 have hat2 := hat.weakE hren
 obtain ⟨R,hRe⟩ : ∃ R,R = recsL s.p n c (encP 2 0 s.r (s.f x).1).2.length l (s.f x).2 := ⟨_,rfl⟩
 have hRc : R.map WRec.c = [.grp s.p.ka s.p.k s.p.u (s.f x).2 ((encP 2 0 s.r (s.f x).1).2.length + 1) none,.set (encP 2 0 s.r (s.f x).1).2.length] := by rw [hRe]; rfl
 rw [← hRc] at hat2
 obtain ⟨ρ2,hρ2⟩ : ∃ ρ2,ρ2 = renE (ss ++ [.same 0,.same 1]) (liveAt ((encP 2 0 s.r (s.f x).1).2 ++ R.map WRec.c)) ρ1 := ⟨_,rfl⟩
 have hB : (fun b => ∃ q ∈ R0,(ρ q.n).has b) = fun b => ∃ q ∈ R,(ρ q.n).has b := by
  funext b
  rw [hR0,hRe]; simp [recsL]
 have hat2 : AtS { wr := fun b => ∃ q ∈ R,(ρ q.n).has b } w [] ⟨[resV (encP 2 0 s.r (s.f x).1).1],(encP 2 0 s.r (s.f x).1).2 ++ R.map WRec.c⟩ ρ2 { tmps := #[v.conc ρ1],defers := [] } w' := by
  rw [hρ2,← hB]; exact hat2
 have g0 : ρ2 ((encP 2 0 s.r (s.f x).1).2.length) = ρ n := by
  rw [hρ2]; unfold renE
  rw [← hssl,List.getElem?_append_right (Nat.le_refl _),Nat.sub_self]
  exact f0
 have g1 : ρ2 ((encP 2 0 s.r (s.f x).1).2.length + 1) = ρ c := by
  rw [hρ2]; unfold renE
  rw [← hssl,List.getElem?_append_right (by omega),Nat.add_sub_cancel_left]
  exact f1
 have hρ2q : ∀ (i:Nat) (q : WRec),R[i]? = some q → ρ2 ((encP 2 0 s.r (s.f x).1).2.length + i) = ρ q.n := fun i q hi => by
  rw [hRe] at hi
  match i,hi with
  | 0,hi => simp only [recsL,List.getElem?_cons_zero,Option.some.injEq] at hi; subst hi; exact g0
  | 1,hi => simp only [recsL,List.getElem?_cons_succ,List.getElem?_cons_zero,Option.some.injEq] at hi; subst hi; exact g1
  | i + 2,hi => simp [recsL] at hi
 have hrows := encP_rows 2 s.r (s.f x).1 0 hres
 have he2 := fun d => (encP_shift 2 (ρ := ρ2) (ρ' := fun m => ρ2 (m - d)) (d := d) s.r (s.f x).1 0 hres fun i _ => by simp).2
 have hlen2 : (encP 2 nm s.r (s.f x).1).2 = (encP 2 0 s.r (s.f x).1).2 := by simpa using he2 nm
 obtain ⟨ρ',r1,r2,r3⟩ := St.growV (R := R) (v := resV (encP 2 nm s.r (s.f x).1).1) (tc := n :: c :: tc) (nm := nm) hst (fun i hi => hfr i (by rw [hlen2]; exact hi)) hrows (fun q hq => by
  rw [hRe] at hq
  refine ⟨hΓq hq,?_⟩
  rcases hmem hq with rfl | rfl
  ·exact ⟨⟨fun S => by simp,(hst.kn n _ hΓn).2,rfl,rfl⟩,.inr ((hst.noe n _ hΓn).elim (fun ⟨_,e⟩ => by cases e) id)⟩
  ·exact ⟨⟨fun S => by simp,(hst.kn c _ hΓc).2,rfl,rfl⟩,.inl ⟨_,rfl⟩⟩) (fun i q hi ρ' hold ho fz pm => by
  have hkn := (hst.kn n _ hΓn).1
  have hkc := (hst.kn c _ hΓc).1
  rw [hRe] at hi
  match i,hi with
  | 0,hi =>
   simp only [recsL,List.getElem?_cons_zero,Option.some.injEq] at hi; subst hi
   obtain ⟨a1,a2,a3,b,es,clk,a4,a5,a6⟩ := ho
   refine ⟨a1,a2,a3,b,es,clk,?_,a5,?_⟩
   ·show (ρ' n).blk = some b
    rw [hold n hkn,← g0]; exact a4
   ·show GrpR _ _ _ _ _ _ (ρ' c).ents
    rw [hold c hkc,← g1]; exact a6
  | 1,hi =>
   simp only [recsL,List.getElem?_cons_succ,List.getElem?_cons_zero,Option.some.injEq] at hi; subst hi
   show (ρ' c).blk = Option.none ∧ (∀ e ∈ (ρ' c).ents,EntAt w' e) ∧ (ρ' c).ents.Pairwise _
   rw [hold c hkc,← g1]; exact ho
  | i + 2,hi => simp [recsL] at hi) hat2.st hρ2q
 have hsh := (encP_shift 2 (ρ := ρ2) (ρ' := ρ') (d := nm) s.r (s.f x).1 0 hres fun i hi => by rw [Nat.zero_add]; exact r2 i hi).1
 rw [Nat.zero_add] at hsh
 refine ⟨ρ',?_,r1,?_,?_⟩
 ·congr 1
  have h1 := hat2.tmps 0 (by
   show resV _ ≠ _
   generalize (encP 2 0 s.r (s.f x).1).1 = l
   match l with
   | [] => exact fun h => by cases h
   | [_] => exact fun h => by cases h
   | _ :: _ :: _ => exact fun h => by cases h)
  have h2 : v.conc ρ1 = (resV (encP 2 0 s.r (s.f x).1).1).conc ρ2 := h1
  rw [h2]
  exact (resV_conc hsh).symm
 ·exact resV_ok fun c hc => A0.ok_mono (fun m hm => .inr (by simpa using hm)) c (encP_ok 2 s.r (s.f x).1 nm c hc)
 ·have : wwr R = [(n,.grp s.p.ka s.p.k s.p.u (s.f x).2 c none),(c,.set n)] := by rw [hRe]; rfl
  rw [hlen2,← this]; exact r3
theorem SpecOk.trL (s : FnL) {i : Bool} (t : s.p.ty.T → Tr (s.r.ty.T × List (s.p.k.T × List s.p.u.T)) i) (hT : TOk P tt) (hS : SpecsOk P specs) (hm : P.follows .mixedOrders = true) {n : FuncId} {fn : Func} (hk : (P.funcs[n]?,nodupB (ids (bodyOf fn)),s.r.res) = (some fn,true,true))
  {its : List (Nat × ISpec)} {lp : s.p.ty.T → List (Nat × LSpec)} (hits : ItsOk P noX its) (hl : ∀ x,LpsOk P noX (bodyOf fn) (lp x)) (he : ∀ x,(s.pre x,s.f x) = (Tr.pI i (t x).pre,(t x).val))
  (h : ∀ x r0 Q,fnE ⟨tt,specs,noX,lp x,[],its⟩ fn (argsL s.p x) (heapL s.p x r0) (retL s.r s.p x r0 Q) = (t x).wp Q [.env r0]) : SpecOk P n (fnSpecL s) := by
 simp only [Prod.mk.injEq] at hk
 refine SpecOk.fnL hT hS hm hk.1 hk.2.1 hk.2.2 fun x hx r0 => ⟨lp x,its,hits,hl x,?_⟩
 have e := he x
 simp only [Prod.mk.injEq] at e
 rw [h]
 exact Tr.wp_of _ _ _ (by rw [← e.1]; exact hx) e.2.symm
end
namespace Tr
variable {τ : Type}
abbrev fnL {i : Bool} (s : FnL) (x : s.p.ty.T) (k : s.r.ty.T × List (s.p.k.T × List s.p.u.T) → Tr τ i) : Tr τ true := .call (s.pre x) (s.f x) k
end Tr
end Go.Ev
