/- What the library's sort, compact and delete do to a row of ints. -/
import Derived.Test.YtleemdeodmdnkaaEvW
import Derived.Sort.Grow
import Derived.Lib.SlicesCompact
noncomputable section
set_option linter.unusedSectionVars false
set_option linter.unusedVariables false
set_option linter.unusedSimpArgs false
namespace Go.Ev
open Go.RowKit
abbrev tI : Ty := .int .i64
def sortZ (l : List Int) : List Int := l.mergeSort fun x y => decide (x ≤ y)
def compZ (l : List Int) : List Int := Lib.compact l
def sortSpec : Spec := fun _ args hp nm k => match args with
 | [.v (.one (.full n))] => match hp n with
  | some (.row (.int .i64) l rk) => if rk = 0 ∨ rk = 3 then False else ob (decide (l.length < 1099511627776)) (True ∧ ∀ l',l' = sortZ l → k { val := und,writes := [(n,.row (.int .i64) l' rk)],touch := [n] })
  | _ => False
 | _ => False
def compSpec : Spec := fun _ args hp nm k => match args with
 | [.v (.one (.full n))] => match hp n with
  | some (.row (.int .i64) l rk) => if rk = 0 ∨ rk = 3 then False else ob (decide (l.length < 1099511627776)) (True ∧ ∀ l',l' = compZ l → k { val := .v (.one (.full nm)),fresh := [.row (.int .i64) l' rk],writes := [(n,.gone)],touch := [n] })
  | _ => False
 | _ => False
abbrev encZ : Int → Value := Value.int .i64
theorem flatZ (l : List Int) : flatVals tI l = l.map encZ := by
 induction l with
 | nil => rfl
 | cons x r ih =>
  have : flatVals tI (x :: r) = encZ x :: flatVals tI r := rfl
  rw [this,ih]; rfl
theorem putRow_heap {w : World} {b : Nat} {xs ys : List Int} {rest : List Value} {e : TypeId} {fr : Nat × Nat} (h : w.heap[b]? = some (.cells (xs.map encZ ++ rest).toArray e fr)) (hl : ys.length = xs.length) :
  (Sort.putRow encZ w b 0 ys.toArray).heap[b]? = some (.cells (ys.map encZ ++ rest).toArray e fr) := by
 unfold Sort.putRow Sort.mapBlock
 simp only [Array.getElem?_modify,if_true,h,Option.map_some,Sort.onCells,Option.some.injEq,Obj.cells.injEq,and_true]
 unfold Sort.putCells
 apply Array.ext_getElem?
 intro k
 rw [Array.getElem?_mapIdx]
 simp only [List.getElem?_toArray,Nat.zero_le,true_and,Nat.zero_add,List.size_toArray,Nat.sub_zero]
 by_cases hk : k < ys.length
 ·rw [List.getElem?_append_left (by simpa using hl ▸ hk),List.getElem?_append_left (by simpa using hk)]
  have hkx : k < xs.length := hl ▸ hk
  simp only [List.getElem?_map,List.getElem?_eq_getElem hk,List.getElem?_eq_getElem hkx,Option.map_some,if_pos hk]
  rw [getElem!_pos ys.toArray k (by simpa using hk)]
  simp
 ·rw [List.getElem?_append_right (by simpa using by omega),List.getElem?_append_right (by simpa using by omega)]
  simp only [List.length_map,hl]
  have hk' : ¬ k < xs.length := hl ▸ hk
  cases rest[k - xs.length]? <;> simp [hk']
theorem putRow_heap_ne {w : World} {b b' : Nat} {d : Array Int} (h : b' ≠ b) : (Sort.putRow encZ w b 0 d).heap[b']? = w.heap[b']? := by
 unfold Sort.putRow Sort.mapBlock
 simp only [Array.getElem?_modify]
 rw [if_neg (Ne.symm h)]
theorem holdsZ {w : World} {b : Nat} {xs : List Int} {rest : List Value} {e : TypeId} (h : w.heap[b]? = some (.cells (xs.map encZ ++ rest).toArray e (0,0))) : Sort.Holds encZ w b 0 xs.toArray := by
 intro j hj
 have hj : j < xs.length := by simpa using hj
 refine ⟨?_,by simp [World.frozen?,h]⟩
 rw [Nat.zero_add,cell_of_heap h,List.getElem?_append_left (by simpa using hj),List.getElem?_map,List.getElem?_eq_getElem hj,getElem!_pos xs.toArray j (by simpa using hj)]
 simp
theorem grow_heap {w : World} {os : Array Obj} {b : Nat} (h : b < w.heap.size) : (Sort.grow w os).heap[b]? = w.heap[b]? := by
 unfold Sort.grow
 exact Array.getElem?_append_left h

theorem compact_le (l : List Int) : (Lib.compact l).length ≤ l.length := by
 unfold Lib.compact Lib.compactUpTo
 rw [List.length_map]
 exact Nat.le_trans (List.length_filter_le _ _) (by simp)

section
variable {P : Program} {f : FuncId}
theorem rowZ {bor : Bor} {W w : World} {ρ : Env} {Kn : Nat → Prop} {Γ : HP} {n rk : Nat} {l : List Int} (hst : St bor W ρ Kn Γ w) (hΓ : Γ n = some (.row tI l rk)) (hrk : rk ≠ 0) (hrk3 : rk ≠ 3) :
  (ρ n).len = l.length ∧ (ρ n).es = 1 ∧ l.length ≤ (ρ n).cap ∧ (((ρ n).blk = none ∧ l = [] ∧ (ρ n).cap = 0 ∧ (ρ n).base = none) ∨
   ∃ b rest e,(ρ n).blk = some b ∧ (ρ n).base = some ⟨b,0,none⟩ ∧ w.heap[b]? = some (.cells (l.map encZ ++ rest).toArray e (0,0)) ∧ (ρ n).cap = l.length + rest.length ∧ (ρ n).cap ≤ 9223372036854775807) := by
 obtain ⟨o1,o2,o3,sub,m1,m2,m3,m4⟩ := hst.at_ n _ hΓ
 refine ⟨o1,o2,o3,?_⟩
 rcases (m4 hrk).old hrk3 with h | ⟨b,rest,e,h1,h2,h3,h4,h5⟩
 ·exact .inl h
 ·rw [valsFrom_flat (u := tI) rfl,flatZ] at h3 h4
  refine .inr ⟨b,rest,e,h1,h2,h3,?_,h5⟩
  have : (ρ n).cap * 1 = _ := h4
  rw [Nat.mul_one,List.length_append,List.length_map] at this
  exact this
theorem objZ {fz pm : Nat → Prop} {ρ : Env} {n b rk : Nat} {w : World} {l : List Int} {rest : List Value} {e : TypeId} (hrk : rk ≠ 0) (h1 : (ρ n).len = l.length) (h2 : (ρ n).es = 1) (h3 : (ρ n).blk = some b) (h4 : (ρ n).base = some ⟨b,0,none⟩)
  (h5 : w.heap[b]? = some (.cells (l.map encZ ++ rest).toArray e (0,0))) (h6 : (ρ n).cap = l.length + rest.length) (h7 : (ρ n).cap ≤ 9223372036854775807) : objAt fz pm ρ n (.row tI l rk) w := by
 refine ⟨h1,h2,by omega,fun _ => (none,0),fun i v hv => ⟨_,h4,?_,fun e => absurd e hrk⟩,fun q u' l' hq => ?_,fun e => absurd e hrk,fun _ => OwnAt.new (.inr ⟨b,rest,e,h3,h4,?_,?_,h7⟩)⟩
 ·rw [valsFrom_flat (u := tI) rfl,flatZ] at hv
  have e1 : (⟨b,0,none⟩ : Addr).add i = ⟨b,i,none⟩ := by unfold Addr.add; split <;> simp_all
  rw [e1,cell_of_heap h5,List.getElem?_append_left (List.getElem?_eq_some_iff.1 hv).1]; exact hv
 ·obtain ⟨v,hv⟩ := flat_row (t := tI) rfl (List.mem_of_getElem? hq)
  cases hv
 ·rw [valsFrom_flat (u := tI) rfl,flatZ]; exact h5
 ·rw [valsFrom_flat (u := tI) rfl,flatZ]
  show (ρ n).cap * 1 = _
  rw [h6]; simp
theorem Fr.putZ {bor : Bor} {W w : World} {b m : Nat} {d : Array Int} (h : Fr bor W w) (hb : W.heap.size ≤ b ∨ bor b) : Fr bor W (Sort.putRow encZ (Sort.ahead w m) b 0 d) :=
 ⟨h.os,h.tape,h.output,by rw [Sort.size_putRow]; exact h.size,fun k hk hn => by
  rw [putRow_heap_ne (by rintro rfl; exact hb.elim (by omega) hn)]; exact h.block k hk hn,Nat.le_trans h.drw (Nat.le_add_right _ _)⟩
theorem Fr.growZ {bor : Bor} {W w : World} {os : Array Obj} (h : Fr bor W w) : Fr bor W (Sort.grow w os) :=
 ⟨h.os,h.tape,h.output,by have := h.size; simp only [Sort.grow,Array.size_append]; omega,fun k hk hn => by rw [grow_heap (by have := h.size; omega)]; exact h.block k hk hn,h.drw⟩
theorem sortSpec_ok (hS : ∀ (blk off cap : Nat) (zs : List Int) (w : World), Sort.Holds encZ w blk off zs.toArray → blk < w.heap.size → zs.length < 4611686018427387904 →
      Calls P f #[.slice (some ⟨blk, off, none⟩) zs.length cap] w fun e w' => e = .returned (.tuple #[]) ∧ ∃ n os, w' = Sort.grow (Sort.putRow encZ (Sort.ahead w n) blk off (zs.mergeSort fun x y => decide (x ≤ y)).toArray) os)
    (hN : ∀ (p : Option Addr) (cap : Nat) (w : World), Calls P f #[.slice p 0 cap] w fun e w' => e = .returned (.tuple #[]) ∧ w' = w) : SpecOk P f sortSpec := by
  intro X args hp nm k hs
  unfold sortSpec at hs
  split at hs <;> try (exact hs.elim)
  rename_i n
  split at hs <;> try (exact hs.elim)
  rename_i l rk he
  split at hs <;> try (exact hs.elim)
  rename_i hrk
  obtain ⟨hrk, hrk3⟩ := not_or.1 hrk
  obtain ⟨hlen, _, hk⟩ := ob_spec hs
  have hlen := of_decide_eq_true hlen
  refine ⟨_, ⟨fun p hp' => ?_, ?_⟩, hk _ rfl⟩
  · simp only [List.mem_singleton] at hp'; subst hp'; rw [he]; simp
  intro bor W ρ Kn Γ w _ hok ht hfr hst
  have hΓ : Γ n = some (.row tI l rk) := by rw [ht n (by simp), he]
  obtain ⟨z1, z2, z3, z4⟩ := rowZ hst hΓ hrk hrk3
  have eSt : knR Kn nm { val := und, writes := [(n, AObj.row (.int .i64) (sortZ l) rk)], touch := [n] } = Kn := knR_nil _ _ _ _ _
  have hl' : (sortZ l).length = l.length := List.length_mergeSort l
  have ea : ([AV.v (.one (.full n))].map (AV.conc ρ)).toArray = #[.slice (ρ n).base (ρ n).len (ρ n).cap] := rfl
  rcases z4 with ⟨_, rfl, h3, h4⟩ | ⟨b, rest, e0, h1, h2, h3, h4, h5⟩
  · rw [ea, z1]
    refine (hN _ _ w).mono ?_
    rintro e w' ⟨rfl, rfl⟩
    refine ⟨ρ, rfl, fun _ _ => rfl, und_ok _, ?_⟩
    rw [eSt, appH_write _ _ _ _ _ _ rfl]
    have e1 : sortZ [] = [] := by simp [sortZ]
    have : updH Γ n (.row (.int .i64) (sortZ []) rk) = Γ := by
      funext m; unfold updH; split
      · rename_i e2; subst e2; rw [e1]; exact hΓ.symm
      · rfl
    rw [this]; exact hst
  · rw [ea, z1, h2]
    have hb := hst.lt n b (by rw [hΓ]; rfl) (.inl h1)
    refine (hS b 0 _ l w (holdsZ h3) hb (by omega)).mono ?_
    rintro e w' ⟨rfl, m, os, rfl⟩
    refine ⟨ρ, rfl, fun _ _ => rfl, und_ok _, ?_⟩
    rw [eSt, appH_write _ _ _ _ _ _ rfl]
    have hown := hst.own n b (by rw [hΓ]; rfl) h1
    have hput : (Sort.putRow encZ (Sort.ahead w m) b 0 (sortZ l).toArray).heap[b]? = some (.cells ((sortZ l).map encZ ++ rest).toArray e0 (0, 0)) := putRow_heap (w := Sort.ahead w m) h3 hl'
    have hst1 : St bor W ρ Kn (updH Γ n (.row tI (sortZ l) rk)) (Sort.putRow encZ (Sort.ahead w m) b 0 (sortZ l).toArray) :=
      hst.writeW hΓ h1 trivial (fun _ h => by cases h) (hst.fr.putZ hown) (fun b' hb' => putRow_heap_ne hb') (by rw [Sort.size_putRow]; exact Nat.le_refl _)
        fun _ => objZ hrk (by rw [hl']; exact z1) z2 h1 h2 hput (by rw [hl']; exact h4) h5
    exact hst1.world hst1.fr.growZ fun b' hb' => grow_heap hb'
theorem moveZ {bor : Bor} {W w w' : World} {ρ : Env} {Kn : Nat → Prop} {Γ : HP} {n nm b rk : Nat} {l l' : List Int} {rest' : List Value} {e0 : TypeId} {tc : List Nat} {v : AV} (hst : St bor W ρ Kn Γ w) (hn : ¬ Kn nm) (hΓ : Γ n = some (.row tI l rk)) (hrk : rk ≠ 0)
  (h1 : (ρ n).blk = some b) (h2 : (ρ n).base = some ⟨b,0,none⟩) (h4 : (ρ n).cap = l'.length + rest'.length) (h5 : (ρ n).cap ≤ 9223372036854775807) (hf : Fr bor W w') (hne : ∀ b',b' ≠ b → w'.heap[b']? = w.heap[b']?) (hh : w'.heap[b]? = some (.cells (l'.map encZ ++ rest').toArray e0 (0,0))) :
  St bor W (updE ρ nm { ρ n with len := l'.length,es := 1,ents := [] }) (knR Kn nm { val := v,fresh := [.row (.int .i64) l' rk],writes := [(n,.gone)],touch := tc }) (appH { val := v,fresh := [.row (.int .i64) l' rk],writes := [(n,.gone)],touch := tc } nm Γ) w' := by
 rw [show knR Kn nm { val := v,fresh := [AObj.row (.int .i64) l' rk],writes := [(n,.gone)],touch := tc } = knN Kn nm by
  funext m; simp only [knR,knN,List.length_singleton]; congr 1; apply propext; omega]
 refine hst.swap (G := [n]) (o := AObj.row tI l' rk) (x := { ρ n with len := l'.length,es := 1,ents := [] }) hn hf (fun b' _ hb' => hne b' fun e => hb' (by rw [e]; exact h1)) (fun b' hb' => ⟨.inr ⟨n,by simp,by rw [hΓ]; rfl,hb'⟩,hst.own n b' (by rw [hΓ]; rfl) hb'⟩) (fun m p hp => ?_) trivial (fun _ h => by cases h) fun _ _ => ?_
 ·simp only [appH,List.length_singleton,lastW] at hp
  by_cases h6 : nm ≤ m ∧ m < nm + 1
  ·rw [if_pos h6,show m - nm = 0 by omega] at hp
   simp only [List.getElem?_cons_zero,live,Option.some.injEq] at hp
   exact .inl ⟨by omega,hp.symm⟩
  ·rw [if_neg h6] at hp
   by_cases h7 : m = n
   ·subst h7; simp [live] at hp
   ·refine .inr ⟨by omega,by simpa using h7,?_⟩
    simpa [Ne.symm h7,h7] using hp
 ·have hx : updE ρ nm { ρ n with len := l'.length,es := 1,ents := [] } nm = { ρ n with len := l'.length,es := 1,ents := [] } := by simp [updE]
  exact objZ hrk (by rw [hx]) (by rw [hx]) (by rw [hx]; exact h1) (by rw [hx]; exact h2) hh (by rw [hx]; exact h4) (by rw [hx]; exact h5)
theorem moveNil {bor : Bor} {W w : World} {ρ : Env} {Kn : Nat → Prop} {Γ : HP} {n nm rk : Nat} {tc : List Nat} {v : AV} (hst : St bor W ρ Kn Γ w) (hn : ¬ Kn nm) (hΓ : Γ n = some (.row tI [] rk)) (hrk : rk ≠ 0) (h1 : (ρ n).blk = none) (h2 : (ρ n).base = none) (h4 : (ρ n).cap = 0) :
  St bor W (updE ρ nm { ρ n with len := 0,es := 1,ents := [] }) (knR Kn nm { val := v,fresh := [.row (.int .i64) [] rk],writes := [(n,.gone)],touch := tc }) (appH { val := v,fresh := [.row (.int .i64) [] rk],writes := [(n,.gone)],touch := tc } nm Γ) w := by
 rw [show knR Kn nm { val := v,fresh := [AObj.row (.int .i64) [] rk],writes := [(n,.gone)],touch := tc } = knN Kn nm by
  funext m; simp only [knR,knN,List.length_singleton]; congr 1; apply propext; omega]
 refine hst.swap (G := [n]) (o := AObj.row tI [] rk) (x := { ρ n with len := 0,es := 1,ents := [] }) hn hst.fr (fun b' _ hb' => rfl) (fun b' hb' => by
  have : (ρ n).blk = some b' := hb'
  rw [h1] at this; cases this) (fun m p hp => ?_) trivial (fun _ h => by cases h) fun _ _ => ?_
 ·simp only [appH,List.length_singleton,lastW] at hp
  by_cases h6 : nm ≤ m ∧ m < nm + 1
  ·rw [if_pos h6,show m - nm = 0 by omega] at hp
   simp only [List.getElem?_cons_zero,live,Option.some.injEq] at hp
   exact .inl ⟨by omega,hp.symm⟩
  ·rw [if_neg h6] at hp
   by_cases h7 : m = n
   ·subst h7; simp [live] at hp
   ·refine .inr ⟨by omega,by simpa using h7,?_⟩
    simpa [Ne.symm h7,h7] using hp
 ·have hx : updE ρ nm { ρ n with len := 0,es := 1,ents := [] } nm = { ρ n with len := 0,es := 1,ents := [] } := by simp [updE]
  rw [objAt,hx]
  exact ⟨rfl,rfl,Nat.zero_le _,fun _ => (none,0),fun i v hv => by simp [rowComps,valsFrom] at hv,fun q u l' hq => by simp [rowComps] at hq,fun e => absurd e hrk,fun _ => .inl ⟨h1,rfl,h4,fun _ => h2⟩⟩
theorem compSpec_ok (hC : ∀ (blk off cap : Nat) (zs : List Int) (w : World), Sort.Holds encZ w blk off zs.toArray → zs.length ≤ 9223372036854775807 → zs.length ≤ cap →
      Calls P f #[.slice (some ⟨blk, off, none⟩) zs.length cap] w fun e w' => e = .returned (.slice (some ⟨blk, off, none⟩) (Lib.compact zs).length cap) ∧ ∃ q, w' = Sort.putRow encZ (Sort.ahead w q) blk off (Lib.compact zs ++ List.replicate (zs.length - (Lib.compact zs).length) 0).toArray)
    (hN : ∀ (a : Option Addr) (cap : Nat) (w : World), Calls P f #[.slice a 0 cap] w fun e w' => e = .returned (.slice a 0 cap) ∧ w' = w) : SpecOk P f compSpec := by
  intro X args hp nm k hs
  unfold compSpec at hs
  split at hs <;> try (exact hs.elim)
  rename_i n
  split at hs <;> try (exact hs.elim)
  rename_i l rk he
  split at hs <;> try (exact hs.elim)
  rename_i hrk
  obtain ⟨hrk, hrk3⟩ := not_or.1 hrk
  obtain ⟨hlen, _, hk⟩ := ob_spec hs
  have hlen := of_decide_eq_true hlen
  refine ⟨_, ⟨fun p hp' => ?_, ?_⟩, hk _ rfl⟩
  · simp only [List.mem_singleton] at hp'; subst hp'; rw [he]; simp
  intro bor W ρ Kn Γ w _ hok ht hfr hst
  have hn : ¬ Kn nm := by simpa using hfr 0 (by simp)
  have hΓ : Γ n = some (.row tI l rk) := by rw [ht n (by simp), he]
  obtain ⟨z1, z2, z3, z4⟩ := rowZ hst hΓ hrk hrk3
  have ea : ([AV.v (.one (.full n))].map (AV.conc ρ)).toArray = #[.slice (ρ n).base (ρ n).len (ρ n).cap] := rfl
  rcases z4 with ⟨h0, rfl, h3, h4⟩ | ⟨b, rest, e0, h1, h2, h3, h4, h5⟩
  · rw [ea, z1]
    refine (hN _ _ w).mono ?_
    rintro e w' ⟨rfl, rfl⟩
    refine ⟨_, ?_, updE_old hn, .inr (by simp), moveNil hst hn hΓ hrk h0 h4 h3⟩
    simp [AV.conc, A0.conc, Cell.conc, updE]
  · rw [ea, z1, h2]
    refine (hC b 0 _ l w (holdsZ h3) (by omega) z3).mono ?_
    rintro e w' ⟨rfl, m, rfl⟩
    have hcl := compact_le l
    have hown := hst.own n b (by rw [hΓ]; rfl) h1
    have hput : (Sort.putRow encZ (Sort.ahead w m) b 0 (Lib.compact l ++ List.replicate (l.length - (Lib.compact l).length) 0).toArray).heap[b]? = some (.cells ((compZ l).map encZ ++ (List.replicate (l.length - (Lib.compact l).length) (encZ 0) ++ rest)).toArray e0 (0, 0)) := by
      rw [putRow_heap (w := Sort.ahead w m) h3 (by simp; omega), List.map_append, List.map_replicate, List.append_assoc]; rfl
    have hcap : (ρ n).cap = (compZ l).length + (List.replicate (l.length - (Lib.compact l).length) (encZ 0) ++ rest).length := by
      rw [h4]; simp only [compZ, List.length_append, List.length_replicate]; omega
    refine ⟨_, ?_, updE_old hn, .inr (by simp), moveZ hst hn hΓ hrk h1 h2 hcap h5 (hst.fr.putZ hown) (fun b' hb' => putRow_heap_ne hb') hput⟩
    simp [AV.conc, A0.conc, Cell.conc, updE, h2, compZ]
end
end Go.Ev
