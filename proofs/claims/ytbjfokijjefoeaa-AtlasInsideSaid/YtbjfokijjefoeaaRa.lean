/- From the reading of a row's arguments to typed values; from a contract to the row. -/
import Derived.Test.YtbjfokijjefoeaaEvR
import Derived.Carry
import Derived.OpenShut
import Derived.JoinedOf
import Derived.JoinedAt
import Derived.ChangeMaps5
namespace Go.Ev
open Go.RowKit Go.ChangeShapes Go.WideShapes Go.ChangeAt

/-! ### Flat values -/
def vals : (y : Ty) → y.T → List Value
  | .int k, n => [.int k n]
  | .bool, b => [.bool b]
  | .str, s => [.string s]
  | .prod a b, x => vals a x.1 ++ vals b x.2
  | .sl _, _ => []
theorem vals_enc (ρ : Env) (rk : Nat) : ∀ (y : Ty), y.flat = true → ∀ (x : y.T) (nm : Nat) (r : List Comp), (encC rk nm (y.comps x ++ r)).1.map (Cell.conc ρ) = vals y x ++ (encC rk nm r).1.map (Cell.conc ρ) ∧ (encC rk nm (y.comps x ++ r)).2 = (encC rk nm r).2
  | .int k, _, x, nm, r => ⟨rfl, rfl⟩
  | .bool, _, x, nm, r => ⟨rfl, rfl⟩
  | .str, _, x, nm, r => ⟨rfl, rfl⟩
  | .prod a b, h, x, nm, r => by
    simp only [Ty.flat, Bool.and_eq_true] at h
    have h1 := vals_enc ρ rk a h.1 x.1 nm (b.comps x.2 ++ r)
    have h2 := vals_enc ρ rk b h.2 x.2 nm r
    simp only [Ty.comps, vals, List.append_assoc]
    exact ⟨by rw [h1.1, h2.1], by rw [h1.2, h2.2]⟩
  | .sl _, h, _, _, _ => by simp [Ty.flat] at h
theorem vals_len : ∀ (y : Ty), y.flat = true → ∀ (x : y.T), (vals y x).length = y.size
  | .int _, _, _ => rfl
  | .bool, _, _ => rfl
  | .str, _, _ => rfl
  | .prod a b, h, x => by
    simp only [Ty.flat, Bool.and_eq_true] at h
    simp only [vals, List.length_append, vals_len a h.1, vals_len b h.2, Ty.size]
  | .sl _, h, _ => by simp [Ty.flat] at h
def sizeB (tt : List (Nat × TI)) (t : TypeId) (a : Ty) : Bool := match lookN tt t with
  | some i => Nat.beq i.size a.size
  | none => false
def fieldsB (tt : List (Nat × TI)) (f : TypeId → Ty → Bool) : List Field → Nat → Ty → Bool
  | [], _, _ => false
  | [fl], o, y => Nat.beq fl.offset o && sizeB tt fl.type y && f fl.type y
  | fl :: r, o, .prod a b => Nat.beq fl.offset o && sizeB tt fl.type a && f fl.type a && fieldsB tt f r (o + a.size) b
  | _, _, _ => false
def elemsB (tt : List (Nat × TI)) (f : TypeId → Ty → Bool) (e : TypeId) : Nat → Ty → Bool
  | 0, _ => false
  | 1, y => sizeB tt e y && f e y
  | n + 1, .prod a b => sizeB tt e a && f e a && elemsB tt f e n b
  | _, _ => false
def shapeT (tt : List (Nat × TI)) : Nat → TypeId → Ty → Bool
  | 0, _, _ => false
  | k + 1, t, y => match lookN tt t with
    | none => false
    | some i => match i.desc, y with
      | .int k1, .int k2 => decide (k1 = k2)
      | .bool, .bool => true
      | .string, .str => true
      | .struct fs, y => Nat.beq i.size y.size && fieldsB tt (shapeT tt k) fs.toList 0 y
      | .array n e, y => Nat.beq i.size y.size && elemsB tt (shapeT tt k) e n y
      | _, _ => false
section
variable {H : Type} {enc : TypeId × Value → H} {P : Program} {w : World} {base : Nat} {sp : Nat → Bool} {hd : Bool} {tt : List (Nat × TI)}
theorem TOk.cells (h : TOk P tt) {t : TypeId} {i : TI} (ht : lookN tt t = some i) : P.cellsOf t = i.size := by
  obtain ⟨_, _, inf, h1, h2, _⟩ := h t i ht
  simp [Program.cellsOf, h1, h2]
theorem sizeB_cells (h : TOk P tt) {t : TypeId} {a : Ty} (hb : sizeB tt t a = true) : P.cellsOf t = a.size := by
  unfold sizeB at hb
  split at hb
  · rename_i i hi
    rw [h.cells hi]; exact Nat.eq_of_beq_eq_true hb
  · cases hb
theorem mapM_cons_some {α β : Type} {f : α → Option β} {a : α} {l : List α} {ys : List β} (h : (a :: l).mapM f = some ys) : ∃ y ys', f a = some y ∧ l.mapM f = some ys' ∧ ys = y :: ys' := by
  rw [List.mapM_cons] at h
  cases ha : f a with
  | none => rw [ha] at h; cases h
  | some y =>
    rw [ha] at h
    cases hl : l.mapM f with
    | none => rw [hl] at h; cases h
    | some ys' =>
      rw [hl] at h
      exact ⟨y, ys', rfl, rfl, (Option.some.inj h).symm⟩
theorem fields_read (hT : TOk P tt) {f : TypeId → Ty → Bool} {g : TypeId → List Value → Option (DataW H × List MemPlace)}
    (hf : ∀ t y cs d ps, f t y = true → y.flat = true → g t cs = some (d, ps) → ∃ x : y.T, cs = vals y x ∧ ps = []) (cs : List Value) :
    ∀ (fs : List Field) (o : Nat) (y : Ty) (xs : List (DataW H × List MemPlace)), fieldsB tt f fs o y = true → y.flat = true → cs.length = o + y.size →
      fs.mapM (fun fl => g fl.type ((cs.drop fl.offset).take (P.cellsOf fl.type))) = some xs → ∃ x : y.T, cs.drop o = vals y x ∧ xs.flatMap (·.2) = []
  | [], o, y, xs, hb, _, _, _ => by simp [fieldsB] at hb
  | [fl], o, y, xs, hb, hy, hl, h => by
    simp only [fieldsB, Bool.and_eq_true] at hb
    obtain ⟨⟨h1, h2⟩, h3⟩ := hb
    obtain ⟨z, zs, e1, e2, rfl⟩ := mapM_cons_some h
    cases e2
    rw [Nat.eq_of_beq_eq_true h1, sizeB_cells hT h2, List.take_of_length_le (by simp; omega)] at e1
    obtain ⟨x, e3, e4⟩ := hf _ _ _ _ _ h3 hy e1
    exact ⟨x, e3, by simp [e4]⟩
  | fl :: fl2 :: r, o, .prod a b, xs, hb, hy, hl, h => by
    simp only [fieldsB, Bool.and_eq_true] at hb
    obtain ⟨⟨⟨h1, h2⟩, h3⟩, h4⟩ := hb
    simp only [Ty.flat, Bool.and_eq_true] at hy
    simp only [Ty.size] at hl
    obtain ⟨z, zs, e1, e2, rfl⟩ := mapM_cons_some h
    rw [Nat.eq_of_beq_eq_true h1, sizeB_cells hT h2] at e1
    obtain ⟨x, e3, e4⟩ := hf _ _ _ _ _ h3 hy.1 e1
    obtain ⟨x', e5, e6⟩ := fields_read hT hf cs (fl2 :: r) (o + a.size) b zs (by simpa [fieldsB] using h4) hy.2 (by omega) e2
    refine ⟨(x, x'), ?_, by simp [e4, e6]⟩
    simp only [vals]
    rw [← e3, ← e5, ← List.drop_drop]
    exact (List.take_append_drop _ _).symm
  | fl :: fl2 :: r, o, .int _, xs, hb, _, _, _ => by simp [fieldsB] at hb
  | fl :: fl2 :: r, o, .bool, xs, hb, _, _, _ => by simp [fieldsB] at hb
  | fl :: fl2 :: r, o, .str, xs, hb, _, _, _ => by simp [fieldsB] at hb
  | fl :: fl2 :: r, o, .sl _, xs, hb, _, _, _ => by simp [fieldsB] at hb
theorem elems_read (hT : TOk P tt) {f : TypeId → Ty → Bool} {g : TypeId → List Value → Option (DataW H × List MemPlace)} {e : TypeId}
    (hf : ∀ t y cs d ps, f t y = true → y.flat = true → g t cs = some (d, ps) → ∃ x : y.T, cs = vals y x ∧ ps = []) (cs : List Value) :
    ∀ (n j : Nat) (y : Ty) (xs : List (DataW H × List MemPlace)), elemsB tt f e n y = true → y.flat = true → cs.length = j * P.cellsOf e + y.size →
      (List.range' j n).mapM (fun i => g e ((cs.drop (i * P.cellsOf e)).take (P.cellsOf e))) = some xs → ∃ x : y.T, cs.drop (j * P.cellsOf e) = vals y x ∧ xs.flatMap (·.2) = []
  | 0, j, y, xs, hb, _, _, _ => by simp [elemsB] at hb
  | 1, j, y, xs, hb, hy, hl, h => by
    simp only [elemsB, Bool.and_eq_true] at hb
    obtain ⟨z, zs, e1, e2, rfl⟩ := mapM_cons_some h
    cases e2
    have hs := sizeB_cells hT hb.1
    rw [List.take_of_length_le (by simp; omega)] at e1
    obtain ⟨x, e3, e4⟩ := hf _ _ _ _ _ hb.2 hy e1
    exact ⟨x, e3, by simp [e4]⟩
  | n + 2, j, .prod a b, xs, hb, hy, hl, h => by
    simp only [elemsB, Bool.and_eq_true] at hb
    obtain ⟨⟨h2, h3⟩, h4⟩ := hb
    simp only [Ty.flat, Bool.and_eq_true] at hy
    simp only [Ty.size] at hl
    rw [List.range'_succ] at h
    obtain ⟨z, zs, e1, e2, rfl⟩ := mapM_cons_some h
    have hs := sizeB_cells hT h2
    obtain ⟨x, e3, e4⟩ := hf _ _ _ _ _ h3 hy.1 e1
    have hj : (j + 1) * P.cellsOf e = j * P.cellsOf e + P.cellsOf e := by rw [Nat.add_mul, Nat.one_mul]
    obtain ⟨x', e5, e6⟩ := elems_read hT hf cs (n + 1) (j + 1) b zs h4 hy.2 (by rw [hj]; omega) e2
    refine ⟨(x, x'), ?_, by simp [e4, e6]⟩
    simp only [vals]
    rw [← e3, ← e5, hj, ← List.drop_drop]
    exact (List.take_append_drop _ _).symm
  | n + 2, j, .int _, xs, hb, _, _, _ => by simp [elemsB] at hb
  | n + 2, j, .bool, xs, hb, _, _, _ => by simp [elemsB] at hb
  | n + 2, j, .str, xs, hb, _, _, _ => by simp [elemsB] at hb
  | n + 2, j, .sl _, xs, hb, _, _, _ => by simp [elemsB] at hb
theorem flat_read (hT : TOk P tt) : ∀ (k : Nat) (t : TypeId) (y : Ty) (fuel : Nat) (cs : List Value) (d : DataW H) (ps : List MemPlace), shapeT tt k t y = true → y.flat = true → DataW.trod enc P w base sp hd fuel t cs = some (d, ps) → ∃ x : y.T, cs = vals y x ∧ ps = []
  | 0, t, y, fuel, cs, d, ps, hb, _, _ => by simp [shapeT] at hb
  | k + 1, t, y, 0, cs, d, ps, hb, _, h => by simp [DataW.trod] at h
  | k + 1, t, y, fuel + 1, cs, d, ps, hb, hy, h => by
    unfold shapeT at hb
    split at hb
    · cases hb
    rename_i i hi
    have hu := (hT t i hi).1
    have hc := hT.cells hi
    have ih : ∀ t y cs d ps, shapeT tt k t y = true → y.flat = true → DataW.trod enc P w base sp hd fuel t cs = some (d, ps) → ∃ x : y.T, cs = vals y x ∧ ps = [] := fun t y cs d ps => flat_read hT k t y fuel cs d ps
    split at hb
    · rename_i k1 k2 hd1
      simp only [decide_eq_true_eq] at hb
      subst hb
      rw [hd1] at hu
      obtain ⟨n, rfl, e, _⟩ := DataW.trod_int hu h
      cases e
      exact ⟨n, rfl, rfl⟩
    · rename_i hd1
      rw [hd1] at hu
      obtain ⟨b, rfl, e⟩ := DataW.trod_bool hu h
      cases e
      exact ⟨b, rfl, rfl⟩
    · rename_i hd1
      rw [hd1] at hu
      obtain ⟨b, rfl, e, _⟩ := DataW.trod_string hu h
      cases e
      exact ⟨b, rfl, rfl⟩
    · rename_i y _ _ fs hd1
      simp only [Bool.and_eq_true] at hb
      rw [hd1] at hu
      unfold DataW.trod at h
      rw [hu] at h
      dsimp only at h
      split at h
      · rename_i hl
        rw [hc, Nat.eq_of_beq_eq_true hb.1] at hl
        cases hm : fs.toList.mapM fun f => DataW.trod enc P w base sp hd fuel f.type ((cs.drop f.offset).take (P.cellsOf f.type)) with
        | none => rw [hm] at h; cases h
        | some xs =>
          rw [hm] at h
          simp only [Option.map_some, Option.some.injEq, Prod.mk.injEq] at h
          obtain ⟨x, e1, e2⟩ := fields_read hT ih cs fs.toList 0 y xs hb.2 hy (by omega) hm
          exact ⟨x, by simpa using e1, by rw [← h.2, e2]⟩
      · cases h
    · rename_i y _ _ n e hd1
      simp only [Bool.and_eq_true] at hb
      rw [hd1] at hu
      unfold DataW.trod at h
      rw [hu] at h
      dsimp only at h
      split at h
      · rename_i hl
        rw [hc, Nat.eq_of_beq_eq_true hb.1] at hl
        cases hm : (List.range n).mapM fun i => DataW.trod enc P w base sp hd fuel e ((cs.drop (i * P.cellsOf e)).take (P.cellsOf e)) with
        | none => rw [hm] at h; cases h
        | some xs =>
          rw [hm] at h
          simp only [Option.map_some, Option.some.injEq, Prod.mk.injEq] at h
          obtain ⟨x, e1, e2⟩ := elems_read hT ih cs n 0 y xs hb.2 hy (by omega) (by rw [← List.range_eq_range']; exact hm)
          exact ⟨x, by simpa using e1, by rw [← h.2, e2]⟩
      · cases h
    · cases hb

/-! ### Arguments -/
def parB1 (tt : List (Nat × TI)) (t : TypeId) : Par → Bool
  | .agg y => (match lookN tt t with | some i => isAggD i.desc | none => false) && y.flat && shapeT tt 20 t y
  | .one y => match lookN tt t with
    | some i => match i.desc, y with
      | .int k, .int k' => decide (k = k')
      | .bool, .bool => true
      | .string, .str => true
      | _, _ => false
    | none => false
  | _ => false
def parB (tt : List (Nat × TI)) : List TypeId → Par → Bool
  | [], .none => true
  | [t], p => parB1 tt t p
  | t :: ts, .pair a b => parB1 tt t a && parB tt ts b
  | _, _ => false
theorem encC_raw (rk : Nat) : ∀ (y : Ty), y.flat = true → ∀ (x : y.T) (nm : Nat) (r : List Comp), (∀ c ∈ (encC rk nm r).1, ∃ v, c = .raw v) → ∀ c ∈ (encC rk nm (y.comps x ++ r)).1, ∃ v, c = .raw v
  | .int _, _, _, nm, r, hr, c, hc => by
    rcases List.mem_cons.1 hc with rfl | hc
    · exact ⟨_, rfl⟩
    · exact hr c hc
  | .bool, _, _, nm, r, hr, c, hc => by
    rcases List.mem_cons.1 hc with rfl | hc
    · exact ⟨_, rfl⟩
    · exact hr c hc
  | .str, _, _, nm, r, hr, c, hc => by
    rcases List.mem_cons.1 hc with rfl | hc
    · exact ⟨_, rfl⟩
    · exact hr c hc
  | .prod a b, h, x, nm, r, hr, c, hc => by
    simp only [Ty.flat, Bool.and_eq_true] at h
    simp only [Ty.comps, List.append_assoc] at hc
    exact encC_raw rk a h.1 x.1 nm (b.comps x.2 ++ r) (encC_raw rk b h.2 x.2 nm r hr) c hc
  | .sl _, h, _, _, _, _, _, _ => by simp [Ty.flat] at h
/-- What an argument is. -/
structure ArgIs (ρ : Env) (nm : Nat) (p : Par) (x : p.ty.T) (vs : List Value) : Prop where
  vals : vs = (encP 0 nm p x).1.map (A0.conc ρ)
  none : (encP 0 nm p x).2 = []
  ok : ∀ a ∈ (encP 0 nm p x).1, AV.ok (fun _ => False) (.v a)
theorem par_read (hT : TOk P tt) (ρ : Env) (nm : Nat) {r : Reach} {b0 : Nat} : ∀ (p : Par) (t : TypeId) (v : Value) (d : DataW H) (ps : List MemPlace), parB1 tt t p = true → Value.okWide P w r b0 t v → DataW.Trod enc P w base sp hd t v d ps →
    ∃ x : p.ty.T, ArgIs ρ nm p x [v] ∧ ps = []
  | .agg y, t, v, d, ps, hb, hv, h => by
    simp only [parB1, Bool.and_eq_true] at hb
    obtain ⟨⟨h1, h2⟩, h3⟩ := hb
    split at h1
    rotate_left
    · cases h1
    rename_i i hi
    have hu := (hT t i hi).1
    obtain ⟨fuel, hf⟩ := h
    obtain ⟨x, e1, e2⟩ := flat_read hT 20 t y fuel _ d ps h3 h2 hf
    obtain ⟨cs, rfl⟩ : ∃ cs, v = .agg cs := by
      unfold Value.okWide at hv
      rw [hu] at hv
      cases hd' : i.desc <;> rw [hd'] at hv h1 <;> first | (obtain ⟨cs, e, _⟩ := hv; exact ⟨cs, e⟩) | (simp [isAggD] at h1)
    have e1 : cs.toList = vals y x := e1
    have hv := vals_enc ρ 0 y h2 x nm []
    simp only [List.append_nil] at hv
    refine ⟨x, ⟨?_, ?_, fun a ha => ?_⟩, e2⟩
    · have e3 : (encC 0 nm (y.comps x)).1.map (Cell.conc ρ) = cs.toList := by rw [hv.1, e1]; simp [encC]
      simp only [encP, encA, List.map_cons, List.map_nil, A0.conc, e3]
    · simp only [encP]; rw [hv.2]; rfl
    · simp only [encP, encA, List.mem_singleton] at ha
      subst ha
      intro c hc
      have := encC_raw 0 y h2 x nm [] (fun c hc => by simp [encC] at hc) c (by simpa using hc)
      obtain ⟨v', rfl⟩ := this
      trivial
  | .one y, t, v, d, ps, hb, hv, h => by
    simp only [parB1] at hb
    split at hb
    rotate_left
    · cases hb
    rename_i i hi
    have hu := (hT t i hi).1
    split at hb
    · rename_i k k' hd1
      simp only [decide_eq_true_eq] at hb
      subst hb
      rw [hd1] at hu
      obtain ⟨n, rfl, _, rfl, _⟩ := open_int hu hv h
      exact ⟨n, ⟨rfl, rfl, fun a ha => by simp only [encP, Ty.comps, encC, encA, List.mem_singleton] at ha; subst ha; trivial⟩, rfl⟩
    · rename_i hd1
      rw [hd1] at hu
      obtain ⟨n, rfl, _, rfl⟩ := open_bool hu hv h
      exact ⟨n, ⟨rfl, rfl, fun a ha => by simp only [encP, Ty.comps, encC, encA, List.mem_singleton] at ha; subst ha; trivial⟩, rfl⟩
    · rename_i hd1
      rw [hd1] at hu
      obtain ⟨n, rfl, _, rfl, _⟩ := Go.ChangeMaps.open_string hu hv h
      exact ⟨n, ⟨rfl, rfl, fun a ha => by simp only [encP, Ty.comps, encC, encA, List.mem_singleton] at ha; subst ha; trivial⟩, rfl⟩
    · cases hb
  | .ptr _, _, _, _, _, hb, _, _ => by simp [parB1] at hb
  | .clo _ _, _, _, _, _, hb, _, _ => by simp [parB1] at hb
  | .mv _ _ _, _, _, _, _, hb, _, _ => by simp [parB1] at hb
  | .pair _ _, _, _, _, _, hb, _, _ => by simp [parB1] at hb
  | .none, _, _, _, _, hb, _, _ => by simp [parB1] at hb
theorem args_read (hT : TOk P tt) (ρ : Env) {r : Reach} {b0 : Nat} : ∀ (ts : List TypeId) (p : Par) (nm : Nat) (vs : List Value) (ds : List (DataW H)) (ps : List MemPlace), parB tt ts p = true →
    (∀ (j : Nat) t v, ts[j]? = some t → vs[j]? = some v → Value.okWide P w r b0 t v) → DataW.TrodAll enc P w base sp hd ts vs ds ps → ∃ x : p.ty.T, ArgIs ρ nm p x vs
  | [], p, nm, vs, ds, ps, hb, _, h => by
    cases p <;> simp [parB] at hb
    obtain ⟨rfl, _, _⟩ := trodAll_nil h
    exact ⟨false, rfl, rfl, fun a ha => by simp [encP] at ha⟩
  | [t], p, nm, vs, ds, ps, hb, hv, h => by
    obtain ⟨v, vs', d, ds', p0, q0, rfl, rfl, rfl, h1, h2⟩ := trodAll_cons h
    obtain ⟨rfl, rfl, rfl⟩ := trodAll_nil h2
    obtain ⟨x, hx, _⟩ := par_read hT ρ nm p t v d p0 (by simpa [parB] using hb) (hv 0 t v rfl rfl) h1
    exact ⟨x, hx⟩
  | t :: t2 :: ts, .pair a b, nm, vs, ds, ps, hb, hv, h => by
    simp only [parB, Bool.and_eq_true] at hb
    obtain ⟨v, vs', d, ds', p0, q0, rfl, rfl, rfl, h1, h2⟩ := trodAll_cons h
    obtain ⟨x, hx, _⟩ := par_read hT ρ nm a t v d p0 hb.1 (hv 0 t v rfl rfl) h1
    obtain ⟨y, hy⟩ := args_read hT ρ (t2 :: ts) b (nm + (encP 0 nm a x).2.length) vs' ds' q0 (by simpa [parB] using hb.2) (fun j t' v' ht hv' => hv (j + 1) t' v' (by simpa using ht) (by simpa using hv')) h2
    refine ⟨(x, y), ?_, ?_, fun a ha => ?_⟩
    · show [v] ++ vs' = ((encP 0 nm a x).1 ++ (encP 0 (nm + (encP 0 nm a x).2.length) b y).1).map (A0.conc ρ)
      rw [List.map_append, ← hx.vals, ← hy.vals]
    · show (encP 0 nm a x).2 ++ (encP 0 (nm + (encP 0 nm a x).2.length) b y).2 = []
      rw [hy.none, hx.none]; rfl
    · simp only [encP, List.mem_append] at ha
      rcases ha with ha | ha
      · exact hx.ok a ha
      · exact hy.ok a ha
  | t :: t2 :: ts, .agg _, _, _, _, _, hb, _, _ => by simp [parB] at hb
  | t :: t2 :: ts, .one _, _, _, _, _, hb, _, _ => by simp [parB] at hb
  | t :: t2 :: ts, .ptr _, _, _, _, _, hb, _, _ => by simp [parB] at hb
  | t :: t2 :: ts, .clo _ _, _, _, _, _, hb, _, _ => by simp [parB] at hb
  | t :: t2 :: ts, .mv _ _ _, _, _, _, _, hb, _, _ => by simp [parB] at hb
  | t :: t2 :: ts, .none, _, _, _, _, hb, _, _ => by simp [parB] at hb
end

/-! ### The row -/
section
variable {H : Type} {enc : TypeId × Value → H} {P : Program} {tt : List (Nat × TI)}
theorem trodAll_stays (hl : laidOutB P = true) {W W' : World} (hb : Below W.heap.size W W') : ∀ (ts : List TypeId) (vs : List Value) (ds : List (DataW H)) (ps : List MemPlace), (ts.all fun t => P.readableRec t && decide (t < P.types.size)) = true →
    (∀ x ∈ ps, x.block < W.heap.size) → DataW.TrodAll enc P W 0 (fun _ => true) true ts vs ds ps → DataW.TrodAll enc P W' 0 (fun b => decide (b < W.heap.size)) true ts vs ds ps
  | [], vs, ds, ps, _, _, h => by
    obtain ⟨rfl, rfl, rfl⟩ := trodAll_nil h
    exact trodAll_mk0
  | t :: ts, vs, ds, ps, hr, hlt, h => by
    simp only [List.all_cons, Bool.and_eq_true, decide_eq_true_eq] at hr
    obtain ⟨v, vs', d, ds', p0, q0, rfl, rfl, rfl, h1, h2⟩ := trodAll_cons h
    exact trodAll_cons_mk (Below.trod hl hr.1.1 hr.1.2 h1 hb fun x hx => hlt x (List.mem_append_left _ hx)) (trodAll_stays hl hb ts vs' ds' q0 hr.2 (fun x hx => hlt x (List.mem_append_right _ hx)) h2)
theorem trodAll_len {W : World} {base : Nat} {sp : Nat → Bool} {hd : Bool} : ∀ (ts : List TypeId) (vs : List Value) (ds : List (DataW H)) (ps : List MemPlace), DataW.TrodAll enc P W base sp hd ts vs ds ps → ds.length = ts.length
  | [], vs, ds, ps, h => by
    obtain ⟨rfl, rfl, rfl⟩ := trodAll_nil h
    rfl
  | t :: ts, vs, ds, ps, h => by
    obtain ⟨v, vs', d, ds', p0, q0, rfl, rfl, rfl, h1, h2⟩ := trodAll_cons h
    simp [trodAll_len ts vs' ds' q0 h2]
theorem Fr.below {bor : Nat → Prop} {W w : World} (h : Fr bor W w) (hn : ∀ k, ¬ bor k) : Below W.heap.size W w := ⟨h.os, h.tape, h.output, h.size, fun k hk => h.block k hk (hn k)⟩
/-- A law whose arguments hold no slices: it answers true, the arguments stay. -/
theorem law_contract (hT : TOk P tt) {n : FuncId} {fn : Func} {s : ChangeSpec} {S : FnS} {tb : TypeId} (hS : SpecOk P n (fnSpec S)) (hpre : ∀ x, S.pre x) (hf : ∀ x ρ, AV.conc ρ (resV (encP 2 0 S.r (S.f x)).1) = .bool true)
    (hp : parB tt fn.params.toList S.p = true) (hdec : ∀ x, decP (fun _ => none) S.p ((encP 0 0 S.p x).1.map .v) = some (x, [], [], true))
    (hl : laidOutB P = true) (hr : (fn.params.toList.all fun t => P.readableRec t && decide (t < P.types.size)) = true) (hv : s.vars = [])
    (hs : ∀ (H : Type) (ds : List (DataW H)), ds.length = fn.params.toList.length → s.fn H ds = { results := [.lit (.bool true)], args := ds })
    (hres : fn.resultTypes = #[tb]) (hb : P.underlying tb = some .bool)
    (W : World) (base : Nat) (args : Array Value) (ds gs : List (DataW H)) (before : List MemPlace)
    (hval : ∀ (j : Nat) t v, fn.params[j]? = some t → args[j]? = some v → Value.okWide P W .any base t v)
    (hW : DataW.Whole enc P fn.params.toList s.vars false W args.toList ds gs before) :
    Calls P n args W fun e W' => ∃ v, e = .returned v ∧ s.post enc P fn false true false false W args v W' := by
  have hW' := hW
  obtain ⟨p, q, hA, hV, rfl, hfz, hnd⟩ := hW
  rw [hv] at hV
  obtain ⟨rfl, rfl⟩ := trodVars_none hV
  rw [List.append_nil] at hW'
  obtain ⟨x, hx⟩ := args_read hT (fun _ => {}) fn.params.toList S.p 0 args.toList ds p hp (fun j t v h1 h2 => hval j t v (by simpa using h1) (by simpa using h2)) hA
  obtain ⟨r, ⟨_, hc⟩, hk⟩ := hS noX ((encP 0 0 S.p x).1.map .v) (fun _ => none) 0 (fun r => ∀ ρ, AV.conc ρ r.val = .bool true) (by
    unfold fnSpec
    rw [hdec x]
    exact ⟨hpre x, fun y hy ρ => by rw [hy]; exact hf x ρ⟩)
  have hcalls := hc noB W (fun _ => {}) (fun _ => False) (fun _ => none) W (fun a v h => h.elim) (fun a ha => by
    obtain ⟨a0, h1, rfl⟩ := List.mem_map.1 ha
    exact hx.ok a0 h1) (fun _ _ => rfl) (fun _ _ h => h) (St.none W _)
  have e : (((encP 0 0 S.p x).1.map AV.v).map (AV.conc fun _ => {})).toArray = args := by
    rw [List.map_map]
    have : (AV.conc fun _ => {}) ∘ AV.v = A0.conc fun _ => {} := rfl
    rw [this, ← hx.vals]
  rw [e] at hcalls
  refine hcalls.mono fun e' W' ⟨ρ', he, _, _, hst⟩ => ?_
  rw [hk ρ'] at he
  have hbelow := hst.fr.below fun _ h => h
  have hlen := trodAll_len _ _ _ _ hA
  refine ⟨_, he, ds, [], p, [], p, [], hW', ?_, ?_, ?_, hbelow.frame _, fun h => by cases h⟩
  · rw [List.append_nil, hs H ds hlen, hres]
    exact trodAll_mk1 (shut_bool hb true)
  · rw [List.append_nil, hs H ds hlen]
    exact trodAll_stays hl hbelow _ _ _ _ hr (fun y hy => by simpa using hW'.lt y hy) hA
  · rw [List.append_nil, hs H ds hlen, hv]
    rfl
end
end Go.Ev
