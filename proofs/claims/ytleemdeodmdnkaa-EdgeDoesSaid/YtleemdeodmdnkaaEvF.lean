/- Regions in the text's order; code. -/
import Derived.Test.YtleemdeodmdnkaaEvE
import Derived.TacticsIn
noncomputable section
set_option linter.unusedSectionVars false
set_option linter.unusedVariables false
set_option linter.unusedSimpArgs false
namespace Go.Ev
open Go.RowKit

structure AtS (bor : Bor) (W : World) (df : List Deferred) (st : AS) (ρ : Env) (a : Act) (w : World) : Prop where
 tmps : ∀ t,nthD st.tmps t ≠ .dead → a.tmps.getD t undef = (nthD st.tmps t).conc ρ
 size : a.tmps.size = st.tmps.length
 defers : a.defers = df
 kn : ∀ t,(nthD st.tmps t).ok (· < st.heap.length)
 st : St bor W ρ (· < st.heap.length) (liveAt st.heap) w

theorem nthD_eq : ∀ (l : List AV) (t:Nat),nthD l t = l.getD t und
 | [],t => by simp [nthD]
 | a :: r,0 => rfl
 | a :: r,t + 1 => by simp [nthD,nthD_eq r t]
theorem nthD_set (l : List AV) (d t:Nat) (v : AV) : nthD (l.set d v) t = if t = d ∧ d < l.length then v else nthD l t := by
 simp only [nthD_eq,List.getD,List.getElem?_set]
 by_cases h : d = t
 ·subst h
  by_cases h2 : d < l.length
  ·simp [h2]
  ·simp [h2]
 ·simp [h,Ne.symm h]
theorem set_same {l : List AV} {d : Nat} {x : Bool} (h : nthD l d = boolV x) : l.set d (boolV x) = l := by
 apply List.ext_getElem?
 intro j
 rw [List.getElem?_set]
 split
 ·rename_i e; subst e
  rw [nthD_eq,List.getD] at h
  split
  ·rename_i hl
   rw [List.getElem?_eq_getElem hl] at h ⊢
   simpa using h.symm
  ·rename_i hl
   rw [List.getElem?_eq_none (Nat.le_of_not_lt hl)]
 ·rfl

theorem put_getD (a : Act) (dst : Option Nat) (v : Value) (t:Nat) : (a.put dst v).tmps.getD t undef = match dst with | some d => (if t = d ∧ d < a.tmps.size then v else a.tmps.getD t undef) | none => a.tmps.getD t undef := by
 cases dst with
 | none => rfl
 | some d =>
  simp only [Act.put,Array.getD_eq_getD_getElem?,Array.getElem?_setIfInBounds]
  by_cases h : d = t
  ·subst h
   by_cases h2 : d < a.tmps.size
   ·simp [h2]
   ·simp [h2]
  ·simp [h,Ne.symm h]

theorem fold_set_length : ∀ (ws : List (Nat × AObj)) (h : List AObj),(ws.foldl (fun h p => h.set p.1 p.2) h).length = h.length
 | [],_ => rfl
 | p :: r,h => by simp only [List.foldl_cons]; rw [fold_set_length r]; simp
theorem fold_set_get : ∀ (ws : List (Nat × AObj)) (h : List AObj),(∀ p ∈ ws,p.1 < h.length) → ∀ m,(ws.foldl (fun h p => h.set p.1 p.2) h)[m]? = match lastW ws m with | some o => some o | none => h[m]?
 | [],_,_,m => by simp [lastW]
 | p :: r,h,hl,m => by
  simp only [List.foldl_cons]
  rw [fold_set_get r _ (fun q hq => by simpa using hl q (by simp [hq]))]
  simp only [lastW]
  cases hr : lastW r m with
  | some o => rfl
  | none =>
   simp only [List.getElem?_set]
   by_cases e : p.1 = m
   ·subst e; simp [hl p (by simp)]
   ·simp [e]

theorem app_heap_length (st : AS) (dst : Option Nat) (r : Rec) : (st.app dst r).heap.length = st.heap.length + r.fresh.length := by
 simp [AS.app,fold_set_length]
theorem app_live (st : AS) (dst : Option Nat) (r : Rec) (hw : ∀ p ∈ r.writes,liveAt st.heap p.1 ≠ none) : liveAt (st.app dst r).heap = appH r st.heap.length (liveAt st.heap) := by
 have hl : ∀ p ∈ r.writes,p.1 < st.heap.length := fun p hp => by
  rcases Nat.lt_or_ge p.1 st.heap.length with h | h
  ·exact h
  ·exact absurd (by rw [live_liveAt,List.getElem?_eq_none h]; rfl) (hw p hp)
 funext m
 simp only [appH,live_liveAt,AS.app]
 by_cases h : st.heap.length ≤ m ∧ m < st.heap.length + r.fresh.length
 ·rw [if_pos h,List.getElem?_append_right (by rw [fold_set_length]; exact h.1),fold_set_length]
 ·rw [if_neg h]
  rcases Nat.lt_or_ge m st.heap.length with h2 | h2
  ·rw [List.getElem?_append_left (by rw [fold_set_length]; exact h2),fold_set_get _ _ hl]
   cases lastW r.writes m <;> rfl
  ·have hnone : lastW r.writes m = none := by
    have : ∀ (ws : List (Nat × AObj)),(∀ p ∈ ws,p.1 < st.heap.length) → lastW ws m = none := by
     intro ws
     induction ws with
     | nil => intro _; rfl
     | cons p q ih =>
      intro hh
      simp only [lastW,ih (fun x hx => hh x (by simp [hx]))]
      have := hh p (by simp)
      rw [if_neg (by omega)]
    exact this _ hl
   rw [hnone,List.getElem?_eq_none (by simp [fold_set_length]; omega),List.getElem?_eq_none h2]

theorem setTmp_length (l : List AV) (d : Option Nat) (v : AV) : (setTmp l d v).length = l.length := by cases d <;> simp [setTmp]
theorem nthD_setTmp (l : List AV) (d : Option Nat) (v : AV) (t:Nat) : nthD (setTmp l d v) t = match d with | some d => (if t = d ∧ d < l.length then v else nthD l t) | none => nthD l t := by
 cases d <;> simp [setTmp,nthD_set]

section
variable {bor : Bor} {W : World} {df : List Deferred} {st : AS} {ρ : Env} {a : Act} {w : World}

theorem AtS.eval (h : AtS bor W df st ρ a w) (x : Operand) (hx : evalE st.tmps x ≠ .dead) : a.eval x = (evalE st.tmps x).conc ρ := by
 cases x with
 | tmp t => exact h.tmps t hx
 | const v => exact (ofV_conc v ρ).symm
 | global g => rfl
 | func f => rfl
theorem AtS.evalok (h : AtS bor W df st ρ a w) (x : Operand) : (evalE st.tmps x).ok (· < st.heap.length) := by
 cases x with
 | tmp t => exact h.kn t
 | const v => exact ofV_ok _ _
 | global g => trivial
 | func f => exact fun r hr => absurd hr (by simp)

theorem put_size (a : Act) (d : Option Nat) (v : Value) : (a.put d v).tmps.size = a.tmps.size := by cases d <;> simp [Act.put]
theorem put_defers (a : Act) (d : Option Nat) (v : Value) : (a.put d v).defers = a.defers := by cases d <;> rfl

theorem AtS.app (h : AtS bor W df st ρ a w) {dst : Option Nat} {r : Rec} (hw : ∀ p ∈ r.writes,liveAt st.heap p.1 ≠ none) {ρ' : Env} {w' : World} (hag : ∀ m,m < st.heap.length → ρ' m = ρ m)
  (hvk : r.val.ok (knR (· < st.heap.length) st.heap.length r)) (hst : St bor W ρ' (knR (· < st.heap.length) st.heap.length r) (appH r st.heap.length (liveAt st.heap)) w') :
  AtS bor W df (st.app dst r) ρ' (a.put dst (r.val.conc ρ')) w' := by
 have hkn : knR (· < st.heap.length) st.heap.length r = (· < (st.app dst r).heap.length) := by
  funext m; rw [app_heap_length]; simp only [knR]; apply propext; omega
 rw [hkn,← app_live st dst r hw] at hst
 rw [hkn] at hvk
 refine ⟨fun t => ?_,by rw [put_size,h.size]; simp [AS.app,setTmp_length],by rw [put_defers,h.defers],fun t => ?_,hst⟩
 ·rw [put_getD]
  simp only [AS.app,nthD_setTmp]
  have hold : nthD st.tmps t ≠ .dead → a.tmps.getD t undef = (nthD st.tmps t).conc ρ' := fun hd => by rw [h.tmps t hd]; exact (AV.conc_congr hag _ (h.kn t)).symm
  cases dst with
  | none => exact hold
  | some d =>
   simp only [h.size]
   split
   ·intro _; rfl
   ·exact hold
 ·have hold : (nthD st.tmps t).ok (· < (st.app dst r).heap.length) := AV.ok_mono (fun m hm => by rw [app_heap_length]; omega) _ (h.kn t)
  simp only [AS.app,nthD_setTmp]
  cases dst with
  | none => exact hold
  | some d =>
   dsimp only
   split
   ·exact hvk
   ·exact hold

theorem AtS.skip (h : AtS bor W df st ρ a w) (dst : Option Nat) : AtS bor W df { st with tmps := setTmp st.tmps dst und } ρ (a.put dst undef) w := by
 refine ⟨fun t => ?_,by rw [put_size,h.size]; simp [setTmp_length],by rw [put_defers,h.defers],fun t => ?_,h.st⟩
 ·rw [put_getD]
  simp only [nthD_setTmp]
  cases dst with
  | none => exact h.tmps t
  | some d =>
   simp only [h.size]
   split
   ·intro _; rfl
   ·exact h.tmps t
 ·simp only [nthD_setTmp]
  cases dst with
  | none => exact h.kn t
  | some d =>
   dsimp only
   split
   ·exact und_ok _
   ·exact h.kn t

def renE (π : List Src) (Γ : HP) (ρ : Env) : Env := fun n => match π[n]? with
 | some (.same m) => ρ m
 | some .nil => match Γ n with
  | some (.row t _ _) => { es := t.size }
  | _ => {}
 | some (.cells m len) => match Γ n with
  | some (.row t _ _) => { blk := (ρ m).blk,base := addrOf ρ m 0,len := len,cap := len,es := t.size }
  | _ => { base := addrOf ρ m 0,len := len,cap := len }
 | some (.mt m off) => match Γ n with
  | some (.row t _ _) => { base := addrOf ρ m off,es := t.size }
  | _ => { base := addrOf ρ m off }
 | some (.any m) => ρ m
 | none => {}
section
variable {π : List Src} {Γ : HP}
theorem renE_same {n m : Nat} (h : π[n]? = some (.same m)) : renE π Γ ρ n = ρ m := by simp [renE,h]
theorem renN_spec {n m : Nat} (h : renN π n = some m) : renE π Γ ρ n = ρ m ∧ n < π.length := by
 unfold renN at h
 split at h
 ·rename_i m' he
  cases h
  exact ⟨renE_same he,(List.getElem?_eq_some_iff.1 he).1⟩
 ·cases h
theorem renRefs_spec : ∀ (l m : List Ref),renRefs π l = some m → l.map (Ref.conc (renE π Γ ρ)) = m.map (Ref.conc ρ) ∧ ∀ r ∈ l,r.ok (· < π.length)
 | [],m,h => by simp only [renRefs,Option.some.injEq] at h; subst h; simp
 | r :: l,m,h => by
  simp only [renRefs] at h
  split at h
  ·rename_i q m' h1 h2
   cases h
   obtain ⟨e1,e2⟩ := renRefs_spec l m' h2
   have h3 : r.conc (renE π Γ ρ) = q.conc ρ ∧ r.ok (· < π.length) := by
    cases r with
    | ext v => simp only [renRef,Option.some.injEq] at h1; subst h1; exact ⟨rfl,trivial⟩
    | loc n o =>
     simp only [renRef] at h1
     split at h1
     ·rename_i k hk; cases h1
      obtain ⟨e3,e4⟩ := renN_spec (Γ := Γ) (ρ := ρ) hk
      exact ⟨by simp [Ref.conc,addrOf,e3],e4⟩
     ·cases h1
    | elem n j =>
     simp only [renRef] at h1
     split at h1
     ·rename_i k hk; cases h1
      obtain ⟨e3,e4⟩ := renN_spec (Γ := Γ) (ρ := ρ) hk
      exact ⟨by simp [Ref.conc,e3],e4⟩
     ·cases h1
    | full n =>
     simp only [renRef] at h1
     split at h1
     ·rename_i k hk; cases h1
      obtain ⟨e3,e4⟩ := renN_spec (Γ := Γ) (ρ := ρ) hk
      exact ⟨by simp [Ref.conc,e3],e4⟩
     ·cases h1
    | mp n =>
     simp only [renRef] at h1
     split at h1
     ·rename_i k hk; cases h1
      obtain ⟨e3,e4⟩ := renN_spec (Γ := Γ) (ρ := ρ) hk
      exact ⟨by simp [Ref.conc,e3],e4⟩
     ·cases h1
   refine ⟨by simp [h3.1,e1],fun x hx => ?_⟩
   rcases List.mem_cons.1 hx with rfl | hx
   ·exact h3.2
   ·exact e2 x hx
  ·cases h
theorem renC_spec : ∀ (c q : Cell),renC π c = some q → c.conc (renE π Γ ρ) = q.conc ρ ∧ c.ok (· < π.length)
 | .raw v,q,h => by simp only [renC,Option.some.injEq] at h; subst h; exact ⟨rfl,trivial⟩
 | .ptr n o,q,h => by
  simp only [renC] at h
  split at h
  ·rename_i k hk; cases h
   obtain ⟨e3,e4⟩ := renN_spec (Γ := Γ) (ρ := ρ) hk
   exact ⟨by simp [Cell.conc,addrOf,e3],e4⟩
  ·cases h
 | .aptr n o,q,h => by
  simp only [renC] at h
  split at h
  ·rename_i k hk; cases h
   obtain ⟨e3,e4⟩ := renN_spec (Γ := Γ) (ρ := ρ) hk
   exact ⟨by simp [Cell.conc,addrOf,e3],e4⟩
  ·cases h
 | .sl n o l c,q,h => by
  simp only [renC] at h
  split at h
  ·rename_i k hk; cases h
   obtain ⟨e3,e4⟩ := renN_spec (Γ := Γ) (ρ := ρ) hk
   exact ⟨by simp [Cell.conc,addrOf,e3],e4⟩
  ·cases h
 | .eptr n j z,q,h => by
  simp only [renC] at h
  split at h
  ·rename_i k hk; cases h
   obtain ⟨e3,e4⟩ := renN_spec (Γ := Γ) (ρ := ρ) hk
   exact ⟨by simp [Cell.conc,e3],e4⟩
  ·cases h
 | .eaptr n j z,q,h => by
  simp only [renC] at h
  split at h
  ·rename_i k hk; cases h
   obtain ⟨e3,e4⟩ := renN_spec (Γ := Γ) (ρ := ρ) hk
   exact ⟨by simp [Cell.conc,e3],e4⟩
  ·cases h
 | .yld n,q,h => by
  simp only [renC] at h
  split at h
  ·rename_i k hk; cases h
   obtain ⟨e3,e4⟩ := renN_spec (Γ := Γ) (ρ := ρ) hk
   exact ⟨by simp [Cell.conc,e3],e4⟩
  ·cases h
 | .mp n,q,h => by
  simp only [renC] at h
  split at h
  ·rename_i k hk; cases h
   obtain ⟨e3,e4⟩ := renN_spec (Γ := Γ) (ρ := ρ) hk
   exact ⟨by simp [Cell.conc,e3],e4⟩
  ·cases h
 | .mv f a rs,q,h => by
  simp only [renC] at h
  split at h
  ·rename_i k hk; cases h
   obtain ⟨e3,e4⟩ := renRefs_spec (Γ := Γ) (ρ := ρ) _ _ hk
   exact ⟨by simp only [Cell.conc,e3],e4⟩
  ·cases h
 | .clo f a cap,q,h => by
  simp only [renC] at h
  split at h
  ·rename_i k hk; cases h
   obtain ⟨e3,e4⟩ := renRefs_spec (Γ := Γ) (ρ := ρ) _ _ hk
   exact ⟨by simp only [Cell.conc,e3],e4⟩
  ·cases h
 | .full n,q,h => by
  simp only [renC] at h
  split at h
  ·rename_i m he
   cases h
   exact ⟨by simp [Cell.conc,renE_same he],(List.getElem?_eq_some_iff.1 he).1⟩
  ·rename_i he
   cases h
   refine ⟨?_,(List.getElem?_eq_some_iff.1 he).1⟩
   simp only [Cell.conc,renE,he]
   split <;> rfl
  ·rename_i m len he
   cases h
   refine ⟨?_,(List.getElem?_eq_some_iff.1 he).1⟩
   simp only [Cell.conc,renE,he]
   split <;> rfl
  ·rename_i m off he
   cases h
   refine ⟨?_,(List.getElem?_eq_some_iff.1 he).1⟩
   simp only [Cell.conc,renE,he]
   split <;> rfl
  ·rename_i m he
   cases h
   exact ⟨by simp only [Cell.conc,renE,he],(List.getElem?_eq_some_iff.1 he).1⟩
  ·cases h
theorem renCs_spec : ∀ (l m : List Cell),renCs π l = some m → l.map (Cell.conc (renE π Γ ρ)) = m.map (Cell.conc ρ) ∧ ∀ r ∈ l,r.ok (· < π.length)
 | [],m,h => by simp only [renCs,Option.some.injEq] at h; subst h; simp
 | r :: l,m,h => by
  simp only [renCs] at h
  split at h
  ·rename_i q m' h1 h2
   cases h
   obtain ⟨e1,e2⟩ := renCs_spec l m' h2
   obtain ⟨e3,e4⟩ := renC_spec (Γ := Γ) (ρ := ρ) _ _ h1
   refine ⟨by simp [e3,e1],fun x hx => ?_⟩
   rcases List.mem_cons.1 hx with rfl | hx
   ·exact e4
   ·exact e2 x hx
  ·cases h
theorem renA_spec (a q : A0) (h : renA π a = some q) : a.conc (renE π Γ ρ) = q.conc ρ ∧ a.ok (· < π.length) := by
 cases a with
 | one c =>
  simp only [renA] at h
  split at h
  ·rename_i k hk; cases h; exact renC_spec _ _ hk
  ·cases h
 | agg cs =>
  simp only [renA] at h
  split at h
  ·rename_i k hk; cases h
   obtain ⟨e1,e2⟩ := renCs_spec (Γ := Γ) (ρ := ρ) _ _ hk
   exact ⟨by simp only [A0.conc,e1],e2⟩
  ·cases h
theorem renAs_spec : ∀ (l m : List A0),renAs π l = some m → l.map (A0.conc (renE π Γ ρ)) = m.map (A0.conc ρ) ∧ ∀ r ∈ l,r.ok (· < π.length)
 | [],m,h => by simp only [renAs,Option.some.injEq] at h; subst h; simp
 | r :: l,m,h => by
  simp only [renAs] at h
  split at h
  ·rename_i q m' h1 h2
   cases h
   obtain ⟨e1,e2⟩ := renAs_spec l m' h2
   obtain ⟨e3,e4⟩ := renA_spec (Γ := Γ) (ρ := ρ) _ _ h1
   refine ⟨by simp [e3,e1],fun x hx => ?_⟩
   rcases List.mem_cons.1 hx with rfl | hx
   ·exact e4
   ·exact e2 x hx
  ·cases h
theorem renV_spec (a q : AV) (h : renV π a = some q) : a.conc (renE π Γ ρ) = q.conc ρ ∧ a.ok (· < π.length) := by
 cases a with
 | v a =>
  simp only [renV] at h
  split at h
  ·rename_i k hk; cases h; exact renA_spec _ _ hk
  ·cases h
 | tup l =>
  simp only [renV] at h
  split at h
  ·rename_i k hk; cases h
   obtain ⟨e1,e2⟩ := renAs_spec (Γ := Γ) (ρ := ρ) _ _ hk
   exact ⟨by simp only [AV.conc,e1],e2⟩
  ·cases h
 | dead => cases h
theorem tmpsR_spec : ∀ (l m : List AV),tmpsR π l m → m.length = l.length ∧ ∀ t,nthD m t = .dead ∨ renV π (nthD m t) = some (nthD l t)
 | [],[],_ => ⟨rfl,fun t => .inr rfl⟩
 | x :: r,.dead :: s,h => by
  obtain ⟨h1,h2⟩ := tmpsR_spec r s h
  exact ⟨by simp [h1],fun t => by cases t with | zero => exact .inl rfl | succ t => exact h2 t⟩
 | x :: r,.v y :: s,h => by
  obtain ⟨h1,h2⟩ := tmpsR_spec r s h.2
  exact ⟨by simp [h1],fun t => by cases t with | zero => exact .inr h.1 | succ t => exact h2 t⟩
 | x :: r,.tup y :: s,h => by
  obtain ⟨h1,h2⟩ := tmpsR_spec r s h.2
  exact ⟨by simp [h1],fun t => by cases t with | zero => exact .inr h.1 | succ t => exact h2 t⟩
 | [],_ :: _,h => h.elim
 | _ :: _,[],h => h.elim
theorem heapR_spec {h0 : List AObj} : ∀ (ss : List Src) (l : List AObj),heapR π h0 ss l → ss.length = l.length ∧ ∀ n o,liveAt l n = some o → ∃ s,ss[n]? = some s ∧ objR π h0 s o
 | [],[],_ => ⟨rfl,fun n o ho => by simp [liveAt] at ho⟩
 | s :: r,o :: l,h => by
  have main : heapR π h0 r l → (liveAt (o :: l) 0 = some o → objR π h0 s o) → (s :: r).length = (o :: l).length ∧ ∀ n p,liveAt (o :: l) n = some p → ∃ q,(s :: r)[n]? = some q ∧ objR π h0 q p := fun h1 h2 => by
   obtain ⟨e1,e2⟩ := heapR_spec r l h1
   refine ⟨by simp [e1],fun n p hp => ?_⟩
   cases n with
   | zero =>
    have : p = o := by
     rw [live_liveAt] at hp
     cases o <;> simp_all [live]
    subst this
    exact ⟨s,rfl,h2 hp⟩
   | succ n => exact e2 n p (by simpa [liveAt] using hp)
  cases o with
  | gone => exact main h fun h => by simp [liveAt] at h
  | _ => exact main h.2 fun _ => h.1
 | [],_ :: _,h => by unfold heapR at h; exact h.elim
 | _ :: _,[],h => by unfold heapR at h; exact h.elim
theorem srcs_mem : ∀ (ss : List Src) (l : List AObj) (n m:Nat) (s : Src),(liveAt l n).isSome = true → ss[n]? = some s → srcB s = some m → m ∈ srcs ss l
 | [],_,n,m,s,_,h,_ => by simp at h
 | _ :: _,[],n,m,s,h,_,_ => by simp [liveAt] at h
 | q :: r,o :: l,n,m,s,h1,h2,h3 => by
  have tail : ∀ k,n = k + 1 → m ∈ srcs r l := fun k e => by
   subst e
   exact srcs_mem r l k m s (by simpa [liveAt] using h1) (by simpa using h2) h3
  cases n with
  | zero =>
   simp only [List.getElem?_cons_zero,Option.some.injEq] at h2
   subst h2
   cases o with
   | gone => simp [liveAt] at h1
   | _ => simp [srcs,h3]
  | succ n =>
   have := tail n rfl
   cases o with
   | gone => exact this
   | _ => simp only [srcs]; split <;> simp [this]
theorem srcs_inj : ∀ (ss : List Src) (l : List AObj),(srcs ss l).Nodup → ∀ n n' m s s',(liveAt l n).isSome = true → (liveAt l n').isSome = true → ss[n]? = some s → ss[n']? = some s' → srcB s = some m → srcB s' = some m → n = n'
 | [],_,_,n,_,_,s,_,_,_,h,_,_,_ => by simp at h
 | _ :: _,[],_,n,_,_,s,_,h,_,_,_,_,_ => by simp [liveAt] at h
 | q :: r,o :: l,hn,n,n',m,s,s',h1,h2,h3,h4,h5,h6 => by
  have hz : ∀ k,(liveAt (o :: l) 0).isSome = true → srcB q = some m → (liveAt (o :: l) (k + 1)).isSome = true → ∀ s,(q :: r)[k + 1]? = some s → srcB s = some m → False := fun k g1 g2 g3 s g4 g5 => by
   have := srcs_mem r l k m s (by simpa [liveAt] using g3) (by simpa using g4) g5
   cases o with
   | gone => simp [liveAt] at g1
   | _ =>
    simp only [srcs,g2] at hn
    exact (List.nodup_cons.1 hn).1 this
  have hr : (srcs r l).Nodup := by
   cases o with
   | gone => exact hn
   | _ =>
    simp only [srcs] at hn
    split at hn
    ·exact (List.nodup_cons.1 hn).2
    ·exact hn
  cases n with
  | zero =>
   cases n' with
   | zero => rfl
   | succ n' =>
    simp only [List.getElem?_cons_zero,Option.some.injEq] at h3
    subst h3
    exact (hz n' h1 h5 h2 s' h4 h6).elim
  | succ n =>
   cases n' with
   | zero =>
    simp only [List.getElem?_cons_zero,Option.some.injEq] at h4
    subst h4
    exact (hz n h2 h6 h1 s h3 h5).elim
   | succ n' =>
    rw [srcs_inj r l hr n n' m s s' (by simpa [liveAt] using h1) (by simpa [liveAt] using h2) (by simpa using h3) (by simpa using h4) h5 h6]
theorem fixedB_spec : ∀ (n:Nat),fixedB π n = true → ∀ m,m < n → π[m]? = some (.same m)
 | 0,_,m,hm => by omega
 | n + 1,h,m,hm => by
  simp only [fixedB,Bool.and_eq_true] at h
  by_cases e : m = n
  ·subst e
   have h1 := h.1
   split at h1
   ·rename_i k hk
    rw [hk]; simp at h1; rw [h1]
   ·cases h1
  ·exact fixedB_spec n h.2 m (by omega)
end

theorem renO_itr {π : List Src} {g c : Nat} {es : Array MapEntry} {clk : Nat} {ka : Bool} {k u : Ty} {l : List (k.T × List u.T)} {cur : Option (k.T × Nat)} {p : AObj} (h : renO π (.itr g c es clk ka k u l cur) = some p) :
  ∃ m d cur',renN π g = some m ∧ renN π c = some d ∧ (∀ q,cur = some q → ∃ q',renN π q.2 = some q' ∧ cur' = some (q.1,q')) ∧ p = .itr m d es clk ka k u l cur' := by
 simp only [renO] at h
 cases h1 : renN π g with
 | none => rw [h1] at h; cases h
 | some m =>
  cases h2 : renN π c with
  | none => rw [h1,h2] at h; cases h
  | some d =>
   rw [h1,h2] at h
   cases cur with
   | none =>
    cases h
    exact ⟨m,d,none,rfl,rfl,fun q hq => (by cases hq),rfl⟩
   | some q =>
    obtain ⟨a,q⟩ := q
    dsimp only at h
    cases h3 : renN π q with
    | none => rw [h3] at h; cases h
    | some q' =>
     rw [h3] at h
     cases h
     exact ⟨m,d,_,rfl,rfl,fun p hp => (by cases hp; exact ⟨q',h3,rfl⟩),rfl⟩
theorem AtS.weakE (h : AtS bor W df st ρ a w) {st' : AS} {π : List Src} (hw : Ren π st st') : AtS bor W df st' (renE π (liveAt st'.heap) ρ) a w := by
 obtain ⟨hl,ht⟩ := tmpsR_spec _ _ hw.tmps
 obtain ⟨hpl,hh⟩ := heapR_spec _ _ hw.heap
 have hnd := nodupL_spec hw.inj
 let ρ' := renE π (liveAt st'.heap) ρ
 have hlt : ∀ n o,liveAt st'.heap n = some o → n < st'.heap.length := fun n o ho => by
  rcases Nat.lt_or_ge n st'.heap.length with hn | hn
  ·exact hn
  ·simp [liveAt,List.getElem?_eq_none hn] at ho
 have hsrc : ∀ n b,(liveAt st'.heap n).isSome = true → (ρ' n).has b → ∃ s m,π[n]? = some s ∧ srcB s = some m ∧ (liveAt st.heap m).isSome = true ∧ (ρ m).has b := fun n b hn hb => by
  obtain ⟨o,ho⟩ := Option.isSome_iff_exists.1 hn
  obtain ⟨s,hs,hob⟩ := hh n o ho
  cases s with
  | same m =>
   obtain ⟨p,hp,_⟩ := hob
   refine ⟨_,m,hs,rfl,by simp [hp],?_⟩
   rw [← show ρ' n = ρ m from renE_same hs]; exact hb
  | nil =>
   obtain ⟨t,rk,rfl,_⟩ := hob
   simp only [ρ',renE,hs,ho] at hb; exact absurd (has_mk.1 hb) (fun h => by cases h)
  | mt m off =>
   obtain ⟨t,cs,e,rfl,_⟩ := hob
   simp only [ρ',renE,hs,ho] at hb; exact absurd (has_mk.1 hb) (fun h => by cases h)
  | any m =>
   obtain ⟨t,l,rk,rfl,hp,_⟩ := hob
   simp only [ρ',renE,hs] at hb
   exact ⟨_,m,hs,rfl,by simp [hp],hb⟩
  | cells m len =>
   obtain ⟨t,l,cs,e,rk,rfl,_,hp,_⟩ := hob
   simp only [ρ',renE,hs,ho] at hb
   exact ⟨_,m,hs,rfl,by simp [hp],.inl (has_mk.1 hb)⟩
 have hHI : ∀ b,HI (liveAt st'.heap) b → HI (liveAt st.heap) b := fun b ⟨n,S,h1,h2⟩ => by
  obtain ⟨s,hs,hob⟩ := hh n _ h1
  cases s with
  | same m =>
   obtain ⟨p,hp,hr⟩ := hob
   simp only [renO,Option.some.injEq] at hr
   subst hr
   exact ⟨m,S,hp,h2⟩
  | nil => obtain ⟨_,_,e,_⟩ := hob; cases e
  | mt m off => obtain ⟨_,_,_,e,_⟩ := hob; cases e
  | any m => obtain ⟨_,_,_,e,_⟩ := hob; cases e
  | cells m len => obtain ⟨_,_,_,_,_,e,_⟩ := hob; cases e
 have hfz : ∀ b,fzB ρ (liveAt st.heap) w b → fzB ρ' (liveAt st'.heap) w b ∧ w.heap[b]? = w.heap[b]? := fun b hb => by
  refine ⟨⟨hb.1,?_⟩,rfl⟩
  rintro (⟨n,h1,h2⟩ | ⟨n,S,h1,h2⟩)
  ·obtain ⟨s,m,_,_,h5,h6⟩ := hsrc n b h1 h2
   exact hb.2 (.inl ⟨m,h5,h6⟩)
  ·exact hb.2 (.inr (hHI b ⟨n,S,h1,h2⟩))
 show AtS bor W df st' ρ' a w
 refine ⟨fun t hd => ?_,by rw [h.size,hl],h.defers,fun t => ?_,⟨h.st.fr,fun n o ho => ?_,fun n o ho => ?_,fun n n' b hn hn' hb hb' => ?_,fun n b hn hb => ?_,fun b hh' => ?_,fun n o ho => ?_⟩⟩
 rotate_right
 ·obtain ⟨s,hs,hob⟩ := hh n o ho
  cases s with
  | same m =>
   obtain ⟨p,hp,hr⟩ := hob
   rw [show ρ' n = ρ m from renE_same hs]
   rcases h.st.noe m p hp with ⟨g,rfl⟩ | he
   ·cases o with
    | set g' => exact .inl ⟨_,rfl⟩
    | _ =>
     simp only [renO] at hr
     first
     | (cases hr; done)
     | (split at hr <;> cases hr)
     | (split at hr <;> first | (cases hr; done) | (split at hr <;> cases hr))
   ·exact .inr he
  | nil =>
   obtain ⟨t,rk,rfl,_⟩ := hob
   exact .inr (by simp only [ρ',renE,hs,ho])
  | mt m off =>
   obtain ⟨t,cs,e,rfl,_⟩ := hob
   exact .inr (by simp only [ρ',renE,hs,ho])
  | any m =>
   obtain ⟨t,l,rk,rfl,hp,_⟩ := hob
   refine .inr ?_
   simp only [ρ',renE,hs]
   exact (h.st.noe m _ hp).elim (fun ⟨_,e⟩ => by cases e) id
  | cells m len =>
   obtain ⟨t,l,cs,e,rk,rfl,_⟩ := hob
   exact .inr (by simp only [ρ',renE,hs,ho])
 rotate_right
 ·obtain ⟨h1,h2⟩ := h.st.hid b (hHI b hh')
  refine ⟨h1,?_⟩
  rintro ⟨n,h3,h4⟩
  obtain ⟨s,m,_,_,h5,h6⟩ := hsrc n b h3 h4
  exact h2 ⟨m,h5,h6⟩
 ·rcases ht t with e | e
  ·exact absurd e hd
  ·have hne : nthD st.tmps t ≠ .dead := fun e2 => by
    rw [e2] at e
    revert e; cases nthD st'.tmps t <;> simp only [renV] <;> (try split) <;> intro e <;> cases e
   rw [h.tmps t hne]
   exact (renV_spec _ _ e).1.symm
 ·rcases ht t with e | e
  ·rw [e]; trivial
  ·rw [← hpl]; exact (renV_spec (Γ := liveAt st'.heap) (ρ := ρ) _ _ e).2
 ·obtain ⟨s,hs,hob⟩ := hh n o ho
  cases s with
  | same m =>
   obtain ⟨p,hp,hr⟩ := hob
   have hn : ρ' n = ρ m := renE_same hs
   have hat := h.st.at_ m p hp
   cases o with
   | cells cs e =>
    simp only [renO] at hr
    split at hr
    ·rename_i q hq
     cases hr
     obtain ⟨b,hb,hhp⟩ := hat
     exact ⟨b,by rw [hn]; exact hb,by rw [hhp,(renCs_spec (Γ := liveAt st'.heap) (ρ := ρ) _ _ hq).1]⟩
    ·cases hr
   | row t l rk =>
    simp only [renO,Option.some.injEq] at hr
    subst hr
    obtain ⟨o1,o2,o3,sub,o4⟩ := hat
    rw [objAt,hn]
    exact ⟨o1,o2,o3,sub,o4.keep hfz (fun _ _ h => h) fun _ _ => rfl⟩
   | alias k z q =>
    simp only [renO] at hr
    split at hr
    ·rename_i k' hk
     cases hr
     have := (renN_spec (Γ := liveAt st'.heap) (ρ := ρ) hk).1
     rw [objAt,hn,show ρ' k = ρ k' from this]
     exact hat
    ·cases hr
   | gone => cases hr
   | loop r z j =>
    simp only [renO,Option.some.injEq] at hr
    subst hr
    obtain ⟨b,hb,hhp⟩ := hat
    exact ⟨b,by rw [hn]; exact hb,hhp⟩
   | hide S =>
    simp only [renO,Option.some.injEq] at hr
    subst hr
    rw [objAt,hn]; exact hat
   | map ka va kt vt l =>
    simp only [renO,Option.some.injEq] at hr
    subst hr
    rw [objAt,hn]; exact hat
   | pin ρ0 n0 =>
    simp only [renO] at hr
    split at hr
    ·rename_i hf
     cases hr
     exact ⟨by rw [hn]; exact hat.1,fun i hi => by rw [show ρ' i = ρ i from renE_same (fixedB_spec n0 hf i hi)]; exact hat.2 i hi⟩
    ·cases hr
   | dp t l c s0 kn =>
    simp only [renO] at hr
    split at hr
    ·rename_i c' hc
     cases hr
     have := (renN_spec (Γ := liveAt st'.heap) (ρ := ρ) hc).1
     rw [objAt,hn,show ρ' c = ρ c' from this]
     exact hat
    ·cases hr
   | nv g c j q u =>
    simp only [renO] at hr
    split at hr
    ·rename_i g' c' hg hc
     cases hr
     have e := (renN_spec (Γ := liveAt st'.heap) (ρ := ρ) hc).1
     have e' := (renN_spec (Γ := liveAt st'.heap) (ρ := ρ) hg).1
     rw [objAt,hn,show ρ' c = ρ c' from e,show ρ' g = ρ g' from e']; exact hat
    ·cases hr
   | grp ka k u l c q =>
    simp only [renO] at hr
    split at hr
    ·rename_i c' hc
     cases hr
     have e := (renN_spec (Γ := liveAt st'.heap) (ρ := ρ) hc).1
     rw [objAt,hn,show ρ' c = ρ c' from e]; exact hat
    ·cases hr
   | set g =>
    simp only [renO] at hr
    split at hr
    ·cases hr
     rw [objAt,hn]; exact hat
    ·cases hr
   | gv g c k u x l =>
    simp only [renO] at hr
    split at hr
    ·rename_i g' c' hg hc
     cases hr
     have e := (renN_spec (Γ := liveAt st'.heap) (ρ := ρ) hc).1
     rw [objAt,hn,show ρ' c = ρ c' from e]; exact hat
    ·cases hr
   | rc cs =>
    simp only [renO] at hr
    split at hr
    ·rename_i q hq
     cases hr
     rw [objAt,hn]
     refine ⟨hat.1,fun i c hc => ?_⟩
     have e := (renCs_spec (Γ := liveAt st'.heap) (ρ := ρ) _ _ hq).1
     have e1 : (cs.map (Cell.conc ρ'))[i]? = some (c.conc ρ') := by rw [List.getElem?_map,hc]; rfl
     rw [show cs.map (Cell.conc ρ') = q.map (Cell.conc ρ) from e,List.getElem?_map] at e1
     obtain ⟨d,hd,e2⟩ := Option.map_eq_some_iff.1 e1
     rw [← e2]
     obtain ⟨a,h1,h2,h3⟩ := hat.2 i d hd
     exact ⟨a,h1,h2,(hfz _ h3).1⟩
    ·cases hr
   | hmap es clk =>
    simp only [renO,Option.some.injEq] at hr
    subst hr
    rw [objAt,hn]; exact hat
   | itr g c es clk ka k u l cur =>
    have key : ∀ (m' d:Nat) (cur' : Option (k.T × Nat)),renN π g = some m' → renN π c = some d → (∀ q,cur = some q → ∃ q',renN π q.2 = some q' ∧ cur' = some (q.1,q')) → objAt (fzB ρ (liveAt st.heap) w) (pmB bor W) ρ m (.itr m' d es clk ka k u l cur') w → objAt (fzB ρ' (liveAt st'.heap) w) (pmB bor W) ρ' n (.itr g c es clk ka k u l cur) w := by
     intro m' d cur' hg hc hcur hat
     have e1 : ρ' g = ρ m' := (renN_spec (Γ := liveAt st'.heap) (ρ := ρ) hg).1
     have e2 : ρ' c = ρ d := (renN_spec (Γ := liveAt st'.heap) (ρ := ρ) hc).1
     rw [objAt] at hat
     rw [objAt,hn,e1,e2]
     obtain ⟨a1,a2,a3,b,since,seen,c0,a4,a5,a6,a7,a8,a9,a10,a11⟩ := hat
     refine ⟨a1,a2,a3,b,since,seen,c0,a4,a5,a6,a7,a8,a9,a10,fun q hq => ?_⟩
     obtain ⟨q',h1,h2⟩ := hcur q hq
     have e3 : ρ' q.2 = ρ q' := (renN_spec (Γ := liveAt st'.heap) (ρ := ρ) h1).1
     rw [e3]
     exact a11 _ h2
    obtain ⟨m',d,cur',h1,h2,h3,rfl⟩ := renO_itr hr
    exact key m' d cur' h1 h2 h3 hat
  | nil =>
   obtain ⟨t,rk,rfl,hrk⟩ := hob
   have e : ρ' n = { es := t.size } := by simp only [ρ',renE,hs,ho]
   rw [objAt,e]
   exact ⟨rfl,rfl,Nat.le_refl _,fun _ => (none,0),fun i v hv => by simp [rowComps,valsFrom] at hv,fun q u l' hq => by simp [rowComps] at hq,fun e => absurd e hrk,fun _ => .inl ⟨rfl,rfl,rfl,fun _ => rfl⟩⟩
  | mt m off =>
   obtain ⟨t,cs,e,rfl,hp⟩ := hob
   have e1 : ρ' n = { base := addrOf ρ m off,es := t.size } := by simp only [ρ',renE,hs,ho]
   rw [objAt,e1]
   exact ⟨rfl,rfl,Nat.le_refl _,fun _ => (none,0),fun i v hv => by simp [rowComps,valsFrom] at hv,fun q u l' hq => by simp [rowComps] at hq,fun e => (by cases e),fun _ => .inl ⟨rfl,rfl,rfl,fun q => absurd rfl q⟩⟩
  | any m =>
   obtain ⟨t,l,rk,rfl,hp,hrk⟩ := hob
   have e1 : ρ' n = ρ m := by simp only [ρ',renE,hs]
   obtain ⟨o1,o2,o3,sub,o4⟩ := h.st.at_ m _ hp
   obtain ⟨m1,m2,m3,m4⟩ := o4.keep (fz' := fzB ρ' (liveAt st'.heap) w) (pm' := pmB bor W) hfz (fun _ _ h => h) fun _ _ => rfl
   rw [objAt,e1]
   exact ⟨o1,o2,o3,sub,fun i v hv => by
    obtain ⟨a,h1,h2,_⟩ := m1 i v hv
    exact ⟨a,h1,h2,fun e => by cases e⟩,fun q u l' hq => (m2 q u l' hq).mono fun b hb => ⟨⟨hb.1,fun e => by cases e⟩,rfl⟩,fun e => (by cases e),fun _ => (m4 hrk).any⟩
  | cells m len =>
   obtain ⟨t,l,cs,e,rk,rfl,hrk,hp,hf,hd,hcl⟩ := hob
   obtain ⟨b,hb,hhp⟩ := h.st.at_ m _ hp
   have e1 : ρ' n = { blk := some b,base := some ⟨b,0,none⟩,len := len,cap := len,es := t.size } := by simp only [ρ',renE,hs,ho,addrOf,hb,Option.map_some]
   obtain ⟨hll,ys,r,hy,hyl,hal⟩ := decN_spec (flat_shallow hf) _ _ _ _ hd
   have hr : r = [] := List.eq_nil_of_length_eq_zero (by have := congrArg List.length hy; rw [List.length_append] at this; omega)
   subst hr
   rw [List.append_nil] at hy
   have hal := hal noB w ρ (fun _ => False) (fun _ => none) w (fun _ hm => by cases hm) (St.none w ρ)
   rw [← hy] at hal
   obtain ⟨s1,s2⟩ := subOf_vals hal
   rw [objAt,e1]
   refine ⟨hll.symm,rfl,by rw [hll]; exact Nat.le_refl _,subOf (cs.map (Cell.conc ρ)),fun i v hv => ⟨_,rfl,?_,fun e => (by rcases hrk with rfl | rfl <;> cases e)⟩,fun q u l' hq => ?_,fun e => (by rcases hrk with rfl | rfl <;> cases e),fun _ => OwnAt.new (.inr ⟨b,[],e,rfl,rfl,by rw [s1,List.append_nil]; exact hhp,?_⟩)⟩
   ·rw [s1] at hv
    have e2 : (⟨b,0,none⟩ : Addr).add i = ⟨b,i,none⟩ := by unfold Addr.add; split <;> simp_all
    rw [e2,cell_of_heap hhp]; exact hv
   ·obtain ⟨v,hv⟩ := flat_row hf (List.mem_of_getElem? hq)
    cases hv
   ·exact ⟨by rw [s1,List.append_nil]; simp [hcl.1],Nat.le_trans (Nat.le_of_ble_eq_true hcl.2) (by decide)⟩
 ·obtain ⟨s,hs,hob⟩ := hh n o ho
  refine ⟨hlt n o ho,?_⟩
  cases s with
  | same m =>
   obtain ⟨p,hp,hr⟩ := hob
   cases o with
   | cells cs e =>
    simp only [renO] at hr
    split at hr
    ·rename_i q hq
     rw [← hpl]; exact (renCs_spec (Γ := liveAt st'.heap) (ρ := ρ) _ _ hq).2
    ·cases hr
   | alias k z q =>
    simp only [renO] at hr
    split at hr
    ·rename_i k' hk
     rw [← hpl]; exact (renN_spec (Γ := liveAt st'.heap) (ρ := ρ) hk).2
    ·cases hr
   | pin ρ0 n0 =>
    simp only [renO] at hr
    split at hr
    ·rename_i hf
     intro i hi
     rw [← hpl]; exact (List.getElem?_eq_some_iff.1 (fixedB_spec n0 hf i hi)).1
    ·cases hr
   | grp ka k u l c q =>
    simp only [renO] at hr
    split at hr
    ·rename_i c' hc
     rw [← hpl]; exact (renN_spec (Γ := liveAt st'.heap) (ρ := ρ) hc).2
    ·cases hr
   | set g =>
    simp only [renO] at hr
    split at hr
    ·rename_i c' hc
     rw [← hpl]; exact (renN_spec (Γ := liveAt st'.heap) (ρ := ρ) hc).2
    ·cases hr
   | dp t l c =>
    simp only [renO] at hr
    split at hr
    ·rename_i c' hc
     rw [← hpl]; exact (renN_spec (Γ := liveAt st'.heap) (ρ := ρ) hc).2
    ·cases hr
   | gv g c k u x l =>
    simp only [renO] at hr
    split at hr
    ·rename_i g' c' hg hc
     rw [← hpl]; exact ⟨(renN_spec (Γ := liveAt st'.heap) (ρ := ρ) hg).2,(renN_spec (Γ := liveAt st'.heap) (ρ := ρ) hc).2⟩
    ·cases hr
   | nv g c j q u =>
    simp only [renO] at hr
    split at hr
    ·rename_i g' c' hg hc
     rw [← hpl]; exact ⟨(renN_spec (Γ := liveAt st'.heap) (ρ := ρ) hg).2,(renN_spec (Γ := liveAt st'.heap) (ρ := ρ) hc).2⟩
    ·cases hr
   | rc cs =>
    simp only [renO] at hr
    split at hr
    ·rename_i q hq
     rw [← hpl]; exact (renCs_spec (Γ := liveAt st'.heap) (ρ := ρ) _ _ hq).2
    ·cases hr
   | itr g c es clk ka k u l cur =>
    obtain ⟨m',d,cur',h1,h2,h3,rfl⟩ := renO_itr hr
    rw [← hpl]
    exact ⟨(renN_spec (Γ := liveAt st'.heap) (ρ := ρ) h1).2,(renN_spec (Γ := liveAt st'.heap) (ρ := ρ) h2).2,fun p hp => by
     obtain ⟨q',h4,_⟩ := h3 p hp
     exact (renN_spec (Γ := liveAt st'.heap) (ρ := ρ) h4).2⟩
   | _ => trivial
  | nil => obtain ⟨t,rk,rfl,_⟩ := hob; trivial
  | mt m off => obtain ⟨t,cs,e,rfl,_⟩ := hob; trivial
  | any m => obtain ⟨t,l,rk,rfl,_⟩ := hob; trivial
  | cells m len => obtain ⟨t,l,cs,e,rk,rfl,_⟩ := hob; trivial
 ·obtain ⟨s,m,h1,h2,h3,h4⟩ := hsrc n b hn hb
  obtain ⟨s',m',h1',h2',h3',h4'⟩ := hsrc n' b hn' hb'
  have := h.st.injH m m' b h3 h3' h4 h4'
  subst this
  exact srcs_inj _ _ hnd n n' m s s' hn hn' h1 h1' h2 h2'
 ·obtain ⟨s,m,h1,h2,h3,h4⟩ := hsrc n b hn hb
  exact h.st.ownH m b h3 h4

theorem AtS.weak (h : AtS bor W df st ρ a w) {st' : AS} (hw : Weak st st') : ∃ ρ',AtS bor W df st' ρ' a w := by
 obtain ⟨π,hw⟩ := hw
 exact ⟨_,h.weakE hw⟩
theorem AtS.drawn (h : AtS bor W df st ρ a w) (n:Nat) (hn : w.drawn ≤ n) : AtS bor W df st ρ a { w with drawn := n } := ⟨h.tmps,h.size,h.defers,h.kn,h.st.drawn n hn⟩

theorem AtS.yielded (h : AtS bor W df st ρ a w) {ops : Array Oper} {j d : Nat} (hd : dstOf ops j = some d) {x : Bool} (hx : nthD st.tmps d = boolV x) : yielded ops a.tmps j = some x := by
 have h1 := h.tmps d (by rw [hx]; simp [boolV])
 rw [hx] at h1
 have e1 : (ops[j]?).bind (·.dst) = some d := by
  unfold dstOf at hd; split at hd
  ·rename_i o ho; simp [ho,hd]
  ·cases hd
 have e2 : a.tmps[d]? = some (.bool x) := by
  rw [Array.getD_eq_getD_getElem?] at h1
  cases hq : a.tmps[d]? with
  | none => rw [hq] at h1; cases h1
  | some v => rw [hq] at h1; exact congrArg some h1
 simp [Go.yielded,e1,e2]
theorem AtS.yielded_und (h : AtS bor W df st ρ a w) {ops : Array Oper} {j d : Nat} (hd : dstOf ops j = some d) (hx : nthD st.tmps d = .tup []) : Go.yielded ops a.tmps j = none := by
 have h1 := h.tmps d (by rw [hx]; simp)
 rw [hx] at h1
 have e1 : (ops[j]?).bind (·.dst) = some d := by
  unfold dstOf at hd; split at hd
  ·rename_i o ho; simp [ho,hd]
  ·cases hd
 rw [Array.getD_eq_getD_getElem?] at h1
 cases hq : a.tmps[d]? with
 | none => simp [Go.yielded,e1,hq]
 | some v =>
  rw [hq] at h1
  have e : v = .tuple #[] := h1
  subst e
  simp [Go.yielded,e1,hq]
end

section
variable {P : Program} {ctx : Ctx} {bor : Bor} {W : World} {df : List Deferred} {ro : Option Nat} {n : Nat} {Q : Exit → Act → World → Prop}

theorem stepE_spec {o : Op} {st : AS} {k : Rec → Prop} (h : stepE ctx o st k) : (∀ x ∈ o.operands,evalE st.tmps x ≠ .dead) ∧ opE ctx o (evalE st.tmps) (liveAt st.heap) st.heap.length k := by
 unfold stepE at h
 split at h
 ·rename_i hn
  refine ⟨fun x hx e => ?_,h⟩
  have := List.all_eq_true.1 hn x (Array.mem_toList_iff.2 hx)
  rw [e] at this; simp [AV.isDead] at this
 ·exact h.elim

theorem op_step (hT : TOk P ctx.tt) (hS : CtxOk P ctx) (hX : XOk bor W ctx.X) {st : AS} {ρ : Env} {a : Act} {w : World} (hat : AtS bor W df st ρ a w) {o : Oper} {k : Rec → Prop}
  (h : stepE ctx o.op st k) {next : Act → World → Prop}
  (hn : ∀ r,k r → ∀ ρ' a' w',AtS bor W df (st.app o.dst r) ρ' a' w' → next a' w') : o.wpIn (fw ro) n P a w next Q := by
 obtain ⟨hnd,h⟩ := stepE_spec h
 refine opE_k hT hS h ro n bor W ρ w a next Q hX (fun x hx => hat.eval x (hnd x hx)) (fun x _ => hat.evalok x) hat.st ?_
 intro r ρ' w' hk hw hag hvk hst
 exact hn r hk ρ' _ w' (hat.app hw hag hvk hst)

theorem opsE_sound (hT : TOk P ctx.tt) (hS : CtxOk P ctx) (hX : XOk bor W ctx.X) (all : Array Oper) : ∀ (l : List Oper) (dec : List Nat) (st : AS) (lg : List LogE) (K : AS → List LogE → Prop),opsE ctx all l dec st lg K →
  (∀ st' lg' ρ' a' w',K st' lg' → AtS bor W df st' ρ' a' w' → Q .normal a' w') → ∀ ρ a w,AtS bor W df st ρ a w → wpListIn (fw ro) n P all Q l a w
 | [],dec,st,lg,K,h,hK,ρ,a,w,hat => hK st lg ρ a w h hat
 | o :: rest,dec,st,lg,K,h,hK,ρ,a,w,hat => by
  have exec : ∀ (st : AS) (dec' : List Nat) (lg' : Rec → List LogE),AtS bor W df st ρ a w → stepE ctx o.op st (fun r => opsE ctx all rest dec' (st.app o.dst r) (lg' r) K) →
    o.wpIn (fw ro) n P a w (wpListIn (fw ro) n P all Q rest) Q := by
   intro st dec' lg' hat h
   exact op_step hT hS hX hat h fun r hr ρ' a' w' hat' => opsE_sound hT hS hX all rest dec' _ _ K hr hK ρ' a' w' hat'
  unfold opsE at h
  split at h
  ·rename_i hg
   show if Region.wanted o (Go.yielded all a.tmps) then _ else _
   rw [if_pos (by simp [Region.wanted,hg])]
   exact exec st dec _ hat h
  ·rename_i j want hg
   split at h
   ·rename_i d hd
    split at h
    ·rename_i x hx
     have hy : Go.yielded all a.tmps j = some x := hat.yielded hd hx
     have hw : Region.wanted o (Go.yielded all a.tmps) = (x == want) := by
      simp only [Region.wanted,hg,hy]; cases x <;> cases want <;> rfl
     show if Region.wanted o (Go.yielded all a.tmps) then _ else _
     rw [hw]
     split at h
     ·split at h
      ·rename_i e; subst e
       rw [if_pos (by simp)]
       exact exec st dec _ hat h
      ·rename_i e
       rw [if_neg (by simpa using e)]
       exact ⟨fun _ _ => trivial,opsE_sound hT hS hX all rest _ _ _ K h hK ρ _ w (hat.skip o.dst)⟩
     ·cases want with
      | true =>
       dsimp only at h
       cases x with
       | true =>
        have h : stepE ctx o.op { st with tmps := st.tmps.set d (boolV true) } _ := h
        rw [if_pos (by rfl)]
        rw [set_same hx] at h
        exact exec st _ _ hat h
       | false =>
        have h : opsE ctx all rest (d :: dec) { st with tmps := setTmp (st.tmps.set d (boolV false)) o.dst und } (lg ++ [logSkip st.heap.length]) K := h
        rw [if_neg (by simp)]
        rw [set_same hx] at h
        exact ⟨fun _ _ => trivial,opsE_sound hT hS hX all rest _ _ _ K h hK ρ _ w (hat.skip o.dst)⟩
      | false =>
       dsimp only at h
       cases x with
       | false =>
        have h : stepE ctx o.op { st with tmps := st.tmps.set d (boolV false) } _ := h
        rw [if_pos (by rfl)]
        rw [set_same hx] at h
        exact exec st _ _ hat h
       | true =>
        have h : opsE ctx all rest (d :: dec) { st with tmps := setTmp (st.tmps.set d (boolV true)) o.dst und } (lg ++ [logSkip st.heap.length]) K := h
        rw [if_neg (by simp)]
        rw [set_same hx] at h
        exact ⟨fun _ _ => trivial,opsE_sound hT hS hX all rest _ _ _ K h hK ρ _ w (hat.skip o.dst)⟩
    ·rename_i hx
     have hy : Go.yielded all a.tmps j = none := hat.yielded_und hd hx
     show if Region.wanted o (Go.yielded all a.tmps) then _ else _
     rw [if_neg (by simp [Region.wanted,hg,hy])]
     exact ⟨fun _ _ => trivial,opsE_sound hT hS hX all rest _ _ _ K h hK ρ _ w (hat.skip o.dst)⟩
    ·exact h.elim
   ·exact h.elim
end
end Go.Ev
