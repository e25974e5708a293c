/- Each operation, but for calls, does what 'opE' says. -/
import Derived.Test.YtleemdeodmdnkaaEvB
noncomputable section
set_option linter.unusedSectionVars false
set_option linter.unusedVariables false
set_option linter.unusedSimpArgs false
namespace Go.Ev
open Go.RowKit

def TOk (P : Program) (tt : List (Nat × TI)) : Prop := ∀ t i,lookN tt t = some i → P.underlying t = some i.desc ∧
 0 < i.size ∧ ∃ inf,P.info? t = some inf ∧ inf.size = i.size ∧ inf.bytes = i.bytes ∧ inf.zero = some i.zero ∧ (isAggD i.desc = true → P.stoodInHeld t = false ∧ P.eqGuardType P.depth t = false)

section
variable {P : Program} {tt : List (Nat × TI)} {t : TypeId} {i : TI}
theorem TOk.u (h : TOk P tt) (ht : lookN tt t = some i) (w : World) : (underlying t).run P w = .ok i.desc w := run_underlying (h t i ht).1 w
theorem TOk.ti (h : TOk P tt) (ht : lookN tt t = some i) (w : World) : ∃ inf,(typeInfo t).run P w = .ok inf w ∧ inf.size = i.size ∧ inf.bytes = i.bytes ∧ inf.zero = some i.zero := by
 obtain ⟨_,_,inf,h1,h2,h3,h4,_⟩ := h t i ht
 exact ⟨inf,by simp [typeInfo,h1],h2,h3,h4⟩
theorem TOk.sz (h : TOk P tt) (ht : lookN tt t = some i) (w : World) : (sizeOf t).run P w = .ok i.size w := by
 obtain ⟨inf,h1,h2,_⟩ := h.ti ht w
 simp [sizeOf,h1,h2]
theorem TOk.z (h : TOk P tt) (ht : lookN tt t = some i) (w : World) : (zeroValue t).run P w = .ok i.zero w := by
 obtain ⟨inf,h1,_,_,h4⟩ := h.ti ht w
 simp [zeroValue,h1,h4]
theorem TOk.ag (h : TOk P tt) (ht : lookN tt t = some i) (w : World) : (isAgg t).run P w = .ok (isAggD i.desc) w := by
 simp only [isAgg,Sem.run_bind,h.u ht w,Result.andThen_ok,isAggD]
 cases i.desc <;> rfl
end

theorem drop_take_map (f : Cell → Value) (cs : List Cell) (off m:Nat) : ((cs.drop off).take m).map f = ((cs.map f).drop off).take m := by simp [List.map_drop,List.map_take]

section
variable {P : Program} {ctx : Ctx} {hp : HP} {nm : Nat} {k : Rec → Prop}

theorem cell_of_heap {w : World} {b : Nat} {cs : List Value} {e : TypeId} (h : w.heap[b]? = some (.cells cs.toArray e (0,0))) (o:Nat) : w.cell? ⟨b,o,none⟩ = cs[o]? := by
 simp [World.cell?,h]

theorem run_loadVar_at (hT : TOk P ctx.tt) {t : TypeId} {i : TI} (ht : lookN ctx.tt t = some i) {w : World} {b off : Nat} {cs rest : List Value} {e : TypeId}
  (hh : w.heap[b]? = some (.cells (cs ++ rest).toArray e (0,0))) :
  (isAggD i.desc = true → off + i.size ≤ cs.length → (loadVar t ⟨b,off,none⟩).run P w = .ok (.agg ((cs.drop off).take i.size).toArray) w) ∧
  (isAggD i.desc = false → ∀ v,cs[off]? = some v → (loadVar t ⟨b,off,none⟩).run P w = .ok v w) := by
 constructor
 ·intro ha hl
  have hlen : ((cs.drop off).take i.size).length = i.size := by simp; omega
  have hc : ∀ j v,((cs.drop off).take i.size)[j]? = some v → w.cell? ((⟨b,off,none⟩ : Addr).add j) = some v := by
   intro j v hj
   have e1 : (⟨b,off,none⟩ : Addr).add j = ⟨b,off + j,none⟩ := by unfold Addr.add; split <;> simp_all
   rw [e1,cell_of_heap hh]
   rw [List.getElem?_take] at hj
   split at hj
   ·rename_i hj2
    rw [List.getElem?_drop] at hj
    rw [List.getElem?_append_left (by omega)]; exact hj
   ·cases hj
  have hl := run_loadCells_list (P := P) w ⟨b,off,none⟩ _ hc
  rw [hlen] at hl
  simp [loadVar,hT.ag ht,ha,hT.sz ht,hl]
 ·intro ha v hv
  have hlt : off < cs.length := by
   rcases Nat.lt_or_ge off cs.length with h | h
   ·exact h
   ·rw [List.getElem?_eq_none h] at hv; cases hv
  have hc : w.cell? ⟨b,off,none⟩ = some v := by rw [cell_of_heap hh,List.getElem?_append_left hlt,hv]
  simp [loadVar,hT.ag ht,ha,hc]

theorem loadC_loc (hT : TOk P ctx.tt) {t : TypeId} {i : TI} (ht : lookN ctx.tt t = some i) {cs : List Cell} {n off : Nat} {e : TypeId} (he : hp n = some (.cells cs e)) (h : loadC i cs n off k) :
  ∃ r,SemLoc P ctx.X hp nm (fun _ => True) (fun ρ => Instr.loadAt t (.pointer (addrOf ρ n off))) (fun ρ => r.val.conc ρ) r ∧ k r := by
 unfold loadC at h
 split at h
 ·rename_i ha
  split at h
  ·rename_i hl
   refine ⟨_,SemLoc.pure ?_,h⟩
   intro bor W ρ Kn Γ w _ _ htc hst
   have hΓ : Γ n = some (.cells cs e) := by rw [htc n (by simp),he]
   obtain ⟨b,hb,hh⟩ := hst.at_ n _ hΓ
   refine ⟨?_,?_⟩
   ·have := (run_loadVar_at hT ht (off := off) (rest := []) (by simpa using hh)).1 ha (by simpa using hl)
    simp only [Instr.loadAt,Instr.sureAddr,addrOf,hb,Option.map_some,Sem.run_bind,Sem.run_pure,Result.andThen_ok,this,AV.conc,A0.conc,drop_take_map]
   ·intro c hc
    exact (hst.kn n _ hΓ).2 c (List.mem_of_mem_drop (List.mem_of_mem_take hc))
  ·exact h.elim
 ·rename_i ha
  split at h
  ·rename_i c hc
   refine ⟨_,SemLoc.pure ?_,h⟩
   intro bor W ρ Kn Γ w _ _ htc hst
   have hΓ : Γ n = some (.cells cs e) := by rw [htc n (by simp),he]
   obtain ⟨b,hb,hh⟩ := hst.at_ n _ hΓ
   refine ⟨?_,?_⟩
   ·have := (run_loadVar_at hT ht (off := off) (rest := []) (by simpa using hh)).2 (by simpa using ha) (c.conc ρ) (by simp [hc])
    simp only [Instr.loadAt,Instr.sureAddr,addrOf,hb,Option.map_some,Sem.run_bind,Sem.run_pure,Result.andThen_ok,this,AV.conc,A0.conc]
   ·exact (hst.kn n _ hΓ).2 c (List.mem_of_getElem? hc)
  ·exact h.elim

theorem add_add' (a : Addr) (m n:Nat) : (a.add m).add n = a.add (m + n) := by
 unfold Addr.add; split <;> split <;> simp_all <;> omega

theorem ob_spec {b : Bool} {p : Prop} (h : ob b p) : b = true ∧ p := by cases b <;> first | exact h.elim | exact ⟨rfl,h⟩
theorem intCells_spec (ρ : Env) : ∀ (cs : List Cell) (ns : List Int),intCells cs = some ns → cs = ns.map fun n => Cell.raw (.int .i64 n)
 | [],ns,h => by simp only [intCells,Option.some.injEq] at h; subst h; rfl
 | c :: r,ns,h => by
  unfold intCells at h
  split at h
  ·simp_all
  ·rename_i n r' heq
   cases heq
   split at h
   ·rename_i l hl; cases h; rw [intCells_spec ρ r l hl]; rfl
   ·cases h
  ·cases h
theorem atInts_eq : ∀ (m off:Nat) (ns : List Int),off + m ≤ ns.length → atInts ns off m = ((ns.map fun n => Cell.raw (.int .i64 n)).drop off).take m
 | 0,off,ns,_ => by simp [atInts]
 | m + 1,off,ns,h => by
  rw [atInts,atInts_eq m (off + 1) ns (by omega),List.drop_eq_getElem_cons (i := off) (by simp; omega),List.take_succ_cons,List.getElem_map,List.getD,List.getElem?_eq_getElem (by omega)]
  rfl
theorem putOne_eq (off:Nat) (y:Int) : ∀ (ns : List Int) (q:Nat),q ≤ off → putOne off y q ns = ns.set (off - q) y
 | [],q,_ => by simp [putOne]
 | n :: r,q,h => by
  rw [putOne]
  by_cases e : off = q
  ·subst e
   have : ∀ (l : List Int) (p:Nat),off < p → putOne off y p l = l := by
    intro l
    induction l with
    | nil => intro p _; rfl
    | cons a l ih =>
     intro p hp
     rw [putOne,ih _ (by omega)]
     have : Nat.beq off p = false := by
      cases hb : Nat.beq off p with
      | false => rfl
      | true => exact absurd (Nat.eq_of_beq_eq_true hb) (by omega)
     rw [this]; rfl
   have hb : Nat.beq off off = true := Nat.beq_refl off
   rw [this r (off + 1) (by omega),hb]; simp
  ·rw [putOne_eq off y r (q + 1) (by omega)]
   have hb : Nat.beq off q = false := by
    cases hb : Nat.beq off q with
    | false => rfl
    | true => exact absurd (Nat.eq_of_beq_eq_true hb) e
   rw [hb,show off - q = (off - (q + 1)) + 1 by omega]; simp
theorem putInts_eq : ∀ (ys ns : List Int) (off:Nat),putInts off ys ns = setCells ns off ys
 | [],_,_ => rfl
 | y :: r,ns,off => by rw [putInts,putInts_eq r,putOne_eq off y ns 0 (Nat.zero_le _)]; rfl

theorem valsFrom_get (sub : Nat → Option Addr × Nat) : ∀ (cs : List Comp) (q i:Nat),(valsFrom sub q cs)[i]? = (cs[i]?).map (compVal (sub (q + i)))
 | [],q,i => by simp [valsFrom]
 | c :: r,q,0 => by simp [valsFrom]
 | c :: r,q,i + 1 => by
  simp only [valsFrom,List.getElem?_cons_succ]
  rw [valsFrom_get sub r,show q + 1 + i = q + (i + 1) by omega]
theorem rowComps_get (t : Ty) : ∀ (l : List t.T) (j:Nat) (x : t.T) (q:Nat),l[j]? = some x → q < t.size → (rowComps t l)[j * t.size + q]? = (t.comps x)[q]?
 | [],j,x,q,h,_ => by simp at h
 | y :: r,0,x,q,h,hq => by
  simp only [List.getElem?_cons_zero,Option.some.injEq] at h; subst h
  simp only [rowComps,List.flatMap_cons,Nat.zero_mul,Nat.zero_add]
  rw [List.getElem?_append_left (by rw [comps_length]; exact hq)]
 | y :: r,j + 1,x,q,h,hq => by
  simp only [rowComps,List.flatMap_cons]
  rw [List.getElem?_append_right (by rw [comps_length,Nat.add_mul]; omega),comps_length,show (j + 1) * t.size + q - t.size = j * t.size + q by rw [Nat.add_mul]; omega]
  exact rowComps_get t r j x q (by simpa using h) hq
theorem gd_get {t : Ty} {l : List t.T} {j : Nat} (h : j < l.length) : l[j]? = some (gd t l j) := by
 simp [gd,List.getD,h]
theorem castL_comp {u' u : Ty} {l : List u'.T} {l' : List u.T} (h : castL u' u l = some l') : Comp.sl u' l = Comp.sl u l' := by
 unfold castL at h
 split at h
 ·rename_i e; subst e; cases h; rfl
 ·cases h
theorem ofComps_spec : ∀ (t : Ty) (cs : List Comp) (x : t.T) (r : List Comp),ofComps t cs = some (x,r) → cs = t.comps x ++ r
 | .int k,cs,x,r,h => by
  simp only [ofComps] at h
  split at h
  ·split at h
   ·rename_i e; subst e; cases h; rfl
   ·cases h
  ·cases h
 | .bool,cs,x,r,h => by
  simp only [ofComps] at h
  split at h
  ·cases h; rfl
  ·cases h
 | .str,cs,x,r,h => by
  simp only [ofComps] at h
  split at h
  ·cases h; rfl
  ·cases h
 | .prod a b,cs,x,r,h => by
  simp only [ofComps] at h
  split at h
  ·rename_i x1 r1 h1
   split at h
   ·rename_i y r2 h2
    cases h
    rw [ofComps_spec a _ _ _ h1,ofComps_spec b _ _ _ h2]
    simp [Ty.comps]
   ·cases h
  ·cases h
 | .sl u,cs,x,r,h => by
  simp only [ofComps] at h
  split at h
  ·split at h
   ·rename_i l' hl
    cases h
    rw [castL_comp hl]; rfl
   ·cases h
  ·cases h
theorem knR_cons (Kn : Nat → Prop) (nm:Nat) (o : AObj) (os : List AObj) (v v' : AV) (ws ws' : List (Nat × AObj)) (tc tc' : List Nat) :
  knR (knN Kn nm) (nm + 1) { val := v,fresh := os,writes := ws,touch := tc } = knR Kn nm { val := v',fresh := o :: os,writes := ws',touch := tc' } := by
 funext m; simp only [knR,knN,List.length_cons]; apply propext
 constructor
 ·rintro ((h | h) | h)
  ·exact .inl h
  ·exact .inr (by omega)
  ·exact .inr (by omega)
 ·rintro (h | h)
  ·exact .inl (.inl h)
  ·by_cases e : m = nm
   ·exact .inl (.inr e)
   ·exact .inr (by omega)
theorem appH_cons (Γ : HP) (nm:Nat) (o : AObj) (os : List AObj) (v v' : AV) (tc tc' : List Nat) (ho : live (some o) = some o) :
  appH { val := v,fresh := os,touch := tc } (nm + 1) (updH Γ nm o) = appH { val := v',fresh := o :: os,touch := tc' } nm Γ := by
 funext m
 simp only [appH,lastW,List.length_cons,updH]
 by_cases h : m = nm
 ·subst h
  have h1 : ¬ (m + 1 ≤ m ∧ m < m + 1 + os.length) := by omega
  have h2 : m ≤ m ∧ m < m + (os.length + 1) := by omega
  rw [if_neg h1,if_pos rfl,if_pos h2]; simp [ho]
 ·by_cases h2 : nm + 1 ≤ m ∧ m < nm + 1 + os.length
  ·have h3 : nm ≤ m ∧ m < nm + (os.length + 1) := by omega
   rw [if_pos h2,if_pos h3,show m - nm = (m - (nm + 1)) + 1 by omega]; simp
  ·have h3 : ¬ (nm ≤ m ∧ m < nm + (os.length + 1)) := by omega
   rw [if_neg h2,if_neg h,if_neg h3]
theorem knR_zero (Kn : Nat → Prop) (nm:Nat) (v : AV) (tc : List Nat) : knR Kn nm { val := v,fresh := [],touch := tc } = Kn := knR_nil Kn nm v [] tc

theorem St.views {bor : Bor} {W w : World} {sub : Nat → Option Addr × Nat} {okf : Nat → Prop} (v : AV) (tc : List Nat) : ∀ (cs : List Comp) (q nm:Nat) (ρ : Env) (Kn : Nat → Prop) (Γ : HP),St bor W ρ Kn Γ w → (∀ i,i < (viewE nm cs).2.length → ¬ Kn (nm + i)) →
  (∀ b,okf b → fzB ρ Γ w b) → (∀ i u l,cs[i]? = some (.sl u l) → NestAt w okf (sub (q + i)) u l) →
  ∃ ρ',(∀ m,Kn m → ρ' m = ρ m) ∧ (viewE nm cs).1.map (Cell.conc ρ') = valsFrom sub q cs ∧ (∀ c ∈ (viewE nm cs).1,c.ok (knR Kn nm { val := v,fresh := (viewE nm cs).2,touch := tc })) ∧
   St bor W ρ' (knR Kn nm { val := v,fresh := (viewE nm cs).2,touch := tc }) (appH { val := v,fresh := (viewE nm cs).2,touch := tc } nm Γ) w
 | [],q,nm,ρ,Kn,Γ,h,_,_,_ => ⟨ρ,fun _ _ => rfl,rfl,fun c hc => absurd hc (by simp [viewE]),by simp only [viewE]; rw [knR_zero,appH_nil]; exact h⟩
 | .flat v0 :: r,q,nm,ρ,Kn,Γ,h,hf,hok,hn => by
  obtain ⟨ρ',h1,h2,h3,h4⟩ := St.views v tc r (q + 1) nm ρ Kn Γ h hf hok fun i u l hi => by
   have := hn (i + 1) u l (by simpa using hi)
   rwa [show q + (i + 1) = q + 1 + i by omega] at this
  refine ⟨ρ',h1,?_,?_,h4⟩
  ·simp only [viewE,List.map_cons,h2,valsFrom]; rfl
  ·intro c hc
   simp only [viewE,List.mem_cons] at hc
   rcases hc with rfl | hc
   ·trivial
   ·exact h3 c hc
 | .sl u l :: r,q,nm,ρ,Kn,Γ,h,hf,hok,hn => by
  have hnm : ¬ Kn nm := by simpa using hf 0 (by simp [viewE])
  have h0 : NestAt w okf (sub q) u l := by simpa using hn 0 u l rfl
  let x : Loc := { blk := none,base := (sub q).1,len := l.length,cap := (sub q).2,es := u.size }
  have hfz : ∀ b,fzB ρ Γ w b → fzB (updE ρ nm x) (updH Γ nm (.row u l 0)) w b := fun b hb => ⟨hb.1,by
   rintro (⟨m,h1,h2⟩ | ⟨m,S,h1,h2⟩)
   ·unfold updE at h2
    unfold updH at h1
    split at h2
    ·exact absurd (has_mk.1 h2) (fun h => by cases h)
    ·rename_i e; rw [if_neg e] at h1; exact hb.2 (.inl ⟨m,h1,h2⟩)
   ·unfold updH at h1
    split at h1
    ·cases h1
    ·exact hb.2 (.inr ⟨m,S,h1,h2⟩)⟩
  have h1 : St bor W (updE ρ nm x) (knN Kn nm) (updH Γ nm (.row u l 0)) w := by
   refine h.swap (G := []) (o := .row u l 0) (x := x) hnm h.fr (fun _ _ _ => rfl) (fun b hb => by cases hb) (fun m p hp => ?_) trivial (fun _ h => by cases h) fun _ _ => ?_
   ·unfold updH at hp
    split at hp
    ·rename_i e1; cases hp; exact .inl ⟨e1,rfl⟩
    ·rename_i e1; exact .inr ⟨e1,by simp,hp⟩
   ·have e : updE ρ nm x nm = x := by simp [updE]
    rw [objAt,e]
    refine ⟨rfl,rfl,h0.2.1,fun _ => (none,0),?_⟩
    have hfl : ∀ (l : List u.T) (c : Comp),c ∈ rowComps u l → ∃ v,c = .flat v := fun l c hc => by
     obtain ⟨y,_,hy⟩ := List.mem_flatMap.1 hc
     exact flat_comps u h0.1 y c hy
    have hv : ∀ (cs : List Comp),(∀ c ∈ cs,∃ v,c = .flat v) → ∀ q,valsFrom (fun _ => (none,0)) q cs = cs.map compFlat := by
     intro cs
     induction cs with
     | nil => intro _ q; rfl
     | cons c r ih =>
      intro hc q
      obtain ⟨v,rfl⟩ := hc c (by simp)
      simp only [valsFrom,List.map_cons]
      rw [ih (fun c hm => hc c (by simp [hm]))]; rfl
    refine ⟨fun i v hv' => ?_,fun i u' l' hi => ?_,fun _ => rfl,fun h => absurd rfl h⟩
    ·rw [hv _ (hfl l)] at hv'
     obtain ⟨a,e1,e2,e3⟩ := h0.2.2 i v hv'
     exact ⟨a,e1,e2,fun _ => hfz _ (hok _ e3)⟩
    ·obtain ⟨v,hv'⟩ := hfl l _ (List.mem_of_getElem? hi)
     cases hv'
  obtain ⟨ρ',e1,e2,e3,e4⟩ := St.views v tc r (q + 1) (nm + 1) _ _ _ h1 (fun i hi => by
   have := hf (i + 1) (by simpa [viewE] using hi)
   rintro (h2 | h2)
   ·exact this (by rwa [show nm + (i + 1) = nm + 1 + i by omega])
   ·omega) (fun b hb => hfz b (hok b hb)) fun i u l hi => by
   have := hn (i + 1) u l (by simpa using hi)
   rwa [show q + (i + 1) = q + 1 + i by omega] at this
  have ex : ρ' nm = x := by rw [e1 nm (.inr rfl)]; simp [updE]
  rw [knR_cons (o := .row u l 0) (v' := v) (ws' := []) (tc' := tc)] at e3 e4
  rw [appH_cons (o := .row u l 0) (v' := v) (tc' := tc) (ho := rfl)] at e4
  refine ⟨ρ',fun m hm => by rw [e1 m (.inl hm)]; exact updE_old hnm m hm,?_,?_,e4⟩
  ·simp only [viewE,List.map_cons,e2,valsFrom,Cell.conc,ex]; rfl
  ·intro c hc
   simp only [viewE,List.mem_cons] at hc
   rcases hc with rfl | hc
   ·exact .inr ⟨Nat.le_refl _,by simp [viewE]⟩
   ·exact e3 c hc
where
 flat_comps : ∀ (t : Ty),t.flat = true → ∀ (x : t.T) (c : Comp),c ∈ t.comps x → ∃ v,c = .flat v
  | .int _,_,x,c,hc => by simp [Ty.comps] at hc; exact ⟨_,hc⟩
  | .bool,_,x,c,hc => by simp [Ty.comps] at hc; exact ⟨_,hc⟩
  | .str,_,x,c,hc => by simp [Ty.comps] at hc; exact ⟨_,hc⟩
  | .prod a b,h,x,c,hc => by
   simp only [Ty.flat,Bool.and_eq_true] at h
   simp only [Ty.comps,List.mem_append] at hc
   rcases hc with hc | hc
   ·exact flat_comps a h.1 _ c hc
   ·exact flat_comps b h.2 _ c hc
  | .sl _,h,_,_,_ => by cases h

theorem gd_mem {t : Ty} {l : List t.T} {j q : Nat} {c : Comp} (h : j < l.length) (hq : (t.comps (gd t l j))[q]? = some c) : (rowComps t l)[j * t.size + q]? = some c := by
 rw [rowComps_get t l j _ q (gd_get h) (by have := (List.getElem?_eq_some_iff.1 hq).1; rwa [comps_length] at this)]; exact hq

theorem intComps_spec : ∀ (cs : List Comp) (ns : List Int),intComps cs = some ns → cs = ns.map fun m => .flat (.int .i64 m)
 | [],ns,h => by simp only [intComps,Option.some.injEq] at h; subst h; rfl
 | c :: r,ns,h => by
  unfold intComps at h
  split at h
  ·simp_all
  ·rename_i n r' heq
   cases heq
   split at h
   ·rename_i l hl; cases h
    rw [intComps_spec r l hl]; rfl
   ·cases h
  ·cases h
theorem viewE_ints (nm:Nat) : ∀ (ns : List Int),viewE nm (ns.map fun m => .flat (.int .i64 m)) = (ns.map fun m => .raw (.int .i64 m),[])
 | [] => rfl
 | n :: r => by simp only [List.map_cons,viewE,viewE_ints nm r]
theorem viewE_flat (nm:Nat) : ∀ (cs : List Comp),(∀ c ∈ cs,∃ v,c = .flat v) → viewE nm cs = (cs.map fun c => Cell.raw (compFlat c),[])
 | [],_ => rfl
 | c :: r,h => by
  obtain ⟨v,rfl⟩ := h c (by simp)
  simp only [viewE,viewE_flat nm r fun c hc => h c (by simp [hc]),List.map_cons]; rfl
theorem loadR_loc (hT : TOk P ctx.tt) {t : TypeId} {i : TI} (ht : lookN ctx.tt t = some i) {n j q : Nat} (h : loadE i (.v (.one (.eptr n j q))) hp nm k) :
  ∃ r,SemLoc P ctx.X hp nm (fun Kn => (AV.v (.one (.eptr n j q))).ok Kn) (fun ρ => Instr.loadAt t ((AV.v (.one (.eptr n j q))).conc ρ)) (fun ρ => r.val.conc ρ) r ∧ k r := by
 unfold loadE at h
 dsimp only at h
 split at h
 ·rename_i u l rk he
  split at h
  ·rename_i hsz
   obtain ⟨hj,h⟩ := ob_spec h
   simp only [decide_eq_true_eq] at hj
   generalize hvw : viewE nm (compsAt u l j q i.size) = z at h
   obtain ⟨cs,os⟩ := z
   dsimp only at h
   split at h
   ·rename_i v hv
    refine ⟨_,⟨fun p hp => absurd hp (by simp),?_⟩,h⟩
    intro bor W ρ Kn Γ w _ _ htc hfr hst
    have hΓ : Γ n = some (.row u l rk) := by rw [htc n (by simp),he]
    obtain ⟨o1,o2,o3,sub,m1,m2,m3,m4⟩ := hst.at_ n _ hΓ
    have hcl : (compsAt u l j q i.size).length = i.size := by simp [compsAt,comps_length]; omega
    have hcg : ∀ m c,(compsAt u l j q i.size)[m]? = some c → (rowComps u l)[j * u.size + q + m]? = some c := fun m c hm => by
     unfold compsAt at hm
     rw [List.getElem?_take] at hm
     split at hm
     ·rw [List.getElem?_drop] at hm
      rw [show j * u.size + q + m = j * u.size + (q + m) by omega]
      exact gd_mem hj hm
     ·cases hm
    have hos : (viewE nm (compsAt u l j q i.size)).2 = os := by rw [hvw]
    have hcs : (viewE nm (compsAt u l j q i.size)).1 = cs := by rw [hvw]
    obtain ⟨ρ',e1,e2,e3,e4⟩ := St.views v [n] (compsAt u l j q i.size) (j * u.size + q) nm ρ Kn Γ hst (by rw [hos]; exact hfr) (okf := fun b => fzB ρ Γ w b) (fun _ h => h) fun m u' l' hm => (m2 _ u' l' (hcg m _ hm)).mono fun b hb => ⟨hb.1,rfl⟩
    rw [hos] at e3 e4
    rw [hcs] at e2 e3
    have hvals : ∀ m v,(valsFrom sub (j * u.size + q) (compsAt u l j q i.size))[m]? = some v → ∃ a,(ρ n).base = some a ∧ w.cell? (a.add (j * u.size + q + m)) = some v := fun m v hm => by
     rw [valsFrom_get] at hm
     obtain ⟨c,hc,rfl⟩ := Option.map_eq_some_iff.1 hm
     have := m1 (j * u.size + q + m) (compVal (sub (j * u.size + q + m)) c) (by rw [valsFrom_get,hcg m c hc]; simp)
     obtain ⟨a,a1,a2,_⟩ := this
     exact ⟨a,a1,a2⟩
    have hpos := (hT t i ht).2.1
    obtain ⟨a,ha,_⟩ : ∃ a,(ρ n).base = some a ∧ True := by
     have : ∃ v,(valsFrom sub (j * u.size + q) (compsAt u l j q i.size))[0]? = some v := ⟨_,List.getElem?_eq_getElem (by rw [valsFrom_length,hcl]; exact hpos)⟩
     obtain ⟨v,hv⟩ := this
     obtain ⟨a,h1,_⟩ := hvals 0 v hv
     exact ⟨a,h1,trivial⟩
    have hcell : ∀ m v,(valsFrom sub (j * u.size + q) (compsAt u l j q i.size))[m]? = some v → w.cell? ((a.add (j * u.size + q)).add m) = some v := fun m v hm => by
     obtain ⟨a',h1,h2⟩ := hvals m v hm
     rw [ha] at h1; cases h1
     rw [add_add']; exact h2
    have hlen : (valsFrom sub (j * u.size + q) (compsAt u l j q i.size)).length = i.size := by rw [valsFrom_length,hcl]
    have hload : (loadVar t (a.add (j * u.size + q))).run P w = .ok (v.conc ρ') w ∧ v.ok (knR Kn nm { val := v,fresh := os,touch := [n] }) := by
     unfold mkVal at hv
     split at hv
     ·rename_i hag
      cases hv
      have hl2 := run_loadCells_list (P := P) w (a.add (j * u.size + q)) _ hcell
      rw [hlen] at hl2
      exact ⟨by simp [loadVar,hT.ag ht,hag,hT.sz ht,hl2,AV.conc,A0.conc,e2],e3⟩
     ·rename_i hag
      split at hv
      ·rename_i c
       cases hv
       simp only [List.map_cons,List.map_nil] at e2
       have := hcell 0 (c.conc ρ') (by rw [← e2]; rfl)
       rw [add_add',Nat.add_zero] at this
       exact ⟨by simp [loadVar,hT.ag ht,hag,this,AV.conc,A0.conc],e3 c (by simp)⟩
      ·cases hv
    refine ⟨ρ',w,Eq.trans ?_ hload.1,e1,hload.2,e4⟩
    have ex : (AV.v (.one (.eptr n j q))).conc ρ = .pointer (some (a.add (j * u.size + q))) := by simp [AV.conc,A0.conc,Cell.conc,ha,o2]
    show (Instr.loadAt t ((AV.v (.one (.eptr n j q))).conc ρ)).run P w = _
    rw [ex]
    simp only [Instr.loadAt,Instr.sureAddr,Sem.run_bind,Sem.run_pure,Result.andThen_ok]
   ·exact h.elim
  ·exact h.elim
 ·rename_i gn c kk u gx l he
  split at h <;> try (exact h.elim)
  rename_i gm hc
  split at h <;> try (exact h.elim)
  rename_i hsz
  obtain ⟨hj,h⟩ := ob_spec h
  simp only [decide_eq_true_eq] at hj
  split at h <;> try (exact h.elim)
  rename_i v hv
  refine ⟨_,SemLoc.pure fun bor W ρ Kn Γ w _ _ htc hst => ?_,h⟩
  have hΓ : Γ n = some (.gv gn c kk u gx l) := by rw [htc n (by simp),he]
  obtain ⟨_,o1,o2,_,huf,o4⟩ := hst.at_ n _ hΓ
  have hfl : ∀ x ∈ compsAt u l j q i.size,∃ v,x = .flat v := fun x hx => St.views.flat_comps u huf _ x (List.mem_of_mem_drop (List.mem_of_mem_take hx))
  rw [viewE_flat _ _ hfl] at hv
  rcases o4 with ⟨e0,_⟩ | ⟨e,b,h1,h2,_,h4,h5,_,_,h8,_⟩
  ·rw [e0] at hj; exact absurd hj (Nat.not_lt_zero _)
  have hset := hst.at_ c _ (by rw [htc c (by simp),hc])
  rcases hset.2.1 e h1 with ⟨h9,_⟩ | ⟨b',rest,tt',h9,_,h11,_⟩
  ·rw [h9] at h2; cases h2
  rw [h2] at h9; cases h9
  rw [h8] at h11
  have ha : (ρ n).base = some ⟨b,0,none⟩ := by rw [← h4,h5]
  have hcell : ∀ m v,((compsAt u l j q i.size).map compFlat)[m]? = some v → w.cell? ((⟨b,0,none⟩ : Addr).add (j * u.size + q) |>.add m) = some v := fun m v hm => by
   rw [add_add']
   have e1 : (⟨b,0,none⟩ : Addr).add (j * u.size + q + m) = ⟨b,j * u.size + q + m,none⟩ := by unfold Addr.add; split <;> simp_all
   rw [e1,cell_of_heap h11]
   rw [List.getElem?_map] at hm
   obtain ⟨x,hx,rfl⟩ := Option.map_eq_some_iff.1 hm
   unfold compsAt at hx
   rw [List.getElem?_take] at hx
   split at hx
   ·rw [List.getElem?_drop] at hx
    have := gd_mem hj hx
    have h12 : (flatVals u l)[j * u.size + q + m]? = some (compFlat x) := by
     unfold flatVals
     rw [List.getElem?_map,show j * u.size + q + m = j * u.size + (q + m) by omega,this]; rfl
    rw [List.getElem?_append_left (List.getElem?_eq_some_iff.1 h12).1]; exact h12
   ·cases hx
  have hlen : ((compsAt u l j q i.size).map compFlat).length = i.size := by simp [compsAt,comps_length]; omega
  have ex : (AV.v (.one (.eptr n j q))).conc ρ = .pointer (some ((⟨b,0,none⟩ : Addr).add (j * u.size + q))) := by simp [AV.conc,A0.conc,Cell.conc,ha,o2]
  have hcc : ((compsAt u l j q i.size).map fun c => Cell.raw (compFlat c)).map (Cell.conc ρ) = (compsAt u l j q i.size).map compFlat := by
   rw [List.map_map]; rfl
  refine ⟨?_,?_⟩
  ·show (Instr.loadAt t ((AV.v (.one (.eptr n j q))).conc ρ)).run P w = _
   rw [ex]
   simp only [Instr.loadAt,Instr.sureAddr,Sem.run_bind,Sem.run_pure,Result.andThen_ok]
   unfold mkVal at hv
   split at hv
   ·rename_i hag
    cases hv
    have hl2 := run_loadCells_list (P := P) w ((⟨b,0,none⟩ : Addr).add (j * u.size + q)) _ hcell
    rw [hlen] at hl2
    simp [loadVar,hT.ag ht,hag,hT.sz ht,hl2,AV.conc,A0.conc,hcc]
   ·rename_i hag
    split at hv
    ·rename_i c0 hc0
     cases hv
     have hcc1 := hcc
     dsimp only at hc0
     rw [hc0] at hcc1
     simp only [List.map_cons,List.map_nil] at hcc1
     have := hcell 0 (c0.conc ρ) (by rw [← hcc1]; rfl)
     rw [add_add',Nat.add_zero] at this
     simp [loadVar,hT.ag ht,hag,this,AV.conc,A0.conc]
    ·cases hv
  ·unfold mkVal at hv
   have hok : ∀ c ∈ (compsAt u l j q i.size).map fun c => Cell.raw (compFlat c),c.ok Kn := fun c hc => by
    obtain ⟨_,_,rfl⟩ := List.mem_map.1 hc; trivial
   split at hv
   ·cases hv; exact hok
   ·split at hv
    ·rename_i c0 hc0
     cases hv
     dsimp only at hc0
     exact hok c0 (by rw [hc0]; simp)
    ·cases hv
 ·rename_i cs he
  split at h <;> try (exact h.elim)
  rename_i hj; subst hj
  have hat0 : ∀ {bor : Bor} {W : World} {ρ : Env} {Kn : Nat → Prop} {Γ : HP} {w : World},(∀ m ∈ [n],Γ m = hp m) → St bor W ρ Kn Γ w → ∀ m c,cs[q + m]? = some c → ∃ a,(ρ n).base = some a ∧ w.cell? ((a.add q).add m) = some (c.conc ρ) := fun htc hst m c hm => by
   have g := hst.at_ n (.rc cs) (by rw [htc n (by simp),he])
   obtain ⟨a,h1,h2,_⟩ := g.2 _ _ hm
   exact ⟨a,h1,by rw [add_add']; exact h2⟩
  have ex : ∀ {ρ : Env} {a : Addr},(ρ n).base = some a → (AV.v (.one (.eptr n 0 q))).conc ρ = .pointer (some (a.add q)) := fun ha => by simp [AV.conc,A0.conc,Cell.conc,ha]
  unfold loadC at h
  split at h
  ·rename_i hag
   split at h
   ·rename_i hl
    refine ⟨_,SemLoc.pure ?_,h⟩
    intro bor W ρ Kn Γ w _ _ htc hst
    have hΓ : Γ n = some (.rc cs) := by rw [htc n (by simp),he]
    have hpos := (hT t i ht).2.1
    obtain ⟨c0,hc0⟩ : ∃ c,cs[q + 0]? = some c := ⟨_,List.getElem?_eq_getElem (by omega)⟩
    obtain ⟨a,ha,_⟩ := hat0 htc hst 0 c0 hc0
    have hcell : ∀ m v,(((cs.drop q).take i.size).map (Cell.conc ρ))[m]? = some v → w.cell? ((a.add q).add m) = some v := fun m v hm => by
     rw [List.getElem?_map] at hm
     obtain ⟨c,hc,rfl⟩ := Option.map_eq_some_iff.1 hm
     rw [List.getElem?_take] at hc
     split at hc
     ·rw [List.getElem?_drop] at hc
      obtain ⟨a',h1,h2⟩ := hat0 htc hst m c hc
      rw [ha] at h1; cases h1; exact h2
     ·cases hc
    have hl2 := run_loadCells_list (P := P) w (a.add q) _ hcell
    have hlen : (((cs.drop q).take i.size).map (Cell.conc ρ)).length = i.size := by simp; omega
    rw [hlen] at hl2
    refine ⟨?_,fun c hc => (hst.kn n _ hΓ).2 c (List.mem_of_mem_drop (List.mem_of_mem_take hc))⟩
    show (Instr.loadAt t ((AV.v (.one (.eptr n 0 q))).conc ρ)).run P w = _
    rw [ex ha]
    simp only [Instr.loadAt,Instr.sureAddr,Sem.run_bind,Sem.run_pure,Result.andThen_ok]
    simp [loadVar,hT.ag ht,hag,hT.sz ht,hl2,AV.conc,A0.conc]
   ·exact h.elim
  ·rename_i hag
   split at h
   ·rename_i c hc
    refine ⟨_,SemLoc.pure ?_,h⟩
    intro bor W ρ Kn Γ w _ _ htc hst
    have hΓ : Γ n = some (.rc cs) := by rw [htc n (by simp),he]
    obtain ⟨a,ha,h2⟩ := hat0 htc hst 0 c hc
    rw [add_add',Nat.add_zero] at h2
    refine ⟨?_,(hst.kn n _ hΓ).2 c (List.mem_of_getElem? hc)⟩
    show (Instr.loadAt t ((AV.v (.one (.eptr n 0 q))).conc ρ)).run P w = _
    rw [ex ha]
    simp only [Instr.loadAt,Instr.sureAddr,Sem.run_bind,Sem.run_pure,Result.andThen_ok]
    simp [loadVar,hT.ag ht,hag,h2,AV.conc,A0.conc]
   ·exact h.elim
 ·exact h.elim

theorem loadA_R {i : TI} {n j q : Nat} (h : loadE i (.v (.one (.eaptr n j q))) hp nm k) : loadE i (.v (.one (.eptr n j q))) hp nm k := by
 unfold loadE at h ⊢
 dsimp only at h ⊢
 split at h
 ·rename_i u l rk he
  split at h
  ·rename_i ns hns
   obtain ⟨h1,h⟩ := ob_spec h
   obtain ⟨h2,h⟩ := ob_spec h
   simp only [decide_eq_true_eq] at h1
   have hl : ns.length = u.size := by
    have := comps_length u (gd u l j)
    rw [intComps_spec _ _ hns] at this
    simpa using this
   have e : viewE nm (compsAt u l j q i.size) = (atInts ns q i.size,[]) := by
    unfold compsAt
    rw [intComps_spec _ _ hns,← List.map_drop,← List.map_take,viewE_ints,atInts_eq _ _ _ (by omega),← List.map_drop,← List.map_take]
   rw [he]
   dsimp only
   rw [if_pos h1,h2,e]
   exact h
  ·exact h.elim
 ·exact h.elim

theorem loadE_loc (hT : TOk P ctx.tt) {t : TypeId} {i : TI} (ht : lookN ctx.tt t = some i) {x : AV} (h : loadE i x hp nm k) :
  ∃ r,SemLoc P ctx.X hp nm (fun Kn => x.ok Kn) (fun ρ => Instr.loadAt t (x.conc ρ)) (fun ρ => r.val.conc ρ) r ∧ k r := by
 unfold loadE at h
 split at h
 ·rename_i n off
  split at h
  ·rename_i cs e he
   obtain ⟨r,h1,h2⟩ := loadC_loc (nm := nm) hT ht he h
   exact ⟨r,⟨h1.1,fun bor W ρ Kn Γ w a _ c d e => h1.2 bor W ρ Kn Γ w a trivial c d e⟩,h2⟩
  ·exact h.elim
 ·rename_i n off
  split at h
  ·rename_i cs e he
   split at h
   ·rename_i ns hns
    obtain ⟨hl,h⟩ := ob_spec h
    simp only [decide_eq_true_eq] at hl
    split at h
    ·rename_i v hv
     refine ⟨_,SemLoc.pure ?_,h⟩
     intro bor W ρ Kn Γ w _ _ htc hst
     have hΓ : Γ n = some (.cells cs e) := by rw [htc n (by simp),he]
     obtain ⟨b,hb,hh⟩ := hst.at_ n _ hΓ
     have ecs := intCells_spec ρ cs ns hns
     have hlen : cs.length = ns.length := by rw [ecs]; simp
     have hat : atInts ns off i.size = (cs.drop off).take i.size := by rw [atInts_eq _ _ _ (by omega),← ecs]
     rw [hat] at hv
     have hrun := run_loadVar_at hT ht (off := off) (w := w) (rest := []) (cs := cs.map (Cell.conc ρ)) (b := b) (e := e) (by simpa using hh)
     unfold mkVal at hv
     split at hv
     ·rename_i ha
      cases hv
      refine ⟨?_,fun c hc => (hst.kn n _ hΓ).2 c (List.mem_of_mem_drop (List.mem_of_mem_take hc))⟩
      have := hrun.1 ha (by simpa using hl)
      simp only [Instr.loadAt,Instr.sureAddr,AV.conc,A0.conc,Cell.conc,addrOf,hb,Option.map_some,Sem.run_bind,Sem.run_pure,Result.andThen_ok,this,drop_take_map]
     ·rename_i ha
      split at hv
      ·rename_i c hc
       cases hv
       have hcs : cs[off]? = some c := by
        have h0 : ((cs.drop off).take i.size)[0]? = some c := by rw [hc]; rfl
        rw [List.getElem?_take] at h0
        split at h0
        ·rw [List.getElem?_drop] at h0; simpa using h0
        ·cases h0
       refine ⟨?_,(hst.kn n _ hΓ).2 c (List.mem_of_getElem? hcs)⟩
       have := hrun.2 (by simpa using ha) (c.conc ρ) (by simp [hcs])
       simp only [Instr.loadAt,Instr.sureAddr,AV.conc,A0.conc,Cell.conc,addrOf,hb,Option.map_some,Sem.run_bind,Sem.run_pure,Result.andThen_ok,this]
      ·cases hv
    ·exact h.elim
   ·exact h.elim
  ·exact h.elim
 ·rename_i n j q
  exact loadR_loc hT ht (by unfold loadE; exact h)
 ·rename_i n j q
  exact loadR_loc hT ht (loadA_R (by unfold loadE; exact h))
 ·exact h.elim

theorem setCells_map2 {α β : Type} (f : α → β) : ∀ (ys cs : List α) (off:Nat),(setCells cs off ys).map f = setCells (cs.map f) off (ys.map f)
 | [],_,_ => rfl
 | y :: r,cs,off => by simp only [setCells,List.map_cons]; rw [setCells_map2 f r]; simp [List.map_set]
theorem ptr_conc {ρ : Env} {n b off : Nat} (hb : (ρ n).blk = some b) : (AV.v (.one (.ptr n off))).conc ρ = .pointer (some ⟨b,off,none⟩) := by
 simp [AV.conc,A0.conc,Cell.conc,addrOf,hb]
theorem aptr_conc {ρ : Env} {n b off : Nat} (hb : (ρ n).blk = some b) : (AV.v (.one (.aptr n off))).conc ρ = .pointer (some ⟨b,off,none⟩) := by
 simp [AV.conc,A0.conc,Cell.conc,addrOf,hb]
theorem run_storeAt (hT : TOk P ctx.tt) {t : TypeId} {i : TI} (ht : lookN ctx.tt t = some i) {a : Addr} {v : Value} {vs : List Value} (hv : v.cells = vs.toArray) (hl : vs.length = i.size) (w : World) :
  (Instr.storeAt t (.pointer (some a)) v).run P w = (storeCells a vs).run P w := by
 simp [Instr.storeAt,Instr.sureAddr,storeVar,hT.sz ht,hv,hl]
theorem flatComps_spec : ∀ (ys : List Cell) (ps : List Comp),flatComps ys = some ps → ps.length = ys.length ∧ allOne ys = true ∧ ∀ (ρ : Env),ys.map (Cell.conc ρ) = ps.map compFlat ∧ ∀ c ∈ ps,∃ v,c = .flat v
 | [],ps,h => by simp only [flatComps,Option.some.injEq] at h; subst h; exact ⟨rfl,rfl,fun ρ => ⟨rfl,by simp⟩⟩
 | y :: r,ps,h => by
  unfold flatComps at h
  split at h
  ·simp_all
  ·rename_i v r' heq
   cases heq
   have main : ∀ qs,flatComps r = some qs → oneCellV v = true → (Comp.flat v :: qs).length = (Cell.raw v :: r).length ∧ allOne (Cell.raw v :: r) = true ∧ ∀ (ρ : Env),(Cell.raw v :: r).map (Cell.conc ρ) = (Comp.flat v :: qs).map compFlat ∧ ∀ c ∈ (Comp.flat v :: qs),∃ v,c = .flat v := fun qs hq hv => by
    obtain ⟨h1,h2,h3⟩ := flatComps_spec r qs hq
    refine ⟨by simp [h1],by simp [allOne,Cell.one,hv,h2],fun ρ => ⟨by simp [(h3 ρ).1,Cell.conc,compFlat],fun c hc => ?_⟩⟩
    rcases List.mem_cons.1 hc with rfl | hc
    ·exact ⟨v,rfl⟩
    ·exact (h3 ρ).2 c hc
   split at h <;> try (cases h; done)
   all_goals
    obtain ⟨qs,hq,rfl⟩ := Option.map_eq_some_iff.1 h
    exact main qs hq rfl
  ·cases h
theorem compVal_flat {c : Comp} (h : ∃ v,c = .flat v) (s : Option Addr × Nat) : compVal s c = compFlat c := by obtain ⟨v,rfl⟩ := h; rfl
theorem setCells_get {α : Type} : ∀ (ys cs : List α) (off i:Nat),off + ys.length ≤ cs.length → (setCells cs off ys)[i]? = if off ≤ i ∧ i < off + ys.length then ys[i - off]? else cs[i]? := by
 intro ys cs off i h
 rw [setCells_eq ys cs off h]
 simp only [List.getElem?_append,List.length_append,List.length_take,List.getElem?_take,List.getElem?_drop]
 grind
theorem rowComps_set (t : Ty) (x' : t.T) : ∀ (l : List t.T) (j:Nat),j < l.length → rowComps t (l.set j x') = setCells (rowComps t l) (j * t.size) (t.comps x')
 | [],j,h => by simp at h
 | x :: r,0,_ => by
  simp only [List.set_cons_zero,rowComps,List.flatMap_cons,Nat.zero_mul]
  rw [setCells_eq _ _ _ (by simp [comps_length])]
  simp [comps_length]
 | x :: r,j + 1,h => by
  simp only [List.length_cons] at h
  have hl := rowComps_length t r
  have ih := rowComps_set t x' r j (by omega)
  have hb : j * t.size + t.size ≤ r.length * t.size := by rw [← Nat.succ_mul]; exact Nat.mul_le_mul_right _ (by omega)
  simp only [List.set_cons_succ,rowComps,List.flatMap_cons] at ih hl ⊢
  rw [ih]
  apply List.ext_getElem?
  intro i
  have e : (j + 1) * t.size = j * t.size + t.size := Nat.succ_mul _ _
  rw [setCells_get _ _ _ _ (by rw [List.length_append,comps_length,comps_length,hl,e]; omega),List.getElem?_append,setCells_get _ _ _ _ (by rw [comps_length,hl]; omega),List.getElem?_append]
  simp only [comps_length,e]
  by_cases h1 : i < t.size
  ·rw [if_pos h1,if_pos h1,if_neg (by omega)]
  ·rw [if_neg h1,if_neg h1]
   by_cases h2 : j * t.size ≤ i - t.size ∧ i - t.size < j * t.size + t.size
   ·rw [if_pos h2,if_pos (by omega),show i - (j * t.size + t.size) = i - t.size - j * t.size by omega]
   ·rw [if_neg h2,if_neg (by omega)]

theorem ints_one : ∀ (ms : List Int),allOne (ms.map fun n => Cell.raw (.int .i64 n)) = true
 | [] => rfl
 | a :: r => by simp [allOne,Cell.one,oneCellV,ints_one r]
theorem St.drop {bor : Bor} {W : World} {ρ : Env} {Kn : Nat → Prop} {Γ Γ' : HP} {w : World} (h : St bor W ρ Kn Γ w) (hs : ∀ x p,Γ' x = some p → Γ x = some p) : St bor W ρ Kn Γ' w := by
 have hL : ∀ b,LO ρ Γ' b → LO ρ Γ b := fun b hb => by
  rcases hb with ⟨m,h1,h2⟩ | ⟨m,S,h1,h2⟩
  ·obtain ⟨o,ho⟩ := Option.isSome_iff_exists.1 h1
   exact .inl ⟨m,by rw [hs m o ho]; rfl,h2⟩
  ·exact .inr ⟨m,S,hs m _ h1,h2⟩
 have hsm : ∀ m,(Γ' m).isSome = true → (Γ m).isSome = true := fun m hm => by
  obtain ⟨o,ho⟩ := Option.isSome_iff_exists.1 hm
  rw [hs m o ho]; rfl
 exact ⟨h.fr,fun n o ho => objAt_keep (Kn := Kn) (h.at_ n o (hs n o ho)) (fun _ _ => rfl) (h.kn n o (hs n o ho)).1 (h.kn n o (hs n o ho)).2 (fun b hb => ⟨⟨hb.1,fun q => hb.2 (hL b q)⟩,rfl⟩) (fun _ _ h => h) fun _ _ => rfl,
  fun n o ho => h.kn n o (hs n o ho),fun n m b hn hm => h.injH n m b (hsm n hn) (hsm m hm),fun n b hn => h.ownH n b (hsm n hn),fun b ⟨m,S,h1,h2⟩ => ⟨(h.hid b ⟨m,S,hs m _ h1,h2⟩).1,fun ⟨m',h3,h4⟩ => (h.hid b ⟨m,S,hs m _ h1,h2⟩).2 ⟨m',hsm m' h3,h4⟩⟩,fun n o ho => h.noe n o (hs n o ho)⟩
theorem storeN_loc (hT : TOk P ctx.tt) {t : TypeId} {i : TI} (ht : lookN ctx.tt t = some i) {n j q : Nat} {y : AV} {ys : List Cell} (hys : y.cells = some ys) (hsz : ys.length = i.size) {u : Ty} {l : List u.T} {rk : Nat} (he : hp n = some (.row u l rk)) (hrk : ¬ rk = 0) (h : storeN u l rk n j q ys hp k) :
  ∃ r,SemLoc P ctx.X hp nm (fun Kn => (AV.v (.one (.eptr n j q))).ok Kn ∧ y.ok Kn) (fun ρ => Instr.storeAt t ((AV.v (.one (.eptr n j q))).conc ρ) (y.conc ρ)) (fun _ => ()) r ∧ r.val = und ∧ k r := by
 unfold storeN at h
 split at h
 rotate_left
 ·exact h.elim
 rename_i m
 split at h
 rotate_left
 ·exact h.elim
 rename_i u' lm rm hm
 split at h
 ·exact h.elim
 rename_i hc
 simp only [not_or] at hc
 obtain ⟨hrm,hrk3,hmn,huf,hq⟩ := hc
 have huf : u'.flat = true := by simpa using huf
 split at h
 rotate_left
 ·exact h.elim
 rename_i x' hx'
 obtain ⟨hj,h⟩ := ob_spec h
 have h := h.2 _ rfl
 simp only [decide_eq_true_eq] at hj
 refine ⟨_,⟨fun p hp' => ?_,?_⟩,rfl,h⟩
 ·simp only [List.mem_cons,List.not_mem_nil,or_false] at hp'
  rcases hp' with rfl | rfl
  ·rw [he]; simp
  ·rw [hm]; simp
 intro bor W ρ Kn Γ w _ hk htc _ hst
 have hΓ : Γ n = some (.row u l rk) := by rw [htc n (by simp),he]
 have hΓm : Γ m = some (.row u' lm rm) := by rw [htc m (by simp),hm]
 obtain ⟨o1,o2,o3,sub,m1,m2,m3,m4⟩ := hst.at_ n _ hΓ
 obtain ⟨p1,p2,p3,subm,q1,q2,q3,q4⟩ := hst.at_ m _ hΓm
 rcases (m4 hrk).old hrk3 with ⟨_,h0,_⟩ | ⟨b,rest,e,hb,hbase,hh,hcap⟩
 ·subst h0; simp at hj
 have hcx : u.comps x' = setCells (u.comps (gd u l j)) q [.sl u' lm] := by
  have := ofComps_spec u _ _ _ hx'; rw [List.append_nil] at this; exact this.symm
 have hrl := rowComps_length u l
 have hjl : j * u.size + u.size ≤ l.length * u.size := by rw [← Nat.succ_mul]; exact Nat.mul_le_mul_right _ (by omega)
 have hget : ∀ x,(rowComps u (l.set j x'))[x]? = if x = j * u.size + q then some (.sl u' lm) else (rowComps u l)[x]? := fun x => by
  rw [rowComps_set u x' l j hj,setCells_get _ _ _ _ (by rw [comps_length]; omega),comps_length,hcx]
  by_cases h1 : j * u.size ≤ x ∧ x < j * u.size + u.size
  ·rw [if_pos h1,setCells_get _ _ _ _ (by rw [comps_length]; simp; omega)]
   by_cases h2 : x = j * u.size + q
   ·subst h2
    rw [if_pos rfl,if_pos (by constructor <;> simp <;> omega)]
    have : j * u.size + q - j * u.size - q = 0 := by omega
    rw [this]; rfl
   ·rw [if_neg (by simp; omega),if_neg h2]
    have := rowComps_get u l j _ (x - j * u.size) (gd_get hj) (by omega)
    rw [show j * u.size + (x - j * u.size) = x by omega] at this
    exact this.symm
  ·rw [if_neg h1,if_neg (by omega)]
 obtain ⟨sub',hsub'⟩ : ∃ sub' : Nat → Option Addr × Nat,sub' = fun x => if x = j * u.size + q then ((ρ m).base,(ρ m).cap) else sub x := ⟨_,rfl⟩
 have hvals : valsFrom sub' 0 (rowComps u (l.set j x')) = setCells (valsFrom sub 0 (rowComps u l)) (j * u.size + q) ([Cell.full m].map (Cell.conc ρ)) := by
  apply List.ext_getElem?
  intro x
  rw [valsFrom_get,hget,setCells_get _ _ _ _ (by rw [valsFrom_length]; simp; omega),valsFrom_get]
  by_cases h1 : x = j * u.size + q
  ·subst h1
   rw [if_pos rfl,if_pos (by simp),Nat.sub_self,hsub']
   simp [compVal,Cell.conc,p1]
  ·rw [if_neg h1,if_neg (by simp; omega),hsub',Nat.zero_add]
   simp only [if_neg h1]
 have hlt : j * u.size + q + 1 ≤ (valsFrom sub 0 (rowComps u l)).length := by rw [valsFrom_length,hrl]; omega
 have hrun : (Instr.storeAt t ((AV.v (.one (.eptr n j q))).conc ρ) (y.conc ρ)).run P w = .ok () (w.setRow b (valsFrom sub' 0 (rowComps u (l.set j x')) ++ rest).toArray) := by
  have hst := run_storeCells_at P b (j * u.size + q) e ([Cell.full m].map (Cell.conc ρ)) 0 _ w hh (by simp; omega) (allOne_spec [Cell.full m] rfl ρ)
  have ex : (AV.v (.one (.eptr n j q))).conc ρ = .pointer (some ⟨b,j * u.size + q,none⟩) := by
   simp only [AV.conc,A0.conc,Cell.conc,hbase,o2,Option.map_some]
   unfold Addr.add; split <;> simp_all
  rw [ex,run_storeAt hT ht (AV.cells_conc hys ρ) (by simpa using hsz),hst,hvals]
  congr 2
  simp only [Nat.add_zero,List.length_map]
  rw [setCells_eq _ _ _ (by simpa using hlt)]
  rw [List.take_append_of_le_length (by omega),List.drop_append_of_le_length (by simp; omega)]
  simp
 refine ⟨ρ,_,hrun,fun _ _ => rfl,fun a ha => absurd ha (by simp),?_⟩
 obtain ⟨Γ2,hΓ2⟩ : ∃ Γ2 : HP,Γ2 = fun x => if x = m then none else Γ x := ⟨_,rfl⟩
 have hst2 : St bor W ρ Kn Γ2 w := hst.drop fun x p hp' => by
  rw [hΓ2] at hp'
  dsimp only at hp'
  split at hp'
  ·cases hp'
  ·exact hp'
 have hΓ2n : Γ2 n = some (.row u l rk) := by rw [hΓ2]; dsimp only; rw [if_neg (Ne.symm hmn)]; exact hΓ
 have happ : appH { val := und,writes := [(n,.row u (l.set j x') rk),(m,.gone)],touch := [n,m] } nm Γ = updH Γ2 n (.row u (l.set j x') rk) := by
  funext x
  simp only [appH,updH,lastW,List.length_nil,hΓ2]
  rw [if_neg (by omega)]
  by_cases h1 : m = x
  ·subst h1
   simp [live,hmn]
  ·by_cases h2 : n = x
   ·subst h2; simp [h1,live]
   ·simp [h1,h2,Ne.symm h1,Ne.symm h2]
 rw [knR_nil,happ]
 refine hst2.write hΓ2n hb trivial (fun _ h => by cases h) fun hfz => ?_
 have hfz1 : ∀ b',fzB ρ Γ w b' → fzB ρ Γ2 w b' := fun b' hb' => ⟨hb'.1,by
  rintro (⟨x,h1,h2⟩ | ⟨x,S,h1,h2⟩)
  ·rw [hΓ2] at h1
   dsimp only at h1
   split at h1
   ·cases h1
   ·exact hb'.2 (.inl ⟨x,h1,h2⟩)
  ·rw [hΓ2] at h1
   dsimp only at h1
   split at h1
   ·cases h1
   ·exact hb'.2 (.inr ⟨x,S,h1,h2⟩)⟩
 have hfm : ∀ b',(ρ m).blk = some b' → cellsB w b' → fzB ρ Γ2 w b' := fun b' hb' hc' => ⟨hc',by
  rintro (⟨x,h1,h2⟩ | ⟨x,S,h1,h2⟩)
  ·rw [hΓ2] at h1
   dsimp only at h1
   split at h1
   ·cases h1
   ·rename_i hx
    exact hx (hst.injH x m b' h1 (by rw [hΓm]; rfl) h2 (.inl hb'))
  ·rw [hΓ2] at h1
   dsimp only at h1
   split at h1
   ·cases h1
   ·exact (hst.hid b' ⟨x,S,h1,h2⟩).2 ⟨m,by rw [hΓm]; rfl,.inl hb'⟩⟩
 have hh' := setRow_heap w b _ (valsFrom sub' 0 (rowComps u (l.set j x')) ++ rest).toArray _ _ hh
 refine ⟨by simpa using o1,o2,by simpa using o3,sub',fun x v hx => ?_,fun x u2 l2 hx => ?_,m3,fun _ => OwnAt.new (.inr ⟨b,rest,e,hb,hbase,hh',?_⟩)⟩
 ·refine ⟨_,hbase,?_,fun e => absurd e hrk⟩
  have e1 : (⟨b,0,none⟩ : Addr).add x = ⟨b,x,none⟩ := by unfold Addr.add; split <;> simp_all
  rw [e1,cell_of_heap hh',List.getElem?_append_left (List.getElem?_eq_some_iff.1 hx).1]; exact hx
 ·rw [hget] at hx
  split at hx
  ·rename_i hx0
   cases hx
   have es : sub' x = ((ρ m).base,(ρ m).cap) := by rw [hsub',hx0]; simp
   rw [es]
   refine ⟨huf,p3,fun i v hv => ?_⟩
   have hvs : valsFrom subm 0 (rowComps u' lm) = flatVals u' lm := by
    unfold flatVals
    have : ∀ (cs : List Comp) (z:Nat),(∀ c ∈ cs,∃ v,c = .flat v) → valsFrom subm z cs = cs.map compFlat := by
     intro cs
     induction cs with
     | nil => intro _ _; rfl
     | cons c r ih =>
      intro z hz
      obtain ⟨v,rfl⟩ := hz c (by simp)
      simp only [valsFrom,List.map_cons,ih (z + 1) fun c hc => hz c (by simp [hc])]
      rfl
    exact this _ 0 fun c hc => by
     obtain ⟨x2,_,h2⟩ := List.mem_flatMap.1 hc
     exact St.views.flat_comps u' huf x2 c h2
   obtain ⟨a,k1,k2,_⟩ := q1 i v (by rw [hvs]; exact hv)
   rcases q4 hrm with ⟨_,h0,_⟩ | ⟨bm,prem,restm,em,hbm,hbasem,hhm,hcapm⟩
   ·rw [List.eq_nil_of_length_eq_zero h0] at hv; simp [flatVals,rowComps] at hv
   ·rw [hbasem] at k1
    cases k1
    have hcb : cellsB w bm := ⟨_,_,_,hhm⟩
    obtain ⟨f1,f2⟩ := hfz bm (hfm bm hbm hcb)
    refine ⟨_,hbasem,?_,f1,fun _ => ⟨(hst.own m bm (by rw [hΓm]; rfl) hbm).imp_right .inl,(unf.of hhm).same f2⟩⟩
    rw [← k2]
    exact World.cell?_of_block (by rw [add_block]; exact f2)
  ·rename_i hx0
   have es : sub' x = sub x := by rw [hsub']; exact if_neg hx0
   rw [es]
   exact (m2 x _ _ hx).mono fun b' hb' => ⟨⟨(hfz b' (hfz1 b' hb'.1)).1,fun e => ⟨(hb'.2 e).1,(hb'.2 e).2.same (hfz b' (hfz1 b' hb'.1)).2⟩⟩,(hfz b' (hfz1 b' hb'.1)).2⟩
 ·exact ⟨by rw [hcap.1]; simp [valsFrom_length,rowComps_length],hcap.2⟩
theorem storeR_loc (hT : TOk P ctx.tt) {t : TypeId} {i : TI} (ht : lookN ctx.tt t = some i) {n j q : Nat} {y : AV} (h : storeE i (.v (.one (.eptr n j q))) y hp k) :
  ∃ r,SemLoc P ctx.X hp nm (fun Kn => (AV.v (.one (.eptr n j q))).ok Kn ∧ y.ok Kn) (fun ρ => Instr.storeAt t ((AV.v (.one (.eptr n j q))).conc ρ) (y.conc ρ)) (fun _ => ()) r ∧ r.val = und ∧ k r := by
 unfold storeE at h
 cases hys : y.cells with
 | none => rw [hys] at h; exact h.elim
 | some ys =>
 rw [hys] at h
 dsimp only at h
 split at h
 ·rename_i hsz
  split at h
  ·rename_i u l rk he
   split at h
   ·exact h.elim
   ·rename_i hrk
    obtain ⟨hrk,hrk3⟩ := not_or.1 hrk
    split at h
    ·rename_i ps hps
     split at h
     ·rename_i hq
      split at h
      ·rename_i x' hx'
       obtain ⟨hj,h⟩ := ob_spec h
       have h := h.2 _ rfl
       simp only [decide_eq_true_eq] at hj
       refine ⟨_,⟨fun p hp' => by simp at hp'; subst hp'; rw [he]; simp,?_⟩,rfl,h⟩
       intro bor W ρ Kn Γ w _ hk htc _ hst
       have hΓ : Γ n = some (.row u l rk) := by rw [htc n (by simp),he]
       obtain ⟨o1,o2,o3,sub,m1,m2,m3,m4⟩ := hst.at_ n _ hΓ
       rcases (m4 hrk).old hrk3 with ⟨_,h0,_⟩ | ⟨b,rest,e,hb,hbase,hh,hcap⟩
       ·subst h0; simp at hj
       obtain ⟨hpl,hone,hpc⟩ := flatComps_spec ys ps hps
       have hcx : u.comps x' = setCells (u.comps (gd u l j)) q ps := by
        have := ofComps_spec u _ _ _ hx'; rw [List.append_nil] at this; exact this.symm
       have hrl := rowComps_length u l
       have hjl : j * u.size + u.size ≤ l.length * u.size := by rw [← Nat.succ_mul]; exact Nat.mul_le_mul_right _ (by omega)
       have hget : ∀ m,(rowComps u (l.set j x'))[m]? = if j * u.size + q ≤ m ∧ m < j * u.size + q + ps.length then ps[m - (j * u.size + q)]? else (rowComps u l)[m]? := fun m => by
        rw [rowComps_set u x' l j hj,setCells_get _ _ _ _ (by rw [comps_length]; omega),comps_length,hcx]
        by_cases h1 : j * u.size ≤ m ∧ m < j * u.size + u.size
        ·rw [if_pos h1,setCells_get _ _ _ _ (by rw [comps_length]; omega)]
         by_cases h2 : q ≤ m - j * u.size ∧ m - j * u.size < q + ps.length
         ·rw [if_pos h2,if_pos (by omega),show m - j * u.size - q = m - (j * u.size + q) by omega]
         ·rw [if_neg h2,if_neg (by omega)]
          have := rowComps_get u l j _ (m - j * u.size) (gd_get hj) (by omega)
          rw [show j * u.size + (m - j * u.size) = m by omega] at this
          exact this.symm
        ·rw [if_neg h1,if_neg (by omega)]
       have hvals : valsFrom sub 0 (rowComps u (l.set j x')) = setCells (valsFrom sub 0 (rowComps u l)) (j * u.size + q) (ys.map (Cell.conc ρ)) := by
        apply List.ext_getElem?
        intro m
        rw [valsFrom_get,hget,setCells_get _ _ _ _ (by rw [valsFrom_length]; simp; omega),valsFrom_get,(hpc ρ).1]
        simp only [List.length_map,List.getElem?_map]
        by_cases h1 : j * u.size + q ≤ m ∧ m < j * u.size + q + ps.length
        ·rw [if_pos h1,if_pos h1]
         cases hm : ps[m - (j * u.size + q)]? with
         | none => rfl
         | some c => exact congrArg some (compVal_flat ((hpc ρ).2 c (List.mem_of_getElem? hm)) _)
        ·rw [if_neg h1,if_neg h1]
       have hlt : j * u.size + q + ys.length ≤ (valsFrom sub 0 (rowComps u l)).length := by rw [valsFrom_length,hrl]; omega
       have hrun : (Instr.storeAt t ((AV.v (.one (.eptr n j q))).conc ρ) (y.conc ρ)).run P w = .ok () (w.setRow b (valsFrom sub 0 (rowComps u (l.set j x')) ++ rest).toArray) := by
        have hst := run_storeCells_at P b (j * u.size + q) e (ys.map (Cell.conc ρ)) 0 _ w hh (by simp; omega) (allOne_spec ys hone ρ)
        have ex : (AV.v (.one (.eptr n j q))).conc ρ = .pointer (some ⟨b,j * u.size + q,none⟩) := by
         simp only [AV.conc,A0.conc,Cell.conc,hbase,o2,Option.map_some]
         unfold Addr.add; split <;> simp_all
        rw [ex,run_storeAt hT ht (AV.cells_conc hys ρ) (by simpa using hsz),hst,hvals]
        congr 2
        simp only [Nat.add_zero,List.length_map]
        rw [setCells_eq _ _ _ (by simpa using hlt)]
        rw [List.take_append_of_le_length (by omega),List.drop_append_of_le_length (by omega)]
        simp
       refine ⟨ρ,_,hrun,fun _ _ => rfl,fun a ha => absurd ha (by simp),?_⟩
       rw [knR_nil,appH_write _ _ _ _ _ _ rfl]
       refine hst.write hΓ hb trivial (fun _ h => by cases h) fun hfz => ?_
       have hh' := setRow_heap w b _ (valsFrom sub 0 (rowComps u (l.set j x')) ++ rest).toArray _ _ hh
       refine ⟨by simpa using o1,o2,by simpa using o3,sub,fun m v hm => ?_,fun m u' l' hm => ?_,m3,fun _ => OwnAt.new (.inr ⟨b,rest,e,hb,hbase,hh',?_⟩)⟩
       ·refine ⟨_,hbase,?_,fun e => absurd e hrk⟩
        have e1 : (⟨b,0,none⟩ : Addr).add m = ⟨b,m,none⟩ := by unfold Addr.add; split <;> simp_all
        rw [e1,cell_of_heap hh',List.getElem?_append_left (List.getElem?_eq_some_iff.1 hm).1]; exact hm
       ·rw [hget] at hm
        split at hm
        ·obtain ⟨v,hv⟩ := (hpc ρ).2 _ (List.mem_of_getElem? hm); cases hv
        ·exact (m2 m u' l' hm).mono fun b' hb' => ⟨⟨(hfz b' hb'.1).1,fun e => ⟨(hb'.2 e).1,(hb'.2 e).2.same (hfz b' hb'.1).2⟩⟩,(hfz b' hb'.1).2⟩
       ·exact ⟨by rw [hcap.1]; simp [valsFrom_length,rowComps_length],hcap.2⟩
      ·exact h.elim
     ·exact h.elim
    ·exact storeN_loc hT ht hys hsz he hrk h
  ·exact h.elim
 ·exact h.elim
theorem flatComps_ints : ∀ (ms : List Int),flatComps (ms.map fun m => Cell.raw (.int .i64 m)) = some (ms.map fun m => .flat (.int .i64 m))
 | [] => rfl
 | m :: r => by simp only [List.map_cons,flatComps,flatComps_ints r,Option.map_some]
theorem storeA_R {i : TI} {n j q : Nat} {y : AV} (h : storeE i (.v (.one (.eaptr n j q))) y hp k) : storeE i (.v (.one (.eptr n j q))) y hp k := by
 unfold storeE at h ⊢
 cases hys : y.cells with
 | none => rw [hys] at h; exact h.elim
 | some ys =>
 rw [hys] at h
 dsimp only at h ⊢
 split at h
 ·rename_i hsz
  rw [if_pos hsz]
  split at h
  ·rename_i u l rk he
   split at h
   ·exact h.elim
   ·rename_i hrk
    rw [if_neg hrk]
    split at h
    ·rename_i ms ns hms hns
     have ey := intCells_spec (fun _ => {}) ys ms hms
     have hf : flatComps ys = some (ms.map fun m => .flat (.int .i64 m)) := by rw [ey]; exact flatComps_ints ms
     rw [hf]
     dsimp only
     have e : setCells (u.comps (gd u l j)) q (ms.map fun m => Comp.flat (.int .i64 m)) = (putInts q ms ns).map fun m => .flat (.int .i64 m) := by
      rw [intComps_spec _ _ hns,putInts_eq,setCells_map2]
     split at h
     ·rename_i x' hx'
      obtain ⟨h1,h⟩ := ob_spec h
      simp only [decide_eq_true_eq] at h1
      have hl : ys.length = ms.length := by rw [ey]; simp
      rw [if_pos (by simpa [← hl] using h1),e,hx']
      exact h
     ·exact h.elim
    ·exact h.elim
  ·exact h.elim
 ·exact h.elim
theorem storeE_loc (hT : TOk P ctx.tt) {t : TypeId} {i : TI} (ht : lookN ctx.tt t = some i) {x y : AV} (h : storeE i x y hp k) :
  ∃ r,SemLoc P ctx.X hp nm (fun Kn => x.ok Kn ∧ y.ok Kn) (fun ρ => Instr.storeAt t (x.conc ρ) (y.conc ρ)) (fun _ => ()) r ∧ r.val = und ∧ k r := by
 have core : ∀ {ρ : Env} {w : World} {n b off : Nat} {cs ys : List Cell} {e : TypeId} {v : Value},y.cells = some ys → ys.length = i.size → allOne ys = true → (ρ n).blk = some b → w.heap[b]? = some (.cells (cs.map (Cell.conc ρ)).toArray e (0,0)) → off + ys.length ≤ cs.length → v = .pointer (some ⟨b,off,none⟩) →
   (Instr.storeAt t v (y.conc ρ)).run P w = .ok () (w.setRow b ((setCells cs off ys).map (Cell.conc ρ)).toArray) := by
  intro ρ w n b off cs ys e v hys hsz hone hb hh hl hv
  have hst := run_storeCells_at P b off e (ys.map (Cell.conc ρ)) 0 _ w hh (by simp; omega) (allOne_spec ys hone ρ)
  rw [hv,run_storeAt hT ht (AV.cells_conc hys ρ) (by simpa using hsz),hst]
  congr 2
  simp only [Nat.add_zero,List.length_map,setCells_map (Cell.conc ρ) ys cs off hl]
 unfold storeE at h
 split at h
 ·rename_i n off ys hys
  split at h
  ·rename_i hsz
   split at h
   ·rename_i hone
    split at h
    ·rename_i cs e he
     split at h
     ·rename_i hl
      refine ⟨_,⟨fun p hp' => by simp at hp'; subst hp'; rw [he]; simp,?_⟩,rfl,h⟩
      intro bor W ρ Kn Γ w _ hk htc _ hst
      have hΓ : Γ n = some (.cells cs e) := by rw [htc n (by simp),he]
      obtain ⟨b,hb,hh⟩ := hst.at_ n _ hΓ
      have hrun := core hys hsz hone hb hh hl (ptr_conc hb)
      refine ⟨ρ,_,hrun,fun _ _ => rfl,fun a ha => absurd ha (by simp),?_⟩
      rw [knR_nil,appH_write _ _ _ _ _ _ rfl]
      refine hst.write hΓ hb (fun c hc => ?_) (fun _ h => by cases h) fun _ => ⟨b,hb,by rw [setRow_heap _ _ _ _ _ _ hh]⟩
      rcases setCells_mem hl hc with h1 | h1
      ·exact (hst.kn n _ hΓ).2 c h1
      ·exact AV.cells_ok hys hk.2 c h1
     ·exact h.elim
    ·exact h.elim
   ·exact h.elim
  ·exact h.elim
 ·rename_i n off ys hys
  split at h
  ·rename_i hsz
   split at h
   ·rename_i cs e he
    split at h
    ·rename_i ns ms hns hms
     obtain ⟨hl,h⟩ := ob_spec h
     simp only [decide_eq_true_eq] at hl
     have ec := intCells_spec (fun _ => {}) cs ns hns
     have ey := intCells_spec (fun _ => {}) ys ms hms
     have hset : (putInts off ms ns).map (fun q => Cell.raw (.int .i64 q)) = setCells cs off ys := by
      rw [putInts_eq,setCells_map2,← ec,← ey]
     rw [hset] at h
     have hone : allOne ys = true := by
      rw [ey]; exact ints_one ms
     refine ⟨_,⟨fun p hp' => by simp at hp'; subst hp'; rw [he]; simp,?_⟩,rfl,h⟩
     intro bor W ρ Kn Γ w _ hk htc _ hst
     have hΓ : Γ n = some (.cells cs e) := by rw [htc n (by simp),he]
     obtain ⟨b,hb,hh⟩ := hst.at_ n _ hΓ
     have hrun := core hys hsz hone hb hh hl (aptr_conc hb)
     refine ⟨ρ,_,hrun,fun _ _ => rfl,fun a ha => absurd ha (by simp),?_⟩
     rw [knR_nil,appH_write _ _ _ _ _ _ rfl]
     refine hst.write hΓ hb (fun c hc => ?_) (fun _ h => by cases h) fun _ => ⟨b,hb,by rw [setRow_heap _ _ _ _ _ _ hh]⟩
     rcases setCells_mem hl hc with h1 | h1
     ·exact (hst.kn n _ hΓ).2 c h1
     ·exact AV.cells_ok hys hk.2 c h1
    ·exact h.elim
   ·exact h.elim
  ·exact h.elim
 ·rename_i n j q ys hys
  exact storeR_loc hT ht (by unfold storeE; rw [hys]; exact h)
 ·rename_i n j q ys hys
  exact storeR_loc hT ht (storeA_R (by unfold storeE; rw [hys]; exact h))
 ·exact h.elim

theorem und_ok (Kn : Nat → Prop) : und.ok Kn := fun a ha => absurd ha (by simp)

theorem newRow_loc (cs : List Cell) (e : TypeId) (v : AV) (okv : (Nat → Prop) → Prop) (f : Env → Sem Value) (hok : ∀ Kn,okv Kn → ∀ c ∈ cs,c.ok Kn)
  (hv : ∀ Kn,v.ok (knN Kn nm)) (hf : ∀ (ρ : Env) (w : World),(f ρ).run P w = .ok (v.conc (updE ρ nm { blk := some w.heap.size })) (w.alloc (.cells (cs.map (Cell.conc ρ)).toArray e (0,0)))) :
  SemLoc P ctx.X hp nm okv f (fun ρ => v.conc ρ) { val := v,fresh := [.cells cs e] } := by
 refine ⟨fun p hp => absurd hp (by simp),?_⟩
 intro bor W ρ Kn Γ w _ hk _ hfr hst
 have hn : ¬ Kn nm := by simpa using hfr 0 (by simp)
 refine ⟨updE ρ nm { blk := some w.heap.size },_,hf ρ w,updE_old hn,?_,?_⟩
 ·rw [knR_one]; exact hv Kn
 ·rw [knR_one,appH_one]; exact hst.alloc hn (hok Kn hk)

theorem ptr_new_conc (ρ : Env) (w : World) (off:Nat) : (AV.v (.one (.ptr nm off))).conc (updE ρ nm { blk := some w.heap.size }) = .pointer (some ⟨w.heap.size,off,none⟩) := by
 simp [AV.conc,A0.conc,Cell.conc,addrOf,updE]

theorem alloc_loc (hT : TOk P ctx.tt) {t : TypeId} {i : TI} (ht : lookN ctx.tt t = some i) :
  SemLoc P ctx.X hp nm (fun _ => True) (fun _ => Instr.alloc t true (.tuple #[])) (fun ρ => (AV.v (.one (.ptr nm 0))).conc ρ) { val := .v (.one (.ptr nm 0)),fresh := [.cells (zcells i.zero) t] } := by
 refine newRow_loc _ _ _ _ _ (fun _ _ => raw_ok _ _) (fun _ => .inr rfl) fun ρ w => ?_
 rw [ptr_new_conc]
 simp [Instr.alloc,hT.z ht,newVar,newRow,zcells,-List.map_map,map_raw]

theorem box_loc {t : TypeId} {x : AV} {xs : List Cell} (hx : x.cells = some xs) :
  SemLoc P ctx.X hp nm (fun Kn => x.ok Kn) (fun ρ => Instr.box t (x.conc ρ)) (fun ρ => (AV.v (.one (.ptr nm 0))).conc ρ) { val := .v (.one (.ptr nm 0)),fresh := [.cells xs t] } := by
 refine newRow_loc _ _ _ _ _ (fun Kn hk => AV.cells_ok hx hk) (fun _ => .inr rfl) fun ρ w => ?_
 rw [ptr_new_conc]
 simp [Instr.box,newVar,newRow,AV.cells_conc hx]
end
end Go.Ev
