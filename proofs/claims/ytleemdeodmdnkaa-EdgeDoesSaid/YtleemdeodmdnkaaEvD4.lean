/- Maps of flat keys and values. -/
import Derived.Test.YtleemdeodmdnkaaEvD3
import Derived.MapKept
noncomputable section
set_option linter.unusedSectionVars false
set_option linter.unusedVariables false
set_option linter.unusedSimpArgs false
namespace Go.Ev
open Go.RowKit

theorem rawC_conc (t : Ty) (x : t.T) (ρ : Env) : (rawC t x).map (Cell.conc ρ) = (t.comps x).map compFlat := by
 simp [rawC,List.map_map,Cell.conc,Function.comp_def]
theorem valA_conc (a : Bool) (t : Ty) (x : t.T) (ρ : Env) : (valA a t x).conc ρ = valV a t x := by
 unfold valA valV
 cases a with
 | true => simp only [A0.conc,rawC_conc]
 | false =>
  have h := rawC_conc t x ρ
  dsimp only
  rw [← h]
  match rawC t x with
  | [] => rfl
  | [c] => rfl
  | _ :: _ :: _ => rfl
theorem valA_ok (a : Bool) (t : Ty) (x : t.T) (Kn : Nat → Prop) : (valA a t x).ok Kn := by
 have h : ∀ c ∈ rawC t x,c.ok Kn := fun c hc => by
  obtain ⟨_,_,rfl⟩ := List.mem_map.1 hc; trivial
 unfold valA
 cases a with
 | true => exact h
 | false =>
  dsimp only
  split
  ·rename_i c hm
   exact h c (by rw [hm]; simp)
  ·trivial
theorem dec_flat {t : Ty} {x : t.T} {cs : List Cell} {tc : List Nat} (hf : t.flat = true) (h : decT (fun _ => none) t cs = some (x,[],tc)) (w : World) (ρ : Env) : cs.map (Cell.conc ρ) = (t.comps x).map compFlat := by
 obtain ⟨ys,e,_,ha⟩ := decT_spec _ t _ _ _ _ h
 have := ha noB w ρ (fun _ => False) (fun _ => none) w (fun _ _ => rfl) (St.none w _)
 rw [List.append_nil] at e
 subst e
 have key : ∀ (cs : List Comp) (vs : List Value),(∀ c ∈ cs,∃ v,c = .flat v) → All2 (TopC w (inW w)) cs vs → vs = cs.map compFlat := by
  intro cs
  induction cs with
  | nil => intro vs _ h; cases vs <;> first | rfl | exact h.elim
  | cons c r ih =>
   intro vs hc h
   cases vs with
   | nil => exact h.elim
   | cons v s =>
    obtain ⟨u,rfl⟩ := hc c (by simp)
    have h1 : v = u := h.1
    rw [h1,ih s (fun c hm => hc c (by simp [hm])) h.2]; rfl
 exact key _ _ (fun c hc => flat_comps hf hc) this
theorem keyE_spec {a : Bool} {t : Ty} {v : AV} {x : t.T} (hf : t.flat = true) (h : keyE a t v = some x) (w : World) (ρ : Env) : v.conc ρ = valV a t x := by
 unfold keyE at h
 split at h
 ·split at h <;> try (cases h; done)
  rename_i cs ha
  split at h <;> try (cases h; done)
  rename_i hd
  cases h
  have := dec_flat hf hd w ρ
  rw [ha]
  simp only [AV.conc,A0.conc,this,valV]
 ·split at h <;> try (cases h; done)
  rename_i c ha
  split at h <;> try (cases h; done)
  rename_i hd
  cases h
  have := dec_flat hf hd w ρ
  have ha : a = false := by simpa using ha
  rw [ha]
  unfold valV
  dsimp only
  rw [← this]
  rfl
 ·cases h
theorem eqT_iff : ∀ {t : Ty},t.flat = true → ∀ (x y : t.T),eqT t x y = true ↔ x = y
 | .int _,_,x,y => by simp [eqT]
 | .bool,_,x,y => by simp [eqT]
 | .str,_,x,y => MapKept.bytes_beq x y
 | .prod a b,h,x,y => by
  simp only [Ty.flat,Bool.and_eq_true] at h
  simp only [eqT,Bool.and_eq_true,eqT_iff h.1,eqT_iff h.2]
  exact ⟨fun ⟨h1,h2⟩ => Prod.ext h1 h2,fun h => by subst h; exact ⟨rfl,rfl⟩⟩
 | .sl _,h,_,_ => by simp [Ty.flat] at h
def atM {k : Ty} {β : Type} (x : k.T) : List (k.T × β) → Nat → Option (Nat × β)
 | [],_ => none
 | p :: r,i => match eqT k x p.1 with
  | true => some (i,p.2)
  | false => atM x r (i + 1)
theorem atM_look {k : Ty} {β : Type} (x : k.T) : ∀ (l : List (k.T × β)) (i:Nat),(atM x l i).map (·.2) = lookM l x
 | [],_ => rfl
 | p :: r,i => by
  unfold atM lookM
  cases eqT k x p.1 with
  | true => rfl
  | false => exact atM_look x r (i + 1)
theorem atM_put {k : Ty} {β : Type} (x : k.T) (y : β) : ∀ (l : List (k.T × β)) (i:Nat),match atM x l i with
  | none => putM l x y = l ++ [(x,y)]
  | some (j,_) => i ≤ j ∧ ∃ p,l[j - i]? = some p ∧ eqT k x p.1 = true ∧ putM l x y = l.set (j - i) (x,y)
 | [],_ => rfl
 | p :: r,i => by
  unfold atM putM
  cases h : eqT k x p.1 with
  | true => exact ⟨Nat.le_refl _,p,by simp,h,by simp⟩
  | false =>
   have := atM_put x y r (i + 1)
   dsimp only
   split
   ·rename_i e
    rw [e] at this
    simp only at this
    rw [this]; rfl
   ·rename_i j q e
    rw [e] at this
    obtain ⟨h1,p',h2,h3,h4⟩ := this
    have e1 : j - i = (j - (i + 1)) + 1 := by omega
    exact ⟨by omega,p',by rw [e1]; simpa using h2,h3,by rw [e1,h4]; simp⟩
end Go.Ev
namespace Go.Ev
open Go.RowKit
section
variable {P : Program} {ctx : Ctx} {hp : HP} {nm : Nat} {k : Rec → Prop}
theorem checkKey_spec (hT : TOk P ctx.tt) (em : Bool) : ∀ (d:Nat) (t : TypeId) (xs : List Cell) (b : Bool),eqE ctx.tt d t xs xs = some b → ∀ (D:Nat),d ≤ D → ∀ (ρ : Env) (w : World),
  ∃ i,lookN ctx.tt t = some i ∧ ∃ u,valOf i.desc (xs.map (Cell.conc ρ)) = some u ∧ (Instr.checkKey em D t u).run P w = .ok () w
 | 0,_,_,_,h,_,_,_,_ => by simp [eqE] at h
 | d + 1,t,xs,b,h,D,hD,ρ,w => by
  obtain ⟨D,rfl⟩ : ∃ D',D = D' + 1 := ⟨D - 1,by omega⟩
  simp only [eqE] at h
  split at h
  ·cases h
  ·rename_i i hi
   refine ⟨i,hi,?_⟩
   have hu := (hT t i hi).1
   split at h
   ·rename_i k0 hd
    split at h
    ·refine ⟨_,(by simp only [valOf,hd,isAggD,Bool.false_eq_true,if_false,List.map_cons,List.map_nil]; rfl),?_⟩
     have e0 : P.underlying t = some (.int k0) := by rw [hu,hd]
     simp [Instr.checkKey,run_underlying e0]
    ·cases h
   ·rename_i hd
    split at h
    ·refine ⟨_,(by simp only [valOf,hd,isAggD,Bool.false_eq_true,if_false,List.map_cons,List.map_nil]; rfl),?_⟩
     have e0 : P.underlying t = some .bool := by rw [hu,hd]
     simp [Instr.checkKey,run_underlying e0]
    ·cases h
   ·rename_i hd
    split at h
    ·refine ⟨_,(by simp only [valOf,hd,isAggD,Bool.false_eq_true,if_false,List.map_cons,List.map_nil]; rfl),?_⟩
     have e0 : P.underlying t = some .string := by rw [hu,hd]
     simp [Instr.checkKey,run_underlying e0]
    ·cases h
   ·rename_i fs hd
    refine ⟨.agg (xs.map (Cell.conc ρ)).toArray,by simp [valOf,hd,isAggD],?_⟩
    have e0 : P.underlying t = some (.struct fs) := by rw [hu,hd]
    simp only [Instr.checkKey,Sem.run_bind,run_underlying e0,Result.andThen_ok]
    rw [← Array.forIn_toList]
    clear hd e0 hu
    generalize fs.toList = l at h ⊢
    induction l generalizing b with
    | nil => simp
    | cons f r ih =>
     simp only [eqFields] at h
     split at h
     ·cases h
     ·rename_i fi hfi
      split at h
      ·cases h
      ·rename_i hnm
       split at h
       ·rename_i b1 b2 h1 h2
        obtain ⟨fi',hfi',u,hu1,hr⟩ := checkKey_spec hT em d f.type _ b1 h1 D (by omega) ρ w
        rw [hfi] at hfi'; cases hfi'
        rw [drop_take_map] at hu1
        simp only [List.forIn_cons,ne_eq,hnm,not_false_eq_true,if_true,Sem.run_bind,run_part hT hfi _ _ hu1,Result.andThen_ok,hr,Sem.run_pure]
        exact ih b2 h2
       ·cases h
   ·rename_i n e hd
    split at h
    ·rename_i ei hei
     refine ⟨.agg (xs.map (Cell.conc ρ)).toArray,by simp [valOf,hd,isAggD],?_⟩
     have e0 : P.underlying t = some (.array n e) := by rw [hu,hd]
     simp only [Instr.checkKey,Sem.run_bind,run_underlying e0,Result.andThen_ok]
     rw [Std.Legacy.Range.forIn_eq_forIn_range']
     simp only [Std.Legacy.Range.size,Nat.sub_zero,Nat.add_sub_cancel,Nat.div_one]
     clear hd e0 hu
     generalize 0 = s at h ⊢
     induction n generalizing s b with
     | zero => simp
     | succ n ih =>
      simp only [eqElems] at h
      split at h
      ·rename_i b1 b2 h1 h2
       obtain ⟨ei',hei',u,hu1,hr⟩ := checkKey_spec hT em d e _ b1 h1 D (by omega) ρ w
       rw [hei] at hei'; cases hei'
       rw [drop_take_map] at hu1
       simp only [List.range'_succ,List.forIn_cons,Sem.run_bind,hT.sz hei,run_part hT hei _ _ hu1,Result.andThen_ok,hr,Sem.run_pure]
       exact ih b2 (s + 1) h2
      ·cases h
    ·cases h
   ·cases h
theorem valOf_valV {t : Ty} {d : TypeDesc} {x : t.T} {u : Value} {ρ : Env} (h : valOf d ((rawC t x).map (Cell.conc ρ)) = some u) : u = valV (isAggD d) t x := by
 rw [rawC_conc] at h
 unfold valOf at h
 unfold valV
 split at h
 ·rename_i ha
  cases h; rw [ha]
 ·rename_i ha
  have : isAggD d = false := by simpa using ha
  rw [this]
  dsimp only
  split at h
  ·rename_i v hv
   cases h; rw [hv]
  ·cases h
theorem checkKey_run (hT : TOk P ctx.tt) {kt : TypeId} {ki : TI} (hki : lookN ctx.tt kt = some ki) {kT : Ty} (hK : KeyE ctx.tt kt kT) (em : Bool) (x : kT.T) (w : World) :
  (Instr.checkKey em 10000 kt (valV (isAggD ki.desc) kT x)).run P w = .ok () w := by
 obtain ⟨i,hi,u,hu,hr⟩ := checkKey_spec hT em 20 kt _ _ (hK x x) 10000 (by omega) (fun _ => {}) w
 rw [hki] at hi; cases hi
 rw [← valOf_valV hu]; exact hr
theorem equal_run (hT : TOk P ctx.tt) {kt : TypeId} {ki : TI} (hki : lookN ctx.tt kt = some ki) {kT : Ty} (hK : KeyE ctx.tt kt kT) (x y : kT.T) (w : World) :
  (Op.equal kt (valV (isAggD ki.desc) kT x) (valV (isAggD ki.desc) kT y)).run P w = .ok (eqT kT x y) w := by
 obtain ⟨i,hi,u,v,hu,hv,hr⟩ := eqE_spec hT 20 kt _ _ _ (hK x y) 10000 (by omega) (fun _ => {}) w
 rw [hki] at hi; cases hi
 rw [← valOf_valV hu,← valOf_valV hv]; exact hr
def entM (ka va : Bool) (kT vT : Ty) (l : List (kT.T × vT.T)) : List (Value × Value) := l.map fun p => (valV ka kT p.1,valV va vT p.2)
def entF {β : Type} (ka : Bool) (kT : Ty) (f : β → Value) (l : List (kT.T × β)) : List (Value × Value) := l.map fun p => (valV ka kT p.1,f p.2)
theorem findAsking_run {β : Type} (f : β → Value) (hT : TOk P ctx.tt) {kt : TypeId} {ki : TI} (hki : lookN ctx.tt kt = some ki) {kT : Ty} (hK : KeyE ctx.tt kt kT) (x : kT.T) (w : World) :
  ∀ (es : List MapEntry) (l : List (kT.T × β)) (i:Nat),es.map (fun e => (e.key,e.val)) = entF (isAggD ki.desc) kT f l →
   (Instr.findAsking kt (valV (isAggD ki.desc) kT x) es i).run P w = .ok ((atM x l i).map fun q => (q.1,f q.2)) w
 | [],l,i,h => by
  cases l with
  | nil => rfl
  | cons p r => simp [entF] at h
 | e :: es,l,i,h => by
  cases l with
  | nil => simp [entF] at h
  | cons p r =>
   simp only [entF,List.map_cons,List.cons.injEq,Prod.mk.injEq] at h
   obtain ⟨⟨h1,h2⟩,h3⟩ := h
   simp only [Instr.findAsking,Sem.run_bind,h1,equal_run hT hki hK,Result.andThen_ok,atM]
   cases eqT kT x p.1 with
   | true => simp [h2]
   | false => exact findAsking_run f hT hki hK x w es r (i + 1) h3
theorem scalar_key (hT : TOk P ctx.tt) {kt : TypeId} {ki : TI} (hki : lookN ctx.tt kt = some ki) {kT : Ty} (hf : kT.flat = true) (hK : KeyE ctx.tt kt kT) (ha : isAggD ki.desc = false) (x y : kT.T) :
  Instr.sameNow ki.desc (valV false kT x) (valV false kT y) = some (eqT kT x y) := by
 have h := hK x y
 simp only [eqE,hki] at h
 split at h
 ·rename_i k0 hd
  cases kT with
  | int k1 =>
   simp only [rawC,Ty.comps,List.map_cons,List.map_nil,compFlat,if_true] at h
   simp only [hd,valV,Ty.comps,List.map_cons,List.map_nil,compFlat,Instr.sameNow,if_true,eqT]
  | bool => simp [rawC,Ty.comps,compFlat] at h
  | str => simp [rawC,Ty.comps,compFlat] at h
  | prod a b =>
   split at h
   ·rename_i hx hy
    have h1 := congrArg List.length hx
    have h2 := Ty.size_pos a
    have h3 := Ty.size_pos b
    simp [rawC,comps_length,Ty.size] at h1; omega
   ·cases h
  | sl u => simp [Ty.flat] at hf
 ·rename_i hd
  cases kT with
  | bool => simp only [hd,valV,Ty.comps,List.map_cons,List.map_nil,compFlat,Instr.sameNow,eqT]
  | int k1 => simp [rawC,Ty.comps,compFlat] at h
  | str => simp [rawC,Ty.comps,compFlat] at h
  | prod a b =>
   split at h
   ·rename_i hx hy
    have h1 := congrArg List.length hx
    have h2 := Ty.size_pos a
    have h3 := Ty.size_pos b
    simp [rawC,comps_length,Ty.size] at h1; omega
   ·cases h
  | sl u => simp [Ty.flat] at hf
 ·rename_i hd
  cases kT with
  | str => simp only [hd,valV,Ty.comps,List.map_cons,List.map_nil,compFlat,Instr.sameNow,eqT]
  | int k1 => simp [rawC,Ty.comps,compFlat] at h
  | bool => simp [rawC,Ty.comps,compFlat] at h
  | prod a b =>
   split at h
   ·rename_i hx hy
    have h1 := congrArg List.length hx
    have h2 := Ty.size_pos a
    have h3 := Ty.size_pos b
    simp [rawC,comps_length,Ty.size] at h1; omega
   ·cases h
  | sl u => simp [Ty.flat] at hf
 ·rename_i fs hd; rw [hd] at ha; cases ha
 ·rename_i n e hd; rw [hd] at ha; cases ha
 ·cases h
theorem findNow_run {β : Type} (f : β → Value) (hT : TOk P ctx.tt) {kt : TypeId} {ki : TI} (hki : lookN ctx.tt kt = some ki) {kT : Ty} (hf : kT.flat = true) (hK : KeyE ctx.tt kt kT) (ha : isAggD ki.desc = false) (x : kT.T) :
  ∀ (es : List MapEntry) (l : List (kT.T × β)) (i:Nat),es.map (fun e => (e.key,e.val)) = entF false kT f l →
   Instr.findNow ki.desc (valV false kT x) es i = some ((atM x l i).map fun q => (q.1,f q.2))
 | [],l,i,h => by
  cases l with
  | nil => rfl
  | cons p r => simp [entF] at h
 | e :: es,l,i,h => by
  cases l with
  | nil => simp [entF] at h
  | cons p r =>
   simp only [entF,List.map_cons,List.cons.injEq,Prod.mk.injEq] at h
   obtain ⟨⟨h1,h2⟩,h3⟩ := h
   simp only [Instr.findNow,h1,scalar_key hT hki hf hK ha,atM]
   cases eqT kT x p.1 with
   | true => simp [h2]
   | false => exact findNow_run f hT hki hf hK ha x es r (i + 1) h3
theorem findKey_run {β : Type} (f : β → Value) (hT : TOk P ctx.tt) {kt : TypeId} {ki : TI} (hki : lookN ctx.tt kt = some ki) {kT : Ty} (hf : kT.flat = true) (hK : KeyE ctx.tt kt kT) (x : kT.T) (w : World)
  (es : List MapEntry) (l : List (kT.T × β)) (h : es.map (fun e => (e.key,e.val)) = entF (isAggD ki.desc) kT f l) :
  (Instr.findKey kt (valV (isAggD ki.desc) kT x) es).run P w = .ok ((atM x l 0).map fun q => (q.1,f q.2)) w := by
 have hu := hT.u hki w
 unfold Instr.findKey
 simp only [Sem.run_bind,hu,Result.andThen_ok]
 cases ha : isAggD ki.desc with
 | false =>
  rw [ha] at h
  rw [findNow_run f hT hki hf hK ha x es l 0 h]
  rfl
 | true =>
  cases es with
  | nil =>
   cases l with
   | nil => rfl
   | cons p r => simp [entF] at h
  | cons e es =>
   have : Instr.findNow ki.desc (valV true kT x) (e :: es) 0 = none := by
    have : Instr.sameNow ki.desc (valV true kT x) e.key = none := by
     unfold Instr.sameNow valV
     cases ki.desc <;> simp_all [isAggD]
    simp only [Instr.findNow,this]
   rw [this]
   rw [← ha]
   exact findAsking_run f hT hki hK x w (e :: es) l 0 h

theorem St.writeW {bor : Bor} {W w w1 : World} {ρ : Env} {Kn : Nat → Prop} {Γ : HP} {n b : Nat} {o o' : AObj} (h : St bor W ρ Kn Γ w) (hn : Γ n = some o) (hb : (ρ n).blk = some b) (ho' : o'.ok Kn) (hno : ∀ S,o' ≠ .hide S)
  (hf : Fr bor W w1) (hw : ∀ b',b' ≠ b → w1.heap[b']? = w.heap[b']?) (hsz : w.heap.size ≤ w1.heap.size)
  (hat : (∀ b',fzB ρ Γ w b' → fzB ρ (updH Γ n o') w1 b' ∧ w1.heap[b']? = w.heap[b']?) → objAt (fzB ρ (updH Γ n o') w1) (pmB bor W) ρ n o' w1) : St bor W ρ Kn (updH Γ n o') w1 := by
 have hs : ∀ m,(updH Γ n o' m).isSome = true → (Γ m).isSome = true := fun m hm => by
  unfold updH at hm; split at hm
  ·rename_i e; subst e; simp [hn]
  ·exact hm
 have hHI : ∀ b,HI (updH Γ n o') b → HI Γ b := fun b ⟨m,S,h1,h2⟩ => by
  unfold updH at h1
  split at h1
  ·cases h1; exact absurd rfl (hno S)
  ·exact ⟨m,S,h1,h2⟩
 have hfz : ∀ b',fzB ρ Γ w b' → fzB ρ (updH Γ n o') w1 b' ∧ w1.heap[b']? = w.heap[b']? := fun b' hf => by
  have hne : b' ≠ b := by rintro rfl; exact hf.2 (.inl ⟨n,by simp [hn],.inl hb⟩)
  refine ⟨⟨hf.1.same (hw _ hne),?_⟩,hw _ hne⟩
  rintro (⟨m,h1,h2⟩ | ⟨m,S,h1,h2⟩)
  ·exact hf.2 (.inl ⟨m,hs m h1,h2⟩)
  ·exact hf.2 (.inr (hHI b' ⟨m,S,h1,h2⟩))
 refine ⟨hf,fun m p hp => ?_,fun m p hp => ?_,fun m m' c hm hm' hb1 hb2 => h.injH m m' c (hs m hm) (hs m' hm') hb1 hb2,fun m c hm hc => h.ownH m c (hs m hm) hc,fun c hc => ?_,fun m p hp => ?_⟩
 rotate_right
 ·unfold updH at hp
  split at hp
  ·rename_i e; subst e
   rcases h.noe m o hn with ⟨g,rfl⟩ | he
   ·have := (h.at_ m _ hn).1
    rw [hb] at this; cases this
   ·exact .inr he
  ·exact h.noe m p hp
 rotate_right
 ·obtain ⟨h1,h2⟩ := h.hid c (hHI c hc)
  exact ⟨by omega,fun ⟨m,h3,h4⟩ => h2 ⟨m,hs m h3,h4⟩⟩
 ·unfold updH at hp; split at hp
  ·rename_i e; subst e; cases hp; exact hat hfz
  ·rename_i e
   refine objAt_keep (Kn := Kn) (h.at_ m p hp) (fun _ _ => rfl) (h.kn m p hp).1 (h.kn m p hp).2 hfz (fun _ _ h => h) fun c hc => hw _ ?_
   rintro rfl
   exact e (h.injH m n _ (by simp [hp]) (by simp [hn]) hc (.inl hb))
 ·unfold updH at hp; split at hp
  ·rename_i e; subst e; cases hp; exact ⟨(h.kn m o hn).1,ho'⟩
  ·exact h.kn m p hp
theorem mapTy_spec {i : TI} {kk : TypeId → TI → TI → Ty → Ty → Prop} (h : mapTy ctx i kk) : ∃ kt et ki ei kT vT,i.desc = .map kt et ∧ lookN ctx.tt kt = some ki ∧ lookN ctx.tt et = some ei ∧ kT.flat = true ∧ vT.flat = true ∧ isAggV ei.zero = isAggD ei.desc ∧ kk kt ki ei kT vT := by
 unfold mapTy at h
 split at h
 ·rename_i kt et hd
  split at h
  ·rename_i ki ei h1 h2
   split at h
   ·rename_i kT vT h3 h4
    split at h
    ·rename_i h5
     simp only [Bool.and_eq_true,beq_iff_eq] at h5
     exact ⟨kt,et,ki,ei,kT,vT,hd,h1,h2,h5.1.1,h5.1.2,h5.2,h⟩
    ·exact h.elim
   ·exact h.elim
  ·exact h.elim
 ·exact h.elim
theorem zero_valV {t : Ty} {z : t.T} {v : Value} {tc : List Nat} (hf : t.flat = true) (h : decT (fun _ => none) t (zcells v) = some (z,[],tc)) (w : World) : v = valV (isAggV v) t z := by
 have := zero_vals hf h w
 cases v with
 | agg cs =>
  simp only [isAggV,valV]
  rw [← this]
  rfl
 | _ =>
  simp only [isAggV,valV]
  rw [← this]
  rfl
theorem makeMapE_loc {i : TI} {t : TypeId} (h : makeMapE ctx i nm k) : ∃ r,SemLoc P ctx.X hp nm (fun _ => True) (fun _ => Instr.makeMap t none) (fun ρ => r.val.conc ρ) r ∧ k r := by
 have h0 := mapTy_spec h
 clear h
 obtain ⟨kt,et,ki,ei,kT,vT,hd,h1,h2,h3,h4,h5,h⟩ := h0
 refine ⟨_,⟨fun p hp => absurd hp (by simp),?_⟩,h⟩
 intro bor W ρ Kn Γ w _ _ _ hfr hst
 have hn : ¬ Kn nm := by simpa using hfr 0 (by simp)
 refine ⟨updE ρ nm { blk := some w.heap.size },w.alloc (.map #[] 0),?_,updE_old hn,?_,?_⟩
 ·simp only [AV.conc,A0.conc,Cell.conc,updE,if_true]; rfl
 ·exact .inr ⟨Nat.le_refl _,by simp⟩
 ·rw [knR_one]
  have e : ∀ (v : AV) (o : AObj) (tc : List Nat),live (some o) = some o → appH { val := v,fresh := [o],touch := tc } nm Γ = updH Γ nm o := fun v o tc ho => by
   funext m; simp only [appH,updH,List.length_singleton,lastW]
   by_cases h : m = nm
   ·subst h; simpa using ho
   ·have : ¬ (nm ≤ m ∧ m < nm + 1) := by omega
    simp [h,this]
  rw [e _ _ _ rfl]
  have hsz := hst.fr.size
  refine hst.swap (G := []) (o := .map (isAggD ki.desc) (isAggD ei.desc) kT vT []) hn (hst.fr.alloc _) (fun b hb _ => Below.heap_alloc _ _ _ hb) (fun b hb => ?_) (fun m p hp => ?_) trivial (fun _ h => by cases h) fun _ _ => ?_
  ·cases hb; exact ⟨.inl (Nat.le_refl _),.inl hsz⟩
  ·unfold updH at hp
   split at hp
   ·rename_i e1; cases hp; exact .inl ⟨e1,rfl⟩
   ·rename_i e1; exact .inr ⟨e1,by simp,hp⟩
  ·exact ⟨h3,h4,w.heap.size,#[],0,by simp [updE],by show (w.heap.push _)[w.heap.size]? = _; simp,rfl⟩
theorem lookupE_loc (hT : TOk P ctx.tt) {t : TypeId} {i : TI} (ht : lookN ctx.tt t = some i) {x ix : AV} {ok : Bool} (h : lookupE ctx i x ix ok hp k) :
  ∃ r,SemLoc P ctx.X hp nm (fun _ => True) (fun ρ => Instr.lookup t (x.conc ρ) (ix.conc ρ) ok) (fun ρ => r.val.conc ρ) r ∧ k r := by
 have h0 := mapTy_spec h
 clear h
 obtain ⟨kt,et,ki,ei,kT,vT,hd,h1,h2,h3,h4,h5,h⟩ := h0
 split at h <;> try (exact h.elim)
 rename_i n
 split at h <;> try (exact h.elim)
 rename_i ka va kT' vT' l hn
 split at h <;> try (exact h.elim)
 rename_i hag
 split at h <;> try (exact h.elim)
 rename_i hty
 obtain ⟨rfl,rfl⟩ := hty
 obtain ⟨rfl,rfl⟩ := hag
 split at h <;> try (exact h.elim)
 rename_i a z tc hk hz
 obtain ⟨hK,_,h⟩ := h
 refine ⟨_,SemLoc.pure ?_,h _ rfl⟩
 intro bor W ρ Kn Γ w _ _ htc hst
 obtain ⟨_,_,b,es,clk,hb,hh,he⟩ := hst.at_ n _ (by rw [htc n (by simp),hn])
 have hkey := keyE_spec h3 hk w ρ
 have hfind := findKey_run (fun y : vT'.T => valV (isAggD ei.desc) vT' y) hT h1 h3 hK a w es.toList l he
 have hchk := checkKey_run hT h1 hK es.isEmpty a w
 have hzero := zero_valV h4 hz w
 rw [h5] at hzero
 have hlook := atM_look a l 0
 have eb : ∀ v : Value,(A0.one (.raw v)).conc ρ = v := fun _ => rfl
 refine ⟨?_,?_⟩
 ·rw [hkey]
  have hxc : (AV.v (.one (.mp n))).conc ρ = .map (some b) := by simp only [AV.conc,A0.conc,Cell.conc,hb]
  rw [hxc]
  simp only [Instr.lookup,Sem.run_bind,hT.u ht,hd,Result.andThen_ok,MapKept.run_getObj_map hh,Sem.run_pure,hchk,hfind]
  cases hat : atM a l 0 with
  | none =>
   rw [hat] at hlook
   have e1 : lookM l a = none := hlook.symm
   simp only [Option.map_none,Sem.run_bind,hT.z h2,Result.andThen_ok,Sem.run_pure]
   have e2 : lookD l a z = z := by simp [lookD,e1]
   have e3 : hasM l a = false := by simp [hasM,e1]
   cases ok with
   | true =>
    simp only [if_true,Sem.run_pure,AV.conc,List.map_cons,List.map_nil,valA_conc,eb,e2,e3,hzero]
   | false =>
    simp only [Bool.false_eq_true,if_false,Sem.run_pure,AV.conc,valA_conc,e2,hzero]
  | some q =>
   rw [hat] at hlook
   have e1 : lookM l a = some q.2 := hlook.symm
   simp only [Option.map_some,Sem.run_bind,Result.andThen_ok,Sem.run_pure]
   have e2 : lookD l a z = q.2 := by simp [lookD,e1]
   have e3 : hasM l a = true := by simp [hasM,e1]
   cases ok with
   | true =>
    simp only [if_true,Sem.run_pure,AV.conc,List.map_cons,List.map_nil,valA_conc,eb,e2,e3]
   | false =>
    simp only [Bool.false_eq_true,if_false,Sem.run_pure,AV.conc,valA_conc,e2]
 ·cases ok with
  | true =>
   intro x hx
   simp only [if_true,List.mem_cons,List.not_mem_nil,or_false] at hx
   rcases hx with rfl | rfl
   ·exact valA_ok _ _ _ _
   ·trivial
  | false => exact valA_ok _ _ _ _
theorem sameBits_refl {t : Ty} (hf : t.flat = true) (a : Bool) (x : t.T) (n:Nat) (hv : valV a t x ≠ .tuple #[]) : Instr.sameBits (n + 1) (valV a t x) (valV a t x) = true := by
 have h1 : ∀ m v,v ∈ (t.comps x).map compFlat → Instr.sameBits m v v = true := fun m v hv => by
  obtain ⟨c,hc,rfl⟩ := List.mem_map.1 hv
  have key : ∀ (t : Ty) (x : t.T) (c : Comp),t.flat = true → c ∈ t.comps x → Instr.sameBits m (compFlat c) (compFlat c) = true := by
   intro t
   induction t with
   | int k => intro x c _ hc; simp only [Ty.comps,List.mem_singleton] at hc; subst hc; cases m <;> simp [compFlat,Instr.sameBits]
   | bool => intro x c _ hc; simp only [Ty.comps,List.mem_singleton] at hc; subst hc; cases m <;> simp [compFlat,Instr.sameBits]
   | str =>
    intro x c _ hc
    simp only [Ty.comps,List.mem_singleton] at hc
    subst hc
    cases m <;> exact (MapKept.bytes_beq _ _).2 rfl
   | prod a b iha ihb =>
    intro x c hf hc
    simp only [Ty.flat,Bool.and_eq_true] at hf
    simp only [Ty.comps,List.mem_append] at hc
    exact hc.elim (iha x.1 c hf.1) (ihb x.2 c hf.2)
   | sl u _ => intro x c hf; simp [Ty.flat] at hf
  exact key t x c hf hc
 unfold valV at hv ⊢
 cases a with
 | true =>
  simp only [Instr.sameBits,beq_self_eq_true,Bool.true_and,List.all_eq_true]
  rintro ⟨u,v⟩ huv
  have : u = v ∧ u ∈ (t.comps x).map compFlat := by
   revert huv
   generalize (t.comps x).map compFlat = l
   induction l with
   | nil => intro h; simp at h
   | cons c r ih =>
    intro h
    simp only [List.zip_cons_cons,List.mem_cons,Prod.mk.injEq] at h
    rcases h with ⟨rfl,rfl⟩ | h
    ·exact ⟨rfl,by simp⟩
    ·have := ih h; exact ⟨this.1,by simp [this.2]⟩
  obtain ⟨rfl,hu⟩ := this
  exact h1 n u hu
 | false =>
  dsimp only at hv ⊢
  split
  ·rename_i v hm
   exact h1 _ v (by rw [hm]; simp)
  ·rename_i hm
   split at hv
   ·rename_i v hm2; exact absurd hm2 (hm v)
   ·exact absurd rfl hv
theorem valV_ne {t : Ty} {ki : TI} {kt : TypeId} (hT : TOk P ctx.tt) (hki : lookN ctx.tt kt = some ki) (hK : KeyE ctx.tt kt t) (x : t.T) (w : World) : valV (isAggD ki.desc) t x ≠ .tuple #[] := by
 obtain ⟨i,hi,u,hu,hr⟩ := checkKey_spec hT false 20 kt _ _ (hK x x) 10000 (by omega) (fun _ => {}) w
 rw [hki] at hi; cases hi
 rw [← valOf_valV hu]
 unfold valOf at hu
 split at hu
 ·cases hu; intro h; cases h
 ·split at hu
  ·rename_i v hm
   cases hu
   have hm' := hm
   rw [rawC_conc] at hm'
   cases t with
   | int k => simp only [Ty.comps,List.map_cons,List.map_nil,compFlat,List.cons.injEq,and_true] at hm'; subst hm'; intro h; cases h
   | bool => simp only [Ty.comps,List.map_cons,List.map_nil,compFlat,List.cons.injEq,and_true] at hm'; subst hm'; intro h; cases h
   | str => simp only [Ty.comps,List.map_cons,List.map_nil,compFlat,List.cons.injEq,and_true] at hm'; subst hm'; intro h; cases h
   | prod a b =>
    have h1 := congrArg List.length hm'
    have h2 := Ty.size_pos a
    have h3 := Ty.size_pos b
    simp only [List.length_map,comps_length,Ty.size,List.length_singleton] at h1
    omega
   | sl u => simp only [Ty.comps,List.map_cons,List.map_nil,compFlat,List.cons.injEq,and_true] at hm'; subst hm'; intro h; cases h
  ·cases hu
theorem mapUpdateE_loc (hT : TOk P ctx.tt) {t : TypeId} {i : TI} (ht : lookN ctx.tt t = some i) {x ix v : AV} (h : mapUpdateE ctx i x ix v hp k) :
  ∃ r,SemLoc P ctx.X hp nm (fun _ => True) (fun ρ => Instr.mapUpdate t (x.conc ρ) (ix.conc ρ) (v.conc ρ)) (fun _ => ()) r ∧ k r ∧ r.val = und := by
 have h0 := mapTy_spec h
 clear h
 obtain ⟨kt,et,ki,ei,kT,vT,hd,h1,h2,h3,h4,h5,h⟩ := h0
 split at h <;> try (exact h.elim)
 rename_i n
 split at h <;> try (exact h.elim)
 rename_i ka va kT' vT' l hn
 split at h <;> try (exact h.elim)
 rename_i hag
 split at h <;> try (exact h.elim)
 rename_i hty
 obtain ⟨rfl,rfl⟩ := hty
 obtain ⟨rfl,rfl⟩ := hag
 split at h <;> try (exact h.elim)
 rename_i a y hk hv
 obtain ⟨hK,_,h⟩ := h
 refine ⟨_,⟨fun p hp => ?_,?_⟩,h _ rfl,rfl⟩
 ·simp only [List.mem_singleton] at hp; subst hp; rw [hn]; intro e; cases e
 intro bor W ρ Kn Γ w _ _ htc _ hst
 have hΓ : Γ n = some (.map (isAggD ki.desc) (isAggD ei.desc) kT' vT' l) := by rw [htc n (by simp),hn]
 obtain ⟨_,_,b,es,clk,hb,hh,he⟩ := hst.at_ n _ hΓ
 have hkey := keyE_spec h3 hk w ρ
 have hval := keyE_spec h4 hv w ρ
 have hfind := findKey_run (fun y : vT'.T => valV (isAggD ei.desc) vT' y) hT h1 h3 hK a w es.toList l he
 have hchk := checkKey_run hT h1 hK false a w
 have hput := atM_put a y l 0
 have hxc : (AV.v (.one (.mp n))).conc ρ = .map (some b) := by simp only [AV.conc,A0.conc,Cell.conc,hb]
 have hlt : b < w.heap.size := (Array.getElem?_eq_some_iff.1 hh).1
 have hown := hst.own n b (by simp [hΓ]) hb
 have fin : ∀ (es' : Array MapEntry) (clk':Nat),es'.toList.map (fun e => (e.key,e.val)) = entM (isAggD ki.desc) (isAggD ei.desc) kT' vT' (putM l a y) →
   (Instr.mapUpdate t ((AV.v (.one (.mp n))).conc ρ) (ix.conc ρ) (v.conc ρ)).run P w = .ok () { w with heap := w.heap.setIfInBounds b (.map es' clk') } →
   ∃ ρ' w',(Instr.mapUpdate t ((AV.v (.one (.mp n))).conc ρ) (ix.conc ρ) (v.conc ρ)).run P w = .ok () w' ∧ (∀ m,Kn m → ρ' m = ρ m) ∧ und.ok (knR Kn nm { val := und,writes := [(n,.map (isAggD ki.desc) (isAggD ei.desc) kT' vT' (putM l a y))],touch := [n] }) ∧
    St bor W ρ' (knR Kn nm { val := und,writes := [(n,.map (isAggD ki.desc) (isAggD ei.desc) kT' vT' (putM l a y))],touch := [n] }) (appH { val := und,writes := [(n,.map (isAggD ki.desc) (isAggD ei.desc) kT' vT' (putM l a y))],touch := [n] } nm Γ) w' := by
  intro es' clk' hes hrun
  refine ⟨ρ,_,hrun,fun _ _ => rfl,und_ok _,?_⟩
  rw [knR_nil,appH_write _ _ _ _ _ _ rfl]
  have hset := MapKept.heap_set (o' := Obj.map es' clk') hh
  refine hst.writeW hΓ hb trivial (fun _ h => by cases h) ⟨hst.fr.os,hst.fr.tape,hst.fr.output,by simpa using hst.fr.size,fun k hk hnb => ?_,hst.fr.drw⟩ (fun b' hne => hset.2 b' hne) (by simp) fun _ => ?_
  ·have hne : k ≠ b := by
    rintro rfl
    rcases hown with h | h
    ·omega
    ·exact hnb h
   rw [← hst.fr.block k hk hnb]
   exact hset.2 k hne
  ·exact ⟨h3,h4,b,es',clk',hb,hset.1,hes⟩
 have henter : ∀ (f : Result Unit → Prop),True := fun _ => trivial
 cases hat : atM a l 0 with
 | none =>
  rw [hat] at hfind hput
  simp only [Option.map_none] at hfind
  simp only at hput
  refine fin (es.push { key := valV (isAggD ki.desc) kT' a,val := valV (isAggD ei.desc) vT' y,born := clk }) (clk + 1) ?_ ?_
  ·rw [hput]
   simp only [Array.toList_push,List.map_append,he,entM,List.map_cons,List.map_nil]
  ·rw [hxc,hkey,hval]
   simp only [Instr.mapUpdate,Sem.run_bind,hT.u ht,hd,Result.andThen_ok,MapKept.run_getObj_map hh,hchk,hfind,MapKept.run_setObj_map _ hh]
 | some q =>
  obtain ⟨j,q2⟩ := q
  rw [hat] at hfind hput
  simp only [Option.map_some] at hfind
  simp only [Nat.sub_zero] at hput
  obtain ⟨_,p,hp1,hp2,hp3⟩ := hput
  have hpa : a = p.1 := (eqT_iff h3 _ _).1 hp2
  have hj : ∃ e,es.toList[j]? = some e ∧ e.key = valV (isAggD ki.desc) kT' a := by
   have : (es.toList.map (fun e => (e.key,e.val)))[j]? = some (valV (isAggD ki.desc) kT' p.1,valV (isAggD ei.desc) vT' p.2) := by
    rw [he,List.getElem?_map,hp1]; rfl
   rw [List.getElem?_map] at this
   obtain ⟨e,he1,he2⟩ := Option.map_eq_some_iff.1 this
   exact ⟨e,he1,by rw [hpa]; exact congrArg Prod.fst he2⟩
  obtain ⟨e,he1,he2⟩ := hj
  have hej : es[j]? = some e := by rw [← Array.getElem?_toList]; exact he1
  have hstay : (Instr.keyThatStays (((es[j]?).map (·.key)).getD (valV (isAggD ki.desc) kT' a)) (valV (isAggD ki.desc) kT' a)).run P w = .ok (valV (isAggD ki.desc) kT' a) w := by
   rw [hej]
   simp only [Option.map_some,Option.getD_some,he2,Instr.keyThatStays]
   rw [if_pos (sameBits_refl h3 _ _ 9999 (valV_ne hT h1 hK a w))]
   rfl
  refine fin (es.modify j fun e => { e with key := valV (isAggD ki.desc) kT' a,val := valV (isAggD ei.desc) vT' y }) clk ?_ ?_
  ·rw [hp3]
   simp only [entM,List.map_set]
   have e3 : (es.modify j fun e => { e with key := valV (isAggD ki.desc) kT' a,val := valV (isAggD ei.desc) vT' y }).toList = es.toList.modify j fun e => { e with key := valV (isAggD ki.desc) kT' a,val := valV (isAggD ei.desc) vT' y } := by simp
   rw [e3]
   have e4 : List.map (fun p => (valV (isAggD ki.desc) kT' p.1,valV (isAggD ei.desc) vT' p.2)) l = es.toList.map (fun e => (e.key,e.val)) := he.symm
   rw [e4]
   apply List.ext_getElem?
   intro i
   simp only [List.getElem?_map,List.getElem?_modify,List.getElem?_set]
   by_cases hij : j = i
   ·subst hij
    have hjl : j < es.toList.length := (List.getElem?_eq_some_iff.1 he1).1
    simp [he1,hjl]
    have : j < es.size := by simpa using hjl
    simp [this]
   ·simp [hij]
  ·rw [hxc,hkey,hval]
   simp only [Instr.mapUpdate,Sem.run_bind,hT.u ht,hd,Result.andThen_ok,MapKept.run_getObj_map hh,hchk,hfind,hstay,MapKept.run_setObj_map _ hh]
end
end Go.Ev
