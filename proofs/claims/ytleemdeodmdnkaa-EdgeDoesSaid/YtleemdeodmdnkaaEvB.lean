/- What a symbolic state says of the machine's memory, and that each operation does what 'opE' says. -/
import Derived.Test.YtleemdeodmdnkaaEvA
import Derived.WalkKit
import Derived.OrdersIn
import Derived.RangeFuncCalls
noncomputable section
set_option linter.unusedSectionVars false
set_option linter.unusedVariables false
set_option linter.unusedSimpArgs false
namespace Go.Ev
open Go.RowKit

def fw (ro : Option Nat) : Fence := { fn := fun _ => True,depth := none,alive := false,round := ro }
structure Bor where
 wr : Nat → Prop
 nw : Nat → Prop := fun _ => False
instance : CoeFun Bor fun _ => Nat → Prop := ⟨Bor.wr⟩
def noB : Bor := { wr := fun _ => False }

structure Fr (bor : Bor) (W w : World) : Prop where
 os : w.os = W.os
 tape : w.tape = W.tape
 output : w.output = W.output
 size : W.heap.size ≤ w.heap.size
 block : ∀ k,k < W.heap.size → ¬ bor k → w.heap[k]? = W.heap[k]?
 drw : W.drawn ≤ w.drawn

def compVal (s : Option Addr × Nat) : Comp → Value
 | .flat v => v
 | .sl _ l => .slice s.1 l.length s.2
def rowComps (t : Ty) (l : List t.T) : List Comp := l.flatMap t.comps
def flatVals (t : Ty) (l : List t.T) : List Value := (rowComps t l).map compFlat
def valsFrom (sub : Nat → Option Addr × Nat) : Nat → List Comp → List Value
 | _,[] => []
 | q,c :: r => compVal (sub q) c :: valsFrom sub (q + 1) r
def NestAt (w : World) (ok : Nat → Prop) (s : Option Addr × Nat) (u : Ty) (l : List u.T) : Prop :=
 u.flat = true ∧ l.length ≤ s.2 ∧ ∀ i v,(flatVals u l)[i]? = some v → ∃ a,s.1 = some a ∧ w.cell? (a.add i) = some v ∧ ok a.block
def OwnAt (w : World) (o : Loc) (rk n s:Nat) (vals : List Value) : Prop :=
 (o.blk = none ∧ n = 0 ∧ o.cap = 0 ∧ (rk ≠ 3 → o.base = none)) ∨ ∃ b pre rest e,o.blk = some b ∧ o.base = some ⟨b,pre.length,none⟩ ∧ w.heap[b]? = some (.cells (pre ++ (vals ++ rest)).toArray e (0,0)) ∧ o.cap * s = (vals ++ rest).length ∧ o.cap ≤ 9223372036854775807 ∧ (rk ≠ 3 → pre = [])
theorem OwnAt.old {w : World} {o : Loc} {rk s : Nat} {vals : List Value} {α : Type} {l : List α} (h : OwnAt w o rk l.length s vals) (h3 : rk ≠ 3) : (o.blk = none ∧ l = [] ∧ o.cap = 0 ∧ o.base = none) ∨ ∃ b rest e,o.blk = some b ∧ o.base = some ⟨b,0,none⟩ ∧ w.heap[b]? = some (.cells (vals ++ rest).toArray e (0,0)) ∧ o.cap * s = (vals ++ rest).length ∧ o.cap ≤ 9223372036854775807 := by
 rcases h with ⟨h1,h2,h3',h4⟩ | ⟨b,pre,rest,e,h1,h2,h4,h5,h6,h7⟩
 ·exact .inl ⟨h1,List.eq_nil_of_length_eq_zero h2,h3',h4 h3⟩
 ·have := h7 h3
  subst this
  exact .inr ⟨b,rest,e,h1,h2,h4,h5,h6⟩
theorem OwnAt.new {w : World} {o : Loc} {rk s : Nat} {vals : List Value} {α : Type} {l : List α} (h : (o.blk = none ∧ l = [] ∧ o.cap = 0 ∧ o.base = none) ∨ ∃ b rest e,o.blk = some b ∧ o.base = some ⟨b,0,none⟩ ∧ w.heap[b]? = some (.cells (vals ++ rest).toArray e (0,0)) ∧ o.cap * s = (vals ++ rest).length ∧ o.cap ≤ 9223372036854775807) : OwnAt w o rk l.length s vals := by
 rcases h with ⟨h1,h2,h3,h4⟩ | ⟨b,rest,e,h1,h2,h3,h4,h5⟩
 ·exact .inl ⟨h1,by rw [h2]; rfl,h3,fun _ => h4⟩
 ·exact .inr ⟨b,[],rest,e,h1,h2,h3,h4,h5,fun _ => rfl⟩
theorem OwnAt.any {w : World} {o : Loc} {rk n s : Nat} {vals : List Value} (h : OwnAt w o rk n s vals) : OwnAt w o 3 n s vals := by
 rcases h with ⟨h1,h2,h3,h4⟩ | ⟨b,pre,rest,e,h1,h2,h3,h4,h5,h6⟩
 ·exact .inl ⟨h1,h2,h3,fun q => absurd rfl q⟩
 ·exact .inr ⟨b,pre,rest,e,h1,h2,h3,h4,h5,fun q => absurd rfl q⟩
theorem OwnAt.keep {w w' : World} {o : Loc} {rk n s : Nat} {vals : List Value} (h : OwnAt w o rk n s vals) (hw : ∀ b,o.blk = some b → w'.heap[b]? = w.heap[b]?) : OwnAt w' o rk n s vals := by
 rcases h with h | ⟨b,pre,rest,e,h1,h2,h3,h4⟩
 ·exact .inl h
 ·exact .inr ⟨b,pre,rest,e,h1,h2,by rw [hw _ h1]; exact h3,h4⟩
def Stp (es : Array MapEntry) (clk:Nat) : Prop := (∀ x ∈ es.toList,x.born < clk) ∧ (es.toList.map (·.born)).Nodup
def unf (w : World) (b:Nat) : Prop := ∀ cs e f,w.heap[b]? = some (.cells cs e f) → f = (0,0)
theorem unf.same {w w' : World} {b : Nat} (h : unf w b) (e : w'.heap[b]? = w.heap[b]?) : unf w' b := fun cs t f hb => h cs t f (e ▸ hb)
theorem unf.of {w : World} {b : Nat} {cs : Array Value} {e : TypeId} (h : w.heap[b]? = some (.cells cs e (0,0))) : unf w b := fun cs' e' f hb => by rw [h] at hb; cases hb; rfl
def RowMem (fz pm : Nat → Prop) (w : World) (o : Loc) (t : Ty) (l : List t.T) (rk:Nat) (sub : Nat → Option Addr × Nat) : Prop :=
 (∀ i v,(valsFrom sub 0 (rowComps t l))[i]? = some v → ∃ a,o.base = some a ∧ w.cell? (a.add i) = some v ∧ (rk = 0 → fz a.block)) ∧
 (∀ q u l',(rowComps t l)[q]? = some (.sl u l') → NestAt w (fun b => fz b ∧ (rk = 2 → pm b ∧ unf w b)) (sub q) u l') ∧
 (rk = 0 → o.blk = none) ∧
 (rk ≠ 0 → OwnAt w o rk l.length t.size (valsFrom sub 0 (rowComps t l)))

def Loc.has (x : Loc) (b:Nat) : Prop := x.blk = some b ∨ ∃ e ∈ x.ents,e.blk = some b
@[simp] theorem has_mk {o : Option Nat} {a : Option Addr} {n c s b : Nat} : Loc.has ⟨o,a,n,c,s,[]⟩ b ↔ o = some b := by simp [Loc.has]
theorem noHas {x : Loc} (h : x.blk = none ∧ x.ents = []) {b : Nat} : ¬ x.has b := by
 rintro (h1 | ⟨e,h1,_⟩)
 ·rw [h.1] at h1; cases h1
 ·rw [h.2] at h1; cases h1
theorem has_of {x : Loc} (h : x.ents = []) {b : Nat} : x.has b ↔ x.blk = some b := by simp [Loc.has,h]
def LOb (ρ : Env) (Γ : HP) (b:Nat) : Prop := ∃ m,(Γ m).isSome = true ∧ (ρ m).has b
def HI (Γ : HP) (b:Nat) : Prop := ∃ m S,Γ m = some (.hide S) ∧ S b
def LO (ρ : Env) (Γ : HP) (b:Nat) : Prop := LOb ρ Γ b ∨ HI Γ b
def cellsB (w : World) (b:Nat) : Prop := ∃ cs e f,w.heap[b]? = some (.cells cs e f)
theorem cellsB.lt {w : World} {b : Nat} (h : cellsB w b) : b < w.heap.size := by
 obtain ⟨_,_,_,h⟩ := h
 exact (Array.getElem?_eq_some_iff.1 h).1
theorem cellsB.of {w : World} {a : Addr} {v : Value} (h : w.cell? a = some v) : cellsB w a.block := by
 unfold World.cell? at h
 split at h
 ·exact ⟨_,_,_,‹_›⟩
 ·cases h
def fzB (ρ : Env) (Γ : HP) (w : World) (b:Nat) : Prop := cellsB w b ∧ ¬ LO ρ Γ b
def pmB (bor : Bor) (W : World) (b:Nat) : Prop := W.heap.size ≤ b ∨ bor b ∨ bor.nw b

def EntAt (w : World) (e : Ent) : Prop := (e.blk = none ∧ e.vals = [] ∧ e.cap = 0 ∧ e.base = none ∧ e.len = 0) ∨
 ∃ b rest t,e.blk = some b ∧ e.base = some ⟨b,0,none⟩ ∧ w.heap[b]? = some (.cells (e.vals ++ rest).toArray t (0,0)) ∧ e.len ≤ e.cap ∧ e.cap * e.es = (e.vals ++ rest).length ∧ e.cap ≤ 9223372036854775807
def lentB (k : Ty) : Option k.T → k.T → Bool
 | some x,y => eqT k x y
 | none,_ => false
def GrpR (ka : Bool) (k u : Ty) (q : Option k.T) : List MapEntry → List (k.T × List u.T) → List Ent → Prop
 | [],[],[] => True
 | e :: es,p :: l,ns => e.key = valV ka k p.1 ∧ (match lentB k q p.1 with
  | true => GrpR ka k u q es l ns
  | false => match ns with
   | n :: r => n.key = ⟨k,p.1⟩ ∧ e.val = .slice n.base n.len n.cap ∧ n.vals = flatVals u p.2 ∧ n.len = p.2.length ∧ n.es = u.size ∧ GrpR ka k u q es l r
   | [] => False)
 | _,_,_ => False
def entAt (es : List Ent) (a : Addr) (v : Value) : Prop := ∃ e b off,e ∈ es ∧ a = ⟨b,off,none⟩ ∧ e.blk = some b ∧ e.vals[off]? = some v
def objAt (fz pm : Nat → Prop) (ρ : Env) (n:Nat) : AObj → World → Prop
 | .cells cs e,w => ∃ b,(ρ n).blk = some b ∧ w.heap[b]? = some (.cells (cs.map (Cell.conc ρ)).toArray e (0,0))
 | .row t l rk,w => (ρ n).len = l.length ∧ (ρ n).es = t.size ∧ l.length ≤ (ρ n).cap ∧ ∃ sub,RowMem fz pm w (ρ n) t l rk sub
 | .alias m s q,_ => (ρ n).blk = none ∧ (ρ n).len = lenPart (ρ m).len s q ∧ (ρ n).es = (ρ m).es ∧ (ρ n).len ≤ (ρ n).cap ∧ ((ρ n).len ≠ 0 → (ρ n).base = (ρ m).base.map (·.add (s * (ρ m).es)))
 | .gone,_ => False
 | .loop r s j,w => ∃ b,(ρ n).blk = some b ∧ w.heap[b]? = some (.loop { r with state := s,pending := j })
 | .pin ρ0 n0,_ => (ρ n).blk = none ∧ ∀ m,m < n0 → ρ m = ρ0 m
 | .hide _,_ => (ρ n).blk = none
 | .map ka va k v l,w => k.flat = true ∧ v.flat = true ∧ ∃ b es clk,(ρ n).blk = some b ∧ w.heap[b]? = some (.map es clk) ∧ es.toList.map (fun e => (e.key,e.val)) = l.map fun p => (valV ka k p.1,valV va v p.2)
 | .grp ka k u l c q,w => k.flat = true ∧ u.flat = true ∧ (l.map (·.1)).Nodup ∧ ∃ b es clk,(ρ n).blk = some b ∧ w.heap[b]? = some (.map es clk) ∧ GrpR ka k u q es.toList l (ρ c).ents ∧ Stp es clk
 | .set _,w => (ρ n).blk = none ∧ (∀ e ∈ (ρ n).ents,EntAt w e) ∧ (ρ n).ents.Pairwise fun e e' => ∀ b,e.blk = some b → e'.blk ≠ some b
 | .gv _ c k u x l,_ => (ρ n).blk = none ∧ (ρ n).len = l.length ∧ (ρ n).es = u.size ∧ l.length ≤ (ρ n).cap ∧ u.flat = true ∧ ((l = [] ∧ (ρ n).base = none ∧ (ρ n).cap = 0) ∨ ∃ e b,e ∈ (ρ c).ents ∧ e.blk = some b ∧ e.key = ⟨k,x⟩ ∧ e.base = (ρ n).base ∧ e.base = some ⟨b,0,none⟩ ∧ e.len = (ρ n).len ∧ e.cap = (ρ n).cap ∧ e.vals = flatVals u l ∧ e.es = u.size)
 | .rc cs,w => (ρ n).blk = none ∧ ∀ i c,cs[i]? = some c → ∃ a,(ρ n).base = some a ∧ w.cell? (a.add i) = some (c.conc ρ) ∧ fz a.block
 | .hmap es clk,w => ∃ b,(ρ n).blk = some b ∧ w.heap[b]? = some (.map es clk)
 | .dp t l c _ kn,_ => (ρ n).blk = none ∧ (ρ n).len = l.length ∧ (ρ n).es = t.size ∧ l.length ≤ (ρ n).cap ∧ ∃ sub rb,(l ≠ [] → (ρ n).base = some ⟨rb,0,none⟩) ∧ (∀ i v,(valsFrom sub 0 (rowComps t l))[i]? = some v → entAt (ρ c).ents ⟨rb,i,none⟩ v) ∧
   ∀ q u l',(rowComps t l)[q]? = some (.sl u l') → u.flat = true ∧ l'.length ≤ (sub q).2 ∧ ∀ i v,(flatVals u l')[i]? = some v → ∃ a v',(sub q).1 = some a ∧ a.block ≠ rb ∧ entAt (ρ c).ents (a.add i) v' ∧ (kn = true → v' = v)
 | .nv m c j q u,_ => (ρ n).blk = none ∧ (ρ n).es = u.size ∧ ∃ a,(ρ m).base = some a ∧ entAt (ρ c).ents (a.add (j * (ρ m).es + q)) (.slice (ρ n).base (ρ n).len (ρ n).cap)
 | .itr m c es clk ka k u l cur,w => k.flat = true ∧ u.flat = true ∧ Stp es clk ∧ ∃ b since seen c0,(ρ n).blk = some b ∧ w.heap[b]? = some (.mapIter (ρ m).blk since seen c0) ∧ (ρ m).blk ≠ none ∧ (∀ x ∈ es.toList,x.born < since) ∧ since ≤ c0 ∧ since ≤ clk ∧
   GrpR ka k u none (es.toList.filter fun e => !seen.contains e.born) l (ρ c).ents ∧
   ∀ p,cur = some p → c0 = clk ∧ ∃ (seen' : Array Nat) (e : MapEntry),seen = seen'.push e.born ∧ e ∈ es.toList ∧ e.key = valV ka k p.1 ∧ e.val = .slice (ρ p.2).base (ρ p.2).len (ρ p.2).cap

structure St (bor : Bor) (W : World) (ρ : Env) (Kn : Nat → Prop) (Γ : HP) (w : World) : Prop where
 fr : Fr bor W w
 at_ : ∀ n o,Γ n = some o → objAt (fzB ρ Γ w) (pmB bor W) ρ n o w
 kn : ∀ n o,Γ n = some o → Kn n ∧ o.ok Kn
 injH : ∀ n m b,(Γ n).isSome = true → (Γ m).isSome = true → (ρ n).has b → (ρ m).has b → n = m
 ownH : ∀ n b,(Γ n).isSome = true → (ρ n).has b → W.heap.size ≤ b ∨ bor b
 hid : ∀ b,HI Γ b → b < w.heap.size ∧ ¬ LOb ρ Γ b
 noe : ∀ n o,Γ n = some o → (∃ m,o = .set m) ∨ (ρ n).ents = []
theorem St.inj {bor : Bor} {W : World} {ρ : Env} {Kn : Nat → Prop} {Γ : HP} {w : World} (h : St bor W ρ Kn Γ w) (n m b:Nat) (h1 : (Γ n).isSome = true) (h2 : (Γ m).isSome = true) (h3 : (ρ n).blk = some b) (h4 : (ρ m).blk = some b) : n = m := h.injH n m b h1 h2 (.inl h3) (.inl h4)
theorem St.own {bor : Bor} {W : World} {ρ : Env} {Kn : Nat → Prop} {Γ : HP} {w : World} (h : St bor W ρ Kn Γ w) (n b:Nat) (h1 : (Γ n).isSome = true) (h2 : (ρ n).blk = some b) : W.heap.size ≤ b ∨ bor b := h.ownH n b h1 (.inl h2)

section
variable {ρ ρ' : Env} {Kn Kn' : Nat → Prop}
theorem addrOf_congr {n off : Nat} (h : ρ' n = ρ n) : addrOf ρ' n off = addrOf ρ n off := by simp [addrOf,h]
theorem Ref.conc_congr (h : ∀ m,Kn m → ρ' m = ρ m) : ∀ (r : Ref),r.ok Kn → r.conc ρ' = r.conc ρ
 | .ext _,_ => rfl
 | .loc _ _,hk => by simp [Ref.conc,addrOf_congr (h _ hk)]
 | .elem _ _,hk => by simp [Ref.conc,h _ hk]
 | .full _,hk => by simp [Ref.conc,h _ hk]
 | .mp _,hk => by simp [Ref.conc,h _ hk]
theorem Cell.conc_congr (h : ∀ m,Kn m → ρ' m = ρ m) : ∀ (c : Cell),c.ok Kn → c.conc ρ' = c.conc ρ
 | .raw _,_ => rfl
 | .ptr _ _,hk => by simp [Cell.conc,addrOf_congr (h _ hk)]
 | .sl _ _ _ _,hk => by simp [Cell.conc,addrOf_congr (h _ hk)]
 | .aptr _ _,hk => by simp [Cell.conc,addrOf_congr (h _ hk)]
 | .full _,hk => by simp [Cell.conc,h _ hk]
 | .eptr _ _ _,hk => by simp [Cell.conc,h _ hk]
 | .eaptr _ _ _,hk => by simp [Cell.conc,h _ hk]
 | .clo _ _ cap,hk => by
  simp only [Cell.conc]
  rw [List.map_congr_left fun r hr => Ref.conc_congr h r (hk r hr)]
 | .yld _,hk => by simp [Cell.conc,h _ hk]
 | .mp _,hk => by simp [Cell.conc,h _ hk]
 | .mv _ _ rs,hk => by
  simp only [Cell.conc]
  rw [List.map_congr_left fun r hr => Ref.conc_congr h r (hk r hr)]
theorem cells_congr (h : ∀ m,Kn m → ρ' m = ρ m) (cs : List Cell) (hk : ∀ c ∈ cs,c.ok Kn) : cs.map (Cell.conc ρ') = cs.map (Cell.conc ρ) :=
 List.map_congr_left fun c hc => Cell.conc_congr h c (hk c hc)
theorem A0.conc_congr (h : ∀ m,Kn m → ρ' m = ρ m) : ∀ (a : A0),a.ok Kn → a.conc ρ' = a.conc ρ
 | .one c,hk => Cell.conc_congr h c hk
 | .agg cs,hk => by simp only [A0.conc]; rw [cells_congr h cs hk]
theorem AV.conc_congr (h : ∀ m,Kn m → ρ' m = ρ m) : ∀ (a : AV),a.ok Kn → a.conc ρ' = a.conc ρ
 | .v a,hk => A0.conc_congr h a hk
 | .tup l,hk => by
  simp only [AV.conc]
  rw [List.map_congr_left fun r hr => A0.conc_congr h r (hk r hr)]
 | .dead,_ => rfl
theorem Ref.ok_mono (h : ∀ m,Kn m → Kn' m) : ∀ (r : Ref),r.ok Kn → r.ok Kn'
 | .ext _,_ => trivial
 | .loc _ _,hk => h _ hk
 | .elem _ _,hk => h _ hk
 | .full _,hk => h _ hk
 | .mp _,hk => h _ hk
theorem Cell.ok_mono (h : ∀ m,Kn m → Kn' m) : ∀ (c : Cell),c.ok Kn → c.ok Kn'
 | .raw _,_ => trivial
 | .ptr _ _,hk => h _ hk
 | .sl _ _ _ _,hk => h _ hk
 | .aptr _ _,hk => h _ hk
 | .full _,hk => h _ hk
 | .eptr _ _ _,hk => h _ hk
 | .eaptr _ _ _,hk => h _ hk
 | .clo _ _ _,hk => fun r hr => Ref.ok_mono h r (hk r hr)
 | .yld _,hk => h _ hk
 | .mp _,hk => h _ hk
 | .mv _ _ _,hk => fun r hr => Ref.ok_mono h r (hk r hr)
theorem A0.ok_mono (h : ∀ m,Kn m → Kn' m) : ∀ (a : A0),a.ok Kn → a.ok Kn'
 | .one c,hk => Cell.ok_mono h c hk
 | .agg _,hk => fun c hc => Cell.ok_mono h c (hk c hc)
theorem AV.ok_mono (h : ∀ m,Kn m → Kn' m) : ∀ (a : AV),a.ok Kn → a.ok Kn'
 | .v a,hk => A0.ok_mono h a hk
 | .tup _,hk => fun a ha => A0.ok_mono h a (hk a ha)
 | .dead,_ => trivial
theorem AObj.ok_mono (h : ∀ m,Kn m → Kn' m) : ∀ (o : AObj),o.ok Kn → o.ok Kn'
 | .cells _ _,hk => fun c hc => Cell.ok_mono h c (hk c hc)
 | .row _ _ _,_ => trivial
 | .alias _ _ _,hk => h _ hk
 | .gone,_ => trivial
 | .loop _ _ _,_ => trivial
 | .pin _ _,hk => fun m hm => h m (hk m hm)
 | .hide _,_ => trivial
 | .map _ _ _ _ _,_ => trivial
 | .grp _ _ _ _ _ _,hk => h _ hk
 | .set _,hk => h _ hk
 | .gv _ _ _ _ _ _,hk => ⟨h _ hk.1,h _ hk.2⟩
 | .rc _,hk => fun c hc => Cell.ok_mono h c (hk c hc)
 | .hmap _ _,_ => trivial
 | .itr _ _ _ _ _ _ _ _ _,hk => ⟨h _ hk.1,h _ hk.2.1,fun p hp => h _ (hk.2.2 p hp)⟩
 | .dp _ _ _ _ _,hk => h _ hk
 | .nv _ _ _ _ _,hk => ⟨h _ hk.1,h _ hk.2⟩
end

theorem map_raw (l : List Value) (ρ : Env) : (l.map Cell.raw).map (Cell.conc ρ) = l := by
 induction l <;> simp_all [Cell.conc]
theorem raw_ok (l : List Value) (Kn : Nat → Prop) : ∀ c ∈ l.map Cell.raw,c.ok Kn := by
 intro c hc; obtain ⟨v,_,rfl⟩ := List.mem_map.1 hc; trivial
theorem ofV0_conc (v : Value) (ρ : Env) : (ofV0 v).conc ρ = v := by
 unfold ofV0; split
 ·rename_i cs; simp only [A0.conc,map_raw]
 ·rfl
theorem ofV_conc (v : Value) (ρ : Env) : (ofV v).conc ρ = v := ofV0_conc v ρ
theorem ofV0_ok (v : Value) (Kn : Nat → Prop) : (ofV0 v).ok Kn := by
 unfold ofV0; split
 ·exact raw_ok _ _
 ·trivial
theorem ofV_ok (v : Value) (Kn : Nat → Prop) : (ofV v).ok Kn := ofV0_ok v Kn

theorem Cell.conc_one {c : Cell} (h : c.one = true) (ρ : Env) : (c.conc ρ).oneCell' = true := by
 cases c with
 | raw v => simp only [Cell.conc,Value.oneCell']; cases v <;> simp_all [Cell.one,oneCellV]
 | yld n => simp only [Cell.conc]; split <;> rfl
 | _ => rfl
theorem Cell.conc_cells {c : Cell} (h : c.one = true) (ρ : Env) : (c.conc ρ).cells = #[c.conc ρ] := by
 have := Cell.conc_one h ρ
 revert this; cases c.conc ρ <;> simp [Value.cells,Value.oneCell']
theorem A0.cells_conc {a : A0} {cs : List Cell} (h : a.cells = some cs) (ρ : Env) : (a.conc ρ).cells = (cs.map (Cell.conc ρ)).toArray := by
 cases a with
 | one c =>
  simp only [A0.cells] at h; split at h <;> simp at h; subst h
  simp only [A0.conc]; rw [Cell.conc_cells ‹_›]; simp
 | agg l => simp only [A0.cells,Option.some.injEq] at h; subst h; rfl
theorem AV.cells_conc {a : AV} {cs : List Cell} (h : a.cells = some cs) (ρ : Env) : (a.conc ρ).cells = (cs.map (Cell.conc ρ)).toArray := by
 cases a with
 | v a => exact A0.cells_conc h ρ
 | tup l => simp [AV.cells] at h
 | dead => simp [AV.cells] at h
theorem AV.cells_ok {a : AV} {cs : List Cell} (h : a.cells = some cs) {Kn : Nat → Prop} (hk : a.ok Kn) : ∀ c ∈ cs,c.ok Kn := by
 cases a with
 | v a =>
  cases a with
  | one c => simp only [AV.cells,A0.cells] at h; split at h <;> simp at h; subst h; intro c' hc'; simp at hc'; subst hc'; exact hk
  | agg l => simp only [AV.cells,A0.cells,Option.some.injEq] at h; subst h; exact hk
 | tup l => simp [AV.cells] at h
 | dead => simp [AV.cells] at h
theorem allOne_spec : ∀ (cs : List Cell),allOne cs = true → ∀ (ρ : Env),∀ v ∈ cs.map (Cell.conc ρ),v.oneCell' = true
 | [],_,_ => by simp
 | c :: r,h,ρ => by
  simp only [allOne] at h; split at h
  ·rename_i h1
   intro v hv
   simp only [List.map_cons,List.mem_cons] at hv
   rcases hv with rfl | hv
   ·exact Cell.conc_one h1 ρ
   ·exact allOne_spec r h ρ v hv
  ·cases h

theorem Fr.refl (bor : Bor) (W : World) : Fr bor W W := ⟨rfl,rfl,rfl,Nat.le_refl _,fun _ _ _ => rfl,Nat.le_refl _⟩
theorem Fr.trans {bor : Bor} {W w w' : World} (h : Fr bor W w) (h' : Fr bor w w') : Fr bor W w' :=
 ⟨h'.os.trans h.os,h'.tape.trans h.tape,h'.output.trans h.output,Nat.le_trans h.size h'.size,fun k hk hn => (h'.block k (Nat.lt_of_lt_of_le hk h.size) hn).trans (h.block k hk hn),Nat.le_trans h.drw h'.drw⟩
theorem Fr.alloc {bor : Bor} {W w : World} (h : Fr bor W w) (o : Obj) : Fr bor W (w.alloc o) :=
 ⟨h.os,h.tape,h.output,by have := h.size; simp; omega,fun k hk hn => (Below.heap_alloc w o k (by have := h.size; omega)).trans (h.block k hk hn),h.drw⟩
theorem Fr.drawn {bor : Bor} {W w : World} (h : Fr bor W w) (n:Nat) (hn : w.drawn ≤ n) : Fr bor W { w with drawn := n } := ⟨h.os,h.tape,h.output,h.size,h.block,Nat.le_trans h.drw hn⟩

theorem NestAt.mono {w w' : World} {ok ok' : Nat → Prop} {s : Option Addr × Nat} {u : Ty} {l : List u.T} (h : NestAt w ok s u l) (hok : ∀ b,ok b → ok' b ∧ w'.heap[b]? = w.heap[b]?) : NestAt w' ok' s u l := by
 refine ⟨h.1,h.2.1,fun i v hv => ?_⟩
 obtain ⟨a,h1,h2,h3⟩ := h.2.2 i v hv
 obtain ⟨h4,h5⟩ := hok _ h3
 exact ⟨a,h1,by rw [← h2]; exact World.cell?_of_block (by rw [show (a.add i).block = a.block by unfold Addr.add; split <;> rfl]; exact h5),h4⟩
theorem add_block (a : Addr) (i:Nat) : (a.add i).block = a.block := by unfold Addr.add; split <;> rfl
theorem valsFrom_length (sub : Nat → Option Addr × Nat) : ∀ (q:Nat) (cs : List Comp),(valsFrom sub q cs).length = cs.length
 | _,[] => rfl
 | q,c :: r => by simp [valsFrom,valsFrom_length sub (q + 1) r]
theorem comps_length : ∀ (t : Ty) (x : t.T),(t.comps x).length = t.size
 | .int _,_ => rfl
 | .bool,_ => rfl
 | .str,_ => rfl
 | .prod a b,x => by simp [Ty.comps,Ty.size,comps_length a,comps_length b]
 | .sl _,_ => rfl
theorem Ty.size_pos : ∀ (t : Ty),0 < t.size
 | .int _ => Nat.one_pos
 | .bool => Nat.one_pos
 | .str => Nat.one_pos
 | .prod a _ => Nat.lt_of_lt_of_le (Ty.size_pos a) (Nat.le_add_right _ _)
 | .sl _ => Nat.one_pos
theorem rowComps_length (t : Ty) : ∀ (l : List t.T),(rowComps t l).length = l.length * t.size
 | [] => by simp [rowComps]
 | x :: r => by
  have := rowComps_length t r
  simp only [rowComps,List.flatMap_cons,List.length_append,comps_length,List.length_cons] at this ⊢
  rw [this,Nat.add_mul]; omega
theorem RowMem.keep {fz pm fz' pm' : Nat → Prop} {w w' : World} {o : Loc} {t : Ty} {l : List t.T} {rk : Nat} {sub : Nat → Option Addr × Nat} (h : RowMem fz pm w o t l rk sub)
  (hfz : ∀ b,fz b → fz' b ∧ w'.heap[b]? = w.heap[b]?) (hpm : ∀ b,fz b → pm b → pm' b) (hw : ∀ b,o.blk = some b → w'.heap[b]? = w.heap[b]?) : RowMem fz' pm' w' o t l rk sub := by
 obtain ⟨h1,h2,h3,h4⟩ := h
 refine ⟨fun i v hv => ?_,fun q u l' hq => (h2 q u l' hq).mono fun b hb => ⟨⟨(hfz b hb.1).1,fun e => ⟨hpm b hb.1 (hb.2 e).1,(hb.2 e).2.same (hfz b hb.1).2⟩⟩,(hfz b hb.1).2⟩,h3,fun e => ?_⟩
 ·obtain ⟨a,e1,e2,e3⟩ := h1 i v hv
  refine ⟨a,e1,?_,fun e => (hfz _ (e3 e)).1⟩
  rw [← e2]
  refine World.cell?_of_block ?_
  rw [add_block]
  by_cases e : rk = 0
  ·exact (hfz _ (e3 e)).2
  ·rcases h4 e with ⟨_,e4,_⟩ | ⟨b,pre,rest,e,e4,e5,_⟩
   ·rw [List.eq_nil_of_length_eq_zero e4] at hv; simp [rowComps,valsFrom] at hv
   ·rw [e1] at e5; cases e5; exact hw _ e4
 ·exact (h4 e).keep hw

theorem objAt_keep {fz pm fz' pm' : Nat → Prop} {ρ ρ' : Env} {Kn : Nat → Prop} {n : Nat} {o : AObj} {w w' : World} (h : objAt fz pm ρ n o w) (hρ : ∀ m,Kn m → ρ' m = ρ m) (hn : Kn n) (ho : o.ok Kn)
  (hfz : ∀ b,fz b → fz' b ∧ w'.heap[b]? = w.heap[b]?) (hpm : ∀ b,fz b → pm b → pm' b) (hwH : ∀ b,(ρ n).has b → w'.heap[b]? = w.heap[b]?) : objAt fz' pm' ρ' n o w' := by
 have hw : ∀ b,(ρ n).blk = some b → w'.heap[b]? = w.heap[b]? := fun b hb => hwH b (.inl hb)
 cases o with
 | cells cs e =>
  obtain ⟨b,hb,hh⟩ := h
  exact ⟨b,by rw [hρ n hn,hb],by rw [hw b hb,hh,cells_congr hρ cs ho]⟩
 | row t l rk =>
  obtain ⟨h1,h2,h3,sub,h4⟩ := h
  rw [objAt,hρ n hn]
  exact ⟨h1,h2,h3,sub,h4.keep hfz hpm hw⟩
 | alias m s q =>
  have hm := hρ m ho
  rw [objAt,hρ n hn,hm]; exact h
 | gone => exact h.elim
 | loop r s j =>
  obtain ⟨b,hb,hh⟩ := h
  exact ⟨b,by rw [hρ n hn,hb],by rw [hw b hb,hh]⟩
 | pin ρ0 n0 =>
  obtain ⟨h1,h2⟩ := h
  exact ⟨by rw [hρ n hn,h1],fun m hm => by rw [hρ m (ho m hm)]; exact h2 m hm⟩
 | hide S => rw [objAt,hρ n hn]; exact h
 | map ka va k v l =>
  obtain ⟨h1,h2,b,es,clk,hb,hh,he⟩ := h
  exact ⟨h1,h2,b,es,clk,by rw [hρ n hn,hb],by rw [hw b hb,hh],he⟩
 | grp ka k u l c q =>
  obtain ⟨h1,h2,h3,b,es,clk,hb,hh,he⟩ := h
  exact ⟨h1,h2,h3,b,es,clk,by rw [hρ n hn,hb],by rw [hw b hb,hh],by rw [hρ c ho]; exact he⟩
 | set m =>
  obtain ⟨h1,h2,h3⟩ := h
  rw [objAt,hρ n hn]
  refine ⟨h1,fun e he => ?_,h3⟩
  rcases h2 e he with h4 | ⟨b,rest,t,h4,h5,h6,h7⟩
  ·exact .inl h4
  ·exact .inr ⟨b,rest,t,h4,h5,by rw [hwH b (.inr ⟨e,he,h4⟩)]; exact h6,h7⟩
 | gv m c k u x l =>
  rw [objAt,hρ n hn,hρ c ho.2]; exact h
 | rc cs =>
  rw [objAt,hρ n hn]
  refine ⟨h.1,fun i c hc => ?_⟩
  obtain ⟨a,h1,h2,h3⟩ := h.2 i c hc
  obtain ⟨h4,h5⟩ := hfz _ h3
  exact ⟨a,h1,by rw [Cell.conc_congr hρ c (ho c (List.mem_of_getElem? hc)),← h2]; exact World.cell?_of_block (by rw [add_block]; exact h5),h4⟩
 | hmap es clk =>
  obtain ⟨b,hb,hh⟩ := h
  exact ⟨b,by rw [hρ n hn,hb],by rw [hw b hb,hh]⟩
 | dp t l c st kn =>
  rw [objAt,hρ n hn,hρ c ho]; exact h
 | nv m c j q u =>
  rw [objAt,hρ n hn,hρ m ho.1,hρ c ho.2]; exact h
 | itr m c es clk ka k u l cur =>
  obtain ⟨h1,h2,h3,b,since,seen,c0,hb,hh,h4,h5,h6,h7,h8,h9⟩ := h
  refine ⟨h1,h2,h3,b,since,seen,c0,by rw [hρ n hn,hb],by rw [hw b hb,hh,hρ m ho.1],by rw [hρ m ho.1]; exact h4,h5,h6,h7,by rw [hρ c ho.2.1]; exact h8,fun p hp => ?_⟩
  obtain ⟨a1,seen',e,a2,a3,a4,a5⟩ := h9 p hp
  exact ⟨a1,seen',e,a2,a3,a4,by rw [hρ p.2 (ho.2.2 p hp)]; exact a5⟩

theorem objAt_lt {fz pm : Nat → Prop} {ρ : Env} {n b : Nat} {o : AObj} {w : World} (h : objAt fz pm ρ n o w) (hb : (ρ n).blk = some b) : b < w.heap.size := by
 cases o with
 | cells cs e =>
  obtain ⟨b',hb',hh⟩ := h
  rw [hb] at hb'; cases hb'; exact (Array.getElem?_eq_some_iff.1 hh).1
 | row t l rk =>
  obtain ⟨_,_,_,sub,_,_,h3,h4⟩ := h
  by_cases e : rk = 0
  ·rw [h3 e] at hb; cases hb
  ·rcases h4 e with ⟨h5,_⟩ | ⟨b',pre,rest,e,h5,_,h6,_⟩
   ·rw [h5] at hb; cases hb
   ·rw [hb] at h5; cases h5; exact (Array.getElem?_eq_some_iff.1 h6).1
 | alias m s q => rw [h.1] at hb; cases hb
 | gone => exact h.elim
 | loop r s j =>
  obtain ⟨b',hb',hh⟩ := h
  rw [hb] at hb'; cases hb'; exact (Array.getElem?_eq_some_iff.1 hh).1
 | pin ρ0 n0 =>
  obtain ⟨h1,_⟩ := h
  rw [h1] at hb; cases hb
 | hide S => rw [show (ρ n).blk = none from h] at hb; cases hb
 | map ka va k v l =>
  obtain ⟨_,_,b',es,clk,hb',hh,_⟩ := h
  rw [hb] at hb'; cases hb'; exact (Array.getElem?_eq_some_iff.1 hh).1
 | grp ka k u l c q =>
  obtain ⟨_,_,_,b',es,clk,hb',hh,_⟩ := h
  rw [hb] at hb'; cases hb'; exact (Array.getElem?_eq_some_iff.1 hh).1
 | set m => rw [h.1] at hb; cases hb
 | gv m c k u x l => rw [h.1] at hb; cases hb
 | rc cs => rw [h.1] at hb; cases hb
 | dp t l c st kn => rw [h.1] at hb; cases hb
 | nv m c j q u => rw [h.1] at hb; cases hb
 | hmap es clk =>
  obtain ⟨b',hb',hh⟩ := h
  rw [hb] at hb'; cases hb'; exact (Array.getElem?_eq_some_iff.1 hh).1
 | itr m c es clk ka k u l cur =>
  obtain ⟨_,_,_,b',_,_,_,hb',hh,_⟩ := h
  rw [hb] at hb'; cases hb'; exact (Array.getElem?_eq_some_iff.1 hh).1

section
variable {bor : Bor} {W : World} {ρ : Env} {Kn : Nat → Prop} {Γ : HP} {w : World}

theorem St.hasC (h : St bor W ρ Kn Γ w) (n b:Nat) (hn : (Γ n).isSome = true) (hb : (ρ n).has b) : (ρ n).blk = some b ∨ cellsB w b := by
 obtain ⟨o,ho⟩ := Option.isSome_iff_exists.1 hn
 rcases h.noe n o ho with ⟨m,rfl⟩ | he
 ·obtain ⟨h1,h2,_⟩ := h.at_ n _ ho
  rcases hb with hb | ⟨e,he,hb⟩
  ·exact .inl hb
  ·rcases h2 e he with ⟨h3,_⟩ | ⟨b',rest,t,h3,_,h4,_⟩
   ·rw [h3] at hb; cases hb
   ·rw [h3] at hb; cases hb; exact .inr ⟨_,_,_,h4⟩
 ·exact .inl ((has_of he).1 hb)
theorem St.lt (h : St bor W ρ Kn Γ w) (n b:Nat) (hn : (Γ n).isSome = true) (hb : (ρ n).has b) : b < w.heap.size := by
 obtain ⟨o,ho⟩ := Option.isSome_iff_exists.1 hn
 rcases h.noe n o ho with ⟨m,rfl⟩ | he
 ·obtain ⟨h1,h2,_⟩ := h.at_ n _ ho
  rcases hb with hb | ⟨e,he,hb⟩
  ·rw [h1] at hb; cases hb
  ·rcases h2 e he with ⟨h3,_⟩ | ⟨b',rest,t,h3,_,h4,_⟩
   ·rw [h3] at hb; cases hb
   ·rw [h3] at hb; cases hb; exact (Array.getElem?_eq_some_iff.1 h4).1
 ·exact objAt_lt (h.at_ n o ho) ((has_of he).1 hb)
theorem objAt_unf {fz pm : Nat → Prop} {ρ : Env} {n b : Nat} {o : AObj} {w : World} (h : objAt fz pm ρ n o w) (hb : (ρ n).blk = some b) : unf w b := by
 have no : ∀ {b' : Nat} {x : Obj},(ρ n).blk = some b' → w.heap[b']? = some x → (∀ cs e f,x = .cells cs e f → f = (0,0)) → unf w b := fun h1 h2 h3 cs e f h4 => by
  rw [hb] at h1; cases h1; rw [h2] at h4; cases h4; exact h3 _ _ _ rfl
 cases o with
 | cells cs e =>
  obtain ⟨b',hb',hh⟩ := h
  exact no hb' hh fun _ _ _ e => by cases e; rfl
 | row t l rk =>
  obtain ⟨_,_,_,sub,_,_,h3,h4⟩ := h
  by_cases e : rk = 0
  ·rw [h3 e] at hb; cases hb
  ·rcases h4 e with ⟨h5,_⟩ | ⟨b',pre,rest,e,h5,_,h6,_⟩
   ·rw [h5] at hb; cases hb
   ·exact no h5 h6 fun _ _ _ e => by cases e; rfl
 | alias m s q => rw [h.1] at hb; cases hb
 | gone => exact h.elim
 | loop r s j =>
  obtain ⟨b',hb',hh⟩ := h
  exact no hb' hh fun _ _ _ e => by cases e
 | pin ρ0 n0 => rw [h.1] at hb; cases hb
 | hide S => rw [show (ρ n).blk = none from h] at hb; cases hb
 | map ka va k v l =>
  obtain ⟨_,_,b',es,clk,hb',hh,_⟩ := h
  exact no hb' hh fun _ _ _ e => by cases e
 | grp ka k u l c q =>
  obtain ⟨_,_,_,b',es,clk,hb',hh,_⟩ := h
  exact no hb' hh fun _ _ _ e => by cases e
 | set m => rw [h.1] at hb; cases hb
 | gv m c k u x l => rw [h.1] at hb; cases hb
 | rc cs => rw [h.1] at hb; cases hb
 | dp t l c st kn => rw [h.1] at hb; cases hb
 | nv m c j q u => rw [h.1] at hb; cases hb
 | hmap es clk =>
  obtain ⟨b',hb',hh⟩ := h
  exact no hb' hh fun _ _ _ e => by cases e
 | itr m c es clk ka k u l cur =>
  obtain ⟨_,_,_,b',_,_,_,hb',hh,_⟩ := h
  exact no hb' hh fun _ _ _ e => by cases e
theorem St.unfr (h : St bor W ρ Kn Γ w) (n b:Nat) (hn : (Γ n).isSome = true) (hb : (ρ n).blk = some b) : unf w b := by
 obtain ⟨o,ho⟩ := Option.isSome_iff_exists.1 hn
 exact objAt_unf (h.at_ n o ho) hb
theorem lt_of_same {w w' : World} {b : Nat} (hb : b < w.heap.size) (h : w'.heap[b]? = w.heap[b]?) : b < w'.heap.size := by
 rcases Nat.lt_or_ge b w'.heap.size with h1 | h1
 ·exact h1
 ·rw [Array.getElem?_eq_none h1,Array.getElem?_eq_getElem hb] at h; cases h
theorem cellsB.same {w w' : World} {b : Nat} (h : cellsB w b) (e : w'.heap[b]? = w.heap[b]?) : cellsB w' b := by
 obtain ⟨cs,t,f,h⟩ := h
 exact ⟨cs,t,f,e.trans h⟩
theorem St.world {w' : World} (h : St bor W ρ Kn Γ w) (hf : Fr bor W w') (hw : ∀ b,b < w.heap.size → w'.heap[b]? = w.heap[b]?) : St bor W ρ Kn Γ w' :=
 ⟨hf,fun n o hn => objAt_keep (Kn := Kn) (h.at_ n o hn) (fun _ _ => rfl) (h.kn n o hn).1 (h.kn n o hn).2 (fun b hb => ⟨⟨hb.1.same (hw b hb.1.lt),hb.2⟩,hw b hb.1.lt⟩) (fun _ _ h => h) fun b hb => hw b (h.lt n b (by rw [hn]; rfl) hb),h.kn,h.injH,h.ownH,fun b hb => ⟨lt_of_same (h.hid b hb).1 (hw b (h.hid b hb).1),(h.hid b hb).2⟩,h.noe⟩

theorem St.drawn (h : St bor W ρ Kn Γ w) (n:Nat) (hn : w.drawn ≤ n) : St bor W ρ Kn Γ { w with drawn := n } := h.world (h.fr.drawn n hn) fun _ _ => rfl

def updE (ρ : Env) (n:Nat) (x : Loc) : Env := fun m => if m = n then x else ρ m
def updH (Γ : HP) (n:Nat) (o : AObj) : HP := fun m => if m = n then some o else Γ m
def knN (Kn : Nat → Prop) (n:Nat) : Nat → Prop := fun m => Kn m ∨ m = n

theorem updE_old {nm : Nat} {x : Loc} (hn : ¬ Kn nm) : ∀ m,Kn m → updE ρ nm x m = ρ m := fun m hm => by
 unfold updE; rw [if_neg (by rintro rfl; exact hn hm)]

theorem St.swapH {nm : Nat} {x : Loc} {o : AObj} {G : List Nat} {Γ' : HP} {w1 : World} (h : St bor W ρ Kn Γ w) (hn : ¬ Kn nm) (hf : Fr bor W w1)
  (hw : ∀ b,b < w.heap.size → ¬ x.has b → w1.heap[b]? = w.heap[b]?)
  (hb : ∀ b,x.has b → (w.heap.size ≤ b ∨ ∃ g,g ∈ G ∧ (Γ g).isSome = true ∧ (ρ g).has b) ∧ (W.heap.size ≤ b ∨ bor b)) (hxe : (∃ m,o = .set m) ∨ x.ents = [])
  (hΓ : ∀ m p,Γ' m = some p → (m = nm ∧ p = o) ∨ (m ≠ nm ∧ m ∉ G ∧ Γ m = some p))
  (hok : o.ok (knN Kn nm)) (hno : ∀ S,o ≠ .hide S) (hat : (∀ b,fzB ρ Γ w b → fzB (updE ρ nm x) Γ' w1 b ∧ w1.heap[b]? = w.heap[b]?) → (∀ g b,g ∈ G → (Γ g).isSome = true → (ρ g).has b → ¬ x.has b → cellsB w b → ¬ HI Γ b → fzB (updE ρ nm x) Γ' w1 b) → objAt (fzB (updE ρ nm x) Γ' w1) (pmB bor W) (updE ρ nm x) nm o w1) :
  St bor W (updE ρ nm x) (knN Kn nm) Γ' w1 := by
 have hold := updE_old (ρ := ρ) (x := x) hn
 have hself : updE ρ nm x nm = x := by simp [updE]
 have hkn : ∀ n,(Γ n).isSome = true → Kn n := fun n hs => by obtain ⟨o,ho⟩ := Option.isSome_iff_exists.1 hs; exact (h.kn n o ho).1
 have hlt : ∀ n b,(Γ n).isSome = true → (ρ n).has b → b < w.heap.size := fun n b hs hb => h.lt n b hs hb
 have hs : ∀ m,(Γ' m).isSome = true → m = nm ∨ (m ≠ nm ∧ m ∉ G ∧ (Γ m).isSome = true) := fun m hm => by
  obtain ⟨p,hp⟩ := Option.isSome_iff_exists.1 hm
  rcases hΓ m p hp with ⟨e,_⟩ | ⟨e1,e2,e3⟩
  ·exact .inl e
  ·exact .inr ⟨e1,e2,by rw [e3]; rfl⟩
 have hHI : ∀ b,HI Γ' b → HI Γ b := fun b ⟨m,S,h1,h2⟩ => by
  rcases hΓ m _ h1 with ⟨_,e⟩ | ⟨_,_,e⟩
  ·exact absurd e.symm (hno S)
  ·exact ⟨m,S,e,h2⟩
 have hfree : ∀ b,fzB ρ Γ w b → ¬ x.has b := fun b hf hx => by
  rcases (hb b hx).1 with h1 | ⟨g,_,h2,h3⟩
  ·exact absurd hf.1.lt (by omega)
  ·exact hf.2 (.inl ⟨g,h2,h3⟩)
 have hfz : ∀ b,fzB ρ Γ w b → fzB (updE ρ nm x) Γ' w1 b ∧ w1.heap[b]? = w.heap[b]? := fun b hf => by
  have e := hw b hf.1.lt (hfree b hf)
  refine ⟨⟨hf.1.same e,?_⟩,e⟩
  rintro (⟨m,h1,h2⟩ | hh)
  ·rcases hs m h1 with rfl | ⟨_,_,h5⟩
   ·rw [hself] at h2; exact hfree b hf h2
   ·rw [hold m (hkn m h5)] at h2
    exact hf.2 (.inl ⟨m,h5,h2⟩)
  ·exact hf.2 (.inr (hHI b hh))
 have hfz2 : ∀ g b,g ∈ G → (Γ g).isSome = true → (ρ g).has b → ¬ x.has b → cellsB w b → ¬ HI Γ b → fzB (updE ρ nm x) Γ' w1 b := fun g b hg h1 h2 hx hl hnh => by
  refine ⟨hl.same (hw b hl.lt hx),?_⟩
  rintro (⟨m,h3,h4⟩ | hh)
  ·rcases hs m h3 with rfl | ⟨_,h5,h6⟩
   ·rw [hself] at h4; exact hx h4
   ·rw [hold m (hkn m h6)] at h4
    exact h5 (h.injH m g b h6 h1 h4 h2 ▸ hg)
  ·exact hnh (hHI b hh)
 have hdis : ∀ m b,m ∉ G → (Γ m).isSome = true → (ρ m).has b → ¬ x.has b := fun m b h1 h2 h3 hx => by
  rcases (hb b hx).1 with h4 | ⟨g,h5,h6,h7⟩
  ·exact absurd (hlt m b h2 h3) (by omega)
  ·exact h1 (h.injH m g b h2 h6 h3 h7 ▸ h5)
 have hxh : ∀ b,HI Γ b → ¬ x.has b := fun b hh hx => by
  obtain ⟨h1,h2⟩ := h.hid b hh
  rcases (hb b hx).1 with h3 | ⟨g,_,h4,h5⟩
  ·omega
  ·exact h2 ⟨g,h4,h5⟩
 refine ⟨hf,fun n p hp => ?_,fun n p hp => ?_,fun n m b hn1 hm1 hb1 hb2 => ?_,fun n b hn1 hb1 => ?_,fun b hh => ?_,fun n p hp => ?_⟩
 rotate_right
 ·rcases hΓ n p hp with ⟨rfl,rfl⟩ | ⟨e1,e2,e3⟩
  ·rw [hself]; exact hxe
  ·rw [hold n (h.kn n p e3).1]; exact h.noe n p e3
 rotate_right
 ·have hh := hHI b hh
  obtain ⟨h1,h2⟩ := h.hid b hh
  refine ⟨lt_of_same h1 (hw b h1 (hxh b hh)),?_⟩
  rintro ⟨m,h3,h4⟩
  rcases hs m h3 with rfl | ⟨_,_,h6⟩
  ·rw [hself] at h4; exact hxh b hh h4
  ·rw [hold m (hkn m h6)] at h4
   exact h2 ⟨m,h6,h4⟩
 ·rcases hΓ n p hp with ⟨rfl,rfl⟩ | ⟨e1,e2,e3⟩
  ·exact hat hfz hfz2
  ·have hk := h.kn n p e3
   exact objAt_keep (h.at_ n p e3) hold hk.1 hk.2 hfz (fun _ _ h => h) fun b hb' => hw b (h.lt n b (by rw [e3]; rfl) hb') (hdis n b e2 (by rw [e3]; rfl) hb')
 ·rcases hΓ n p hp with ⟨rfl,rfl⟩ | ⟨e1,e2,e3⟩
  ·exact ⟨.inr rfl,hok⟩
  ·have hk := h.kn n p e3
   exact ⟨.inl hk.1,AObj.ok_mono (fun _ => .inl) p hk.2⟩
 ·rcases hs n hn1 with rfl | ⟨e1,e2,e3⟩
  ·rcases hs m hm1 with rfl | ⟨e4,e5,e6⟩
   ·rfl
   ·rw [hself] at hb1
    rw [hold m (hkn m e6)] at hb2
    exact absurd hb1 (hdis m b e5 e6 hb2)
  ·rw [hold n (hkn n e3)] at hb1
   rcases hs m hm1 with rfl | ⟨e4,e5,e6⟩
   ·rw [hself] at hb2
    exact absurd hb2 (hdis n b e2 e3 hb1)
   ·rw [hold m (hkn m e6)] at hb2
    exact h.injH n m b e3 e6 hb1 hb2
 ·rcases hs n hn1 with rfl | ⟨e1,e2,e3⟩
  ·rw [hself] at hb1; exact (hb b hb1).2
  ·rw [hold n (hkn n e3)] at hb1
   exact h.ownH n b e3 hb1

theorem St.swap {nm : Nat} {x : Loc} {o : AObj} {G : List Nat} {Γ' : HP} {w1 : World} (h : St bor W ρ Kn Γ w) (hn : ¬ Kn nm) (hf : Fr bor W w1)
  (hw : ∀ b,b < w.heap.size → x.blk ≠ some b → w1.heap[b]? = w.heap[b]?)
  (hb : ∀ b,x.blk = some b → (w.heap.size ≤ b ∨ ∃ g,g ∈ G ∧ (Γ g).isSome = true ∧ (ρ g).blk = some b) ∧ (W.heap.size ≤ b ∨ bor b))
  (hΓ : ∀ m p,Γ' m = some p → (m = nm ∧ p = o) ∨ (m ≠ nm ∧ m ∉ G ∧ Γ m = some p))
  (hok : o.ok (knN Kn nm)) (hno : ∀ S,o ≠ .hide S) (hat : (∀ b,fzB ρ Γ w b → fzB (updE ρ nm x) Γ' w1 b ∧ w1.heap[b]? = w.heap[b]?) → (∀ g b,g ∈ G → (Γ g).isSome = true → (ρ g).blk = some b → x.blk ≠ some b → cellsB w b → ¬ HI Γ b → fzB (updE ρ nm x) Γ' w1 b) → objAt (fzB (updE ρ nm x) Γ' w1) (pmB bor W) (updE ρ nm x) nm o w1) (he : x.ents = [] := by rfl) :
  St bor W (updE ρ nm x) (knN Kn nm) Γ' w1 :=
 h.swapH hn hf (fun b hb hx => hw b hb fun e => hx (.inl e)) (fun b hx => by
  obtain ⟨h1,h2⟩ := hb b ((has_of he).1 hx)
  exact ⟨h1.imp id fun ⟨g,a,c,d⟩ => ⟨g,a,c,.inl d⟩,h2⟩) (.inr he) hΓ hok hno fun h1 h2 => hat h1 fun g b h3 h4 h5 h6 h7 h8 => h2 g b h3 h4 (.inl h5) (fun hx => h6 ((has_of he).1 hx)) h7 h8

theorem St.alloc {nm : Nat} {cs : List Cell} {e : TypeId} (h : St bor W ρ Kn Γ w) (hn : ¬ Kn nm) (hcs : ∀ c ∈ cs,c.ok Kn) :
  St bor W (updE ρ nm { blk := some w.heap.size }) (knN Kn nm) (updH Γ nm (.cells cs e)) (w.alloc (.cells (cs.map (Cell.conc ρ)).toArray e (0,0))) := by
 have hsz := h.fr.size
 refine h.swap (G := []) (o := .cells cs e) hn (h.fr.alloc _) (fun b hb _ => Below.heap_alloc _ _ _ hb) (fun b hb => ?_) (fun m p hp => ?_) (fun c hc => Cell.ok_mono (fun _ => .inl) c (hcs c hc)) (fun _ h => by cases h) fun _ _ => ?_
 ·cases hb; exact ⟨.inl (Nat.le_refl _),.inl hsz⟩
 ·unfold updH at hp
  split at hp
  ·rename_i e1; cases hp; exact .inl ⟨e1,rfl⟩
  ·rename_i e1; exact .inr ⟨e1,by simp,hp⟩
 ·exact ⟨w.heap.size,by simp [updE],by
   rw [cells_congr (updE_old hn) cs hcs]; show (w.heap.push _)[w.heap.size]? = _; simp⟩

theorem St.regroup {ρ' : Env} {Kn' : Nat → Prop} {Γ' : HP} (h : St bor W ρ Kn Γ w) (hρ : ∀ m,Kn m → ρ' m = ρ m) (hK : ∀ m,Kn m → Kn' m)
  (hsub : ∀ x b,(Γ' x).isSome = true → (ρ' x).has b → ∃ y,(Γ y).isSome = true ∧ (ρ y).has b)
  (hinj : ∀ x y b,(Γ' x).isSome = true → (Γ' y).isSome = true → (ρ' x).has b → (ρ' y).has b → x = y)
  (hHI : ∀ b,HI Γ' b → HI Γ b)
  (hobj : ∀ x o,Γ' x = some o → Γ x = some o ∨ (Kn' x ∧ o.ok Kn' ∧ ((∃ m,o = .set m) ∨ (ρ' x).ents = []) ∧ ((∀ b,fzB ρ Γ w b → fzB ρ' Γ' w b) → objAt (fzB ρ' Γ' w) (pmB bor W) ρ' x o w))) : St bor W ρ' Kn' Γ' w := by
 have hL : ∀ b,LOb ρ' Γ' b → LOb ρ Γ b := fun b ⟨m,h1,h2⟩ => hsub m b h1 h2
 have hfz : ∀ b,fzB ρ Γ w b → fzB ρ' Γ' w b := fun b hb => ⟨hb.1,fun q => hb.2 (q.imp (hL b) (hHI b))⟩
 refine ⟨h.fr,fun n o hn => ?_,fun n o hn => ?_,hinj,fun n b h1 h2 => ?_,fun b hb => ?_,fun n o hn => ?_⟩
 ·rcases hobj n o hn with h1 | ⟨_,_,_,h1⟩
  ·exact objAt_keep (Kn := Kn) (h.at_ n o h1) hρ (h.kn n o h1).1 (h.kn n o h1).2 (fun b hb => ⟨hfz b hb,rfl⟩) (fun _ _ h => h) fun _ _ => rfl
  ·exact h1 hfz
 ·rcases hobj n o hn with h1 | ⟨h1,h2,_,_⟩
  ·exact ⟨hK _ (h.kn n o h1).1,AObj.ok_mono hK o (h.kn n o h1).2⟩
  ·exact ⟨h1,h2⟩
 ·obtain ⟨y,h3,h4⟩ := hsub n b h1 h2
  exact h.ownH y b h3 h4
 ·obtain ⟨h1,h2⟩ := h.hid b (hHI b hb)
  exact ⟨h1,fun q => h2 (hL b q)⟩
 ·rcases hobj n o hn with h1 | ⟨_,_,h1,_⟩
  ·rw [hρ n (h.kn n o h1).1]; exact h.noe n o h1
  ·exact h1

theorem setCells_eq {α : Type} : ∀ (ys cs : List α) (off:Nat),off + ys.length ≤ cs.length → setCells cs off ys = cs.take off ++ ys ++ cs.drop (off + ys.length)
 | [],cs,off,_ => by simp [setCells]
 | y :: r,cs,off,h => by
  simp only [List.length_cons] at h
  rw [setCells,setCells_eq r _ _ (by simp; omega)]
  apply List.ext_getElem?
  intro j
  simp only [List.getElem?_append,List.length_append,List.length_take,List.length_set,List.getElem?_take,List.getElem?_set,List.getElem?_drop,List.length_cons]
  grind
theorem setCells_map (f : Cell → Value) (ys cs : List Cell) (off:Nat) (h : off + ys.length ≤ cs.length) :
  (setCells cs off ys).map f = (cs.map f).take off ++ ys.map f ++ (cs.map f).drop (off + ys.length) := by
 rw [setCells_eq ys cs off h]; simp
theorem setCells_mem {ys cs : List Cell} {off : Nat} (h : off + ys.length ≤ cs.length) {c : Cell} (hc : c ∈ setCells cs off ys) : c ∈ cs ∨ c ∈ ys := by
 rw [setCells_eq ys cs off h] at hc
 simp only [List.mem_append] at hc
 rcases hc with (h1 | h1) | h1
 ·exact .inl (List.mem_of_mem_take h1)
 ·exact .inr h1
 ·exact .inl (List.mem_of_mem_drop h1)

theorem Fr.setRow {w : World} (h : Fr bor W w) {b : Nat} (hb : W.heap.size ≤ b ∨ bor b) (cs : Array Value) : Fr bor W (w.setRow b cs) :=
 ⟨h.os,h.tape,h.output,by rw [setRow_size]; exact h.size,fun k hk hn => (setRow_other w b k cs (by rintro rfl; exact hb.elim (fun h => by omega) hn)).trans (h.block k hk hn),h.drw⟩

theorem St.write {n b : Nat} {o o' : AObj} {cells : Array Value} (h : St bor W ρ Kn Γ w) (hn : Γ n = some o) (hb : (ρ n).blk = some b) (ho' : o'.ok Kn) (hno : ∀ S,o' ≠ .hide S)
  (hat : (∀ b',fzB ρ Γ w b' → fzB ρ (updH Γ n o') (w.setRow b cells) b' ∧ (w.setRow b cells).heap[b']? = w.heap[b']?) → objAt (fzB ρ (updH Γ n o') (w.setRow b cells)) (pmB bor W) ρ n o' (w.setRow b cells)) : St bor W ρ Kn (updH Γ n o') (w.setRow b cells) := by
 have hs : ∀ m,(updH Γ n o' m).isSome = true → (Γ m).isSome = true := fun m hm => by
  unfold updH at hm; split at hm
  ·rename_i e; subst e; simp [hn]
  ·exact hm
 have hHI : ∀ b,HI (updH Γ n o') b → HI Γ b := fun b ⟨m,S,h1,h2⟩ => by
  unfold updH at h1
  split at h1
  ·cases h1; exact absurd rfl (hno S)
  ·exact ⟨m,S,h1,h2⟩
 have hfz : ∀ b',fzB ρ Γ w b' → fzB ρ (updH Γ n o') (w.setRow b cells) b' ∧ (w.setRow b cells).heap[b']? = w.heap[b']? := fun b' hf => by
  have hne : b' ≠ b := by rintro rfl; exact hf.2 (.inl ⟨n,by simp [hn],.inl hb⟩)
  refine ⟨⟨hf.1.same (setRow_other _ _ _ _ hne),?_⟩,setRow_other _ _ _ _ hne⟩
  rintro (⟨m,h1,h2⟩ | ⟨m,S,h1,h2⟩)
  ·exact hf.2 (.inl ⟨m,hs m h1,h2⟩)
  ·exact hf.2 (.inr (hHI b' ⟨m,S,h1,h2⟩))
 refine ⟨h.fr.setRow (h.own n b (by simp [hn]) hb) _,fun m p hp => ?_,fun m p hp => ?_,fun m m' c hm hm' hb1 hb2 => h.injH m m' c (hs m hm) (hs m' hm') hb1 hb2,fun m c hm hc => h.ownH m c (hs m hm) hc,fun c hc => ?_,fun m p hp => ?_⟩
 rotate_right
 ·unfold updH at hp
  split at hp
  ·rename_i e; subst e
   rcases h.noe m o hn with ⟨g,rfl⟩ | he
   ·have := (h.at_ m _ hn).1
    rw [hb] at this; cases this
   ·exact .inr he
  ·exact h.noe m p hp
 rotate_right
 ·obtain ⟨h1,h2⟩ := h.hid c (hHI c hc)
  exact ⟨by rw [setRow_size]; exact h1,fun ⟨m,h3,h4⟩ => h2 ⟨m,hs m h3,h4⟩⟩
 ·unfold updH at hp; split at hp
  ·rename_i e; subst e; cases hp; exact hat hfz
  ·rename_i e
   refine objAt_keep (Kn := Kn) (h.at_ m p hp) (fun _ _ => rfl) (h.kn m p hp).1 (h.kn m p hp).2 hfz (fun _ _ h => h) fun c hc => setRow_other _ _ _ _ ?_
   rintro rfl
   exact e (h.injH m n _ (by simp [hp]) (by simp [hn]) hc (.inl hb))
 ·unfold updH at hp; split at hp
  ·rename_i e; subst e; cases hp; exact ⟨(h.kn m o hn).1,ho'⟩
  ·exact h.kn m p hp
end

def knR (Kn : Nat → Prop) (nm:Nat) (r : Rec) : Nat → Prop := fun m => Kn m ∨ (nm ≤ m ∧ m < nm + r.fresh.length)
def live : Option AObj → Option AObj
 | some .gone => none
 | o => o
def lastW : List (Nat × AObj) → Nat → Option AObj
 | [],_ => none
 | (n,o) :: r,m => match lastW r m with
  | some p => some p
  | none => if n = m then some o else none
def appH (r : Rec) (nm:Nat) (Γ : HP) : HP := fun m => if nm ≤ m ∧ m < nm + r.fresh.length then live (r.fresh[m - nm]?) else match lastW r.writes m with
 | some o => live (some o)
 | none => Γ m

theorem knR_nil (Kn : Nat → Prop) (nm:Nat) (v : AV) (ws : List (Nat × AObj)) (tc : List Nat) : knR Kn nm { val := v,writes := ws,touch := tc } = Kn := by
 funext m; simp [knR]; omega
theorem knR_one (Kn : Nat → Prop) (nm:Nat) (v : AV) (o : AObj) (tc : List Nat) : knR Kn nm { val := v,fresh := [o],touch := tc } = knN Kn nm := by
 funext m; simp only [knR,knN,List.length_singleton]; congr 1; apply propext; omega
theorem appH_nil (Γ : HP) (nm:Nat) (v : AV) (tc : List Nat) : appH { val := v,touch := tc } nm Γ = Γ := by
 funext m; simp [appH,lastW]; omega
theorem appH_one (Γ : HP) (nm:Nat) (v : AV) (cs : List Cell) (e : TypeId) (tc : List Nat) : appH { val := v,fresh := [.cells cs e],touch := tc } nm Γ = updH Γ nm (.cells cs e) := by
 funext m; simp only [appH,updH,List.length_singleton,lastW]
 by_cases h : m = nm
 ·subst h; simp [live]
 ·have : ¬ (nm ≤ m ∧ m < nm + 1) := by omega
  simp [h,this]
theorem appH_write (Γ : HP) (nm n:Nat) (v : AV) (o : AObj) (tc : List Nat) (ho : live (some o) = some o) : appH { val := v,writes := [(n,o)],touch := tc } nm Γ = updH Γ n o := by
 funext m; simp only [appH,updH,lastW,List.length_nil]
 have : ¬ (nm ≤ m ∧ m < nm + 0) := by omega
 by_cases h : n = m
 ·subst h; rw [if_neg this]; simp [ho]
 ·rw [if_neg this]; simp [h,Ne.symm h]

def XOk (bor : Bor) (W : World) (X : Addr → Value → Prop) : Prop := ∀ a v,X a v → a.block < W.heap.size ∧ ¬ bor a.block ∧ W.cell? a = some v
theorem XOk.cell {bor : Bor} {W w : World} {X : Addr → Value → Prop} (h : XOk bor W X) (hf : Fr bor W w) {a : Addr} {v : Value} (hx : X a v) : w.cell? a = some v := by
 obtain ⟨h1,h2,h3⟩ := h a v hx
 rw [← h3]; exact World.cell?_of_block (hf.block _ h1 h2)

section
variable (P : Program) (X : Addr → Value → Prop) (hp : HP) (nm:Nat)
def SemLoc {α : Type} (okv : (Nat → Prop) → Prop) (f : Env → Sem α) (val : Env → α) (r : Rec) : Prop :=
 (∀ p ∈ r.writes,hp p.1 ≠ none) ∧ ∀ bor W ρ Kn Γ w,XOk bor W X → okv Kn → (∀ m ∈ r.touch,Γ m = hp m) → (∀ i,i < r.fresh.length → ¬ Kn (nm + i)) → St bor W ρ Kn Γ w →
  ∃ ρ' w',(f ρ).run P w = .ok (val ρ') w' ∧ (∀ m,Kn m → ρ' m = ρ m) ∧ r.val.ok (knR Kn nm r) ∧ St bor W ρ' (knR Kn nm r) (appH r nm Γ) w'
variable {P X hp nm}
theorem SemLoc.pure {α : Type} {okv : (Nat → Prop) → Prop} {f : Env → Sem α} {val : Env → α} {v : AV} {tc : List Nat}
  (h : ∀ bor W ρ Kn Γ w,XOk bor W X → okv Kn → (∀ m ∈ tc,Γ m = hp m) → St bor W ρ Kn Γ w → (f ρ).run P w = .ok (val ρ) w ∧ v.ok Kn) :
  SemLoc P X hp nm okv f val { val := v,touch := tc } := by
 refine ⟨fun p hp => absurd hp (by simp),?_⟩
 intro bor W ρ Kn Γ w hX hk ht _ hst
 obtain ⟨h1,h2⟩ := h bor W ρ Kn Γ w hX hk ht hst
 exact ⟨ρ,w,h1,fun _ _ => rfl,by rw [knR_nil]; exact h2,by rw [knR_nil,appH_nil]; exact hst⟩
end
end Go.Ev
