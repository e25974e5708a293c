/- States as patterns: what is read out of a state, and that the state knows no less than the pattern with these values. -/
import Derived.Test.YtleemdeodmdnkaaEvP
noncomputable section
set_option linter.unusedSectionVars false
set_option linter.unusedVariables false
set_option linter.unusedSimpArgs false
namespace Go.Ev

inductive HT
 | i | b | s | n | v | env | lo | hd
 | l (t : Ty)
 | tv (t : Ty)
@[reducible] def HT.T : HT → Type
 | .i => Int
 | .b => Bool
 | .s => ByteArray
 | .n => Nat
 | .v => Value
 | .env => Env
 | .lo => Loop
 | .hd => Nat → Prop
 | .l t => List t.T
 | .tv t => t.T
inductive DV
 | i (x:Int) | b (x : Bool) | s (x : ByteArray) | n (x:Nat) | v (x : Value) | env (x : Env) | lo (x : Loop) | hd (x : Nat → Prop)
 | l (t : Ty) (x : List t.T)
 | tv (t : Ty) (x : t.T)
def castT (t u : Ty) (x : t.T) : Option u.T := if h : t = u then some (h ▸ x) else none
theorem castT_eq {u' u : Ty} {x : u'.T} {y : u.T} (h : castT u' u x = some y) : ∃ e : u' = u,e ▸ x = y := by
 unfold castT at h
 split at h
 ·rename_i e; cases h; exact ⟨e,rfl⟩
 ·cases h
def DV.as : (h : HT) → DV → Option h.T
 | .i,d => match d with | .i x => some x | _ => none
 | .b,d => match d with | .b x => some x | _ => none
 | .s,d => match d with | .s x => some x | _ => none
 | .n,d => match d with | .n x => some x | _ => none
 | .v,d => match d with | .v x => some x | _ => none
 | .env,d => match d with | .env x => some x | _ => none
 | .lo,d => match d with | .lo x => some x | _ => none
 | .hd,d => match d with | .hd x => some x | _ => none
 | .l t,d => match d with | .l u x => castL u t x | _ => none
 | .tv t,d => match d with | .tv u x => castT u t x | _ => none
def DV.of : (h : HT) → h.T → DV
 | .i,x => .i x
 | .b,x => .b x
 | .s,x => .s x
 | .n,x => .n x
 | .v,x => .v x
 | .env,x => .env x
 | .lo,x => .lo x
 | .hd,x => .hd x
 | .l t,x => .l t x
 | .tv t,x => .tv t x
theorem DV.as_of {h : HT} {d : DV} {x : h.T} (e : d.as h = some x) : DV.of h x = d := by
 cases h with
 | l t =>
  cases d <;> simp only [DV.as] at e <;> try (cases e; done)
  rename_i u y
  obtain ⟨e1,e2⟩ := castL_eq e
  subst e1
  dsimp only at e2
  subst e2
  rfl
 | tv t =>
  cases d <;> simp only [DV.as] at e <;> try (cases e; done)
  rename_i u y
  obtain ⟨e1,e2⟩ := castT_eq e
  subst e1
  dsimp only at e2
  subst e2
  rfl
 | _ => cases d <;> simp only [DV.as] at e <;> first | (cases e; done) | (cases e; rfl)
@[reducible] def TT : List HT → Type
 | [] => Unit
 | [a] => a.T
 | a :: c :: r => a.T × TT (c :: r)
def toTT : (ts : List HT) → List DV → Option (TT ts)
 | [],ds => match ds with | [] => some () | _ => none
 | [a],ds => match ds with | [d] => d.as a | _ => none
 | a :: c :: r,ds => match ds with
  | d :: q => match d.as a,toTT (c :: r) q with | some x,some y => some (x,y) | _,_ => none
  | [] => none
def ofTT : (ts : List HT) → TT ts → List DV
 | [],_ => []
 | [a],x => [DV.of a x]
 | a :: c :: r,x => DV.of a x.1 :: ofTT (c :: r) x.2
theorem toTT_of : ∀ (ts : List HT) (ds : List DV) (x : TT ts),toTT ts ds = some x → ofTT ts x = ds
 | [],ds,x,h => by
  simp only [toTT] at h
  split at h <;> first | rfl | cases h
 | [a],ds,x,h => by
  simp only [toTT] at h
  split at h
  ·simp only [ofTT,DV.as_of h]
  ·cases h
 | a :: c :: r,ds,x,h => by
  simp only [toTT] at h
  split at h
  ·split at h
   ·rename_i y z h1 h2
    cases h
    simp only [ofTT,DV.as_of h1,toTT_of _ _ _ h2]
   ·cases h
  ·cases h
def pick : List Nat → List DV → Nat → DV
 | k :: r,v :: q,j => bif Nat.beq k j then v else pick r q j
 | _,_,_ => .n 0
def gath (idx : List Nat) (ds : List DV) : List DV := idx.map fun j => ds.getD j (.n 0)
def scat (idx : List Nat) (vs : List DV) (n:Nat) : List DV := (List.range n).map (pick idx vs)
theorem pick_map (f : Nat → DV) : ∀ (idx : List Nat) (j : Nat), j ∈ idx → pick idx (idx.map f) j = f j
  | [], _, h => by cases h
  | k :: r, j, h => by
    simp only [List.map_cons, pick]
    by_cases e : k = j
    · subst e; simp
    · have : Nat.beq k j = false := by rw [Nat.beq_eq_false_iff_ne]; exact e
      rw [this]
      exact pick_map f r j ((List.mem_cons.1 h).resolve_left fun h => e h.symm)
where Nat.beq_eq_false_iff_ne {a b : Nat} : Nat.beq a b = false ↔ a ≠ b := by
        rw [← Bool.not_eq_true, Nat.beq_eq]
theorem scat_gath {idx : List Nat} {ds : List DV} (h : ∀ j,j < ds.length → j ∈ idx) : scat idx (gath idx ds) ds.length = ds := by
 unfold scat gath
 refine List.ext_getElem (by simp) fun i h1 h2 => ?_
 simp only [List.getElem_map,List.getElem_range]
 rw [pick_map _ _ _ (h i h2),List.getD_eq_getElem?_getD,List.getElem?_eq_getElem h2]; rfl

inductive PR
 | ext
 | loc (n off:Nat)
 | elem (n:Nat)
 | full (n:Nat)
 | mp (n:Nat)
inductive PC
 | i (k : IntKind)
 | b | s | raw
 | ptr (n off:Nat)
 | aptr (n:Nat)
 | sl (n off:Nat)
 | full (n:Nat)
 | eptr (n k:Nat)
 | eaptr (n:Nat)
 | clo (f : FuncId) (nf:Nat) (rs : List PR)
 | yld (n:Nat)
 | mp (n:Nat)
 | mv (f : FuncId) (agg : Bool) (rs : List PR)
inductive PA
 | one (p : PC)
 | agg (l : List PC)
inductive PV
 | d
 | v (a : PA)
 | tup (l : List PA)
inductive PO
 | gone
 | cells (l : List PC) (e : TypeId)
 | row (t : Ty) (rk:Nat)
 | alias (n:Nat) (q : Bool)
 | loop (busy : Bool)
 | pin (n:Nat)
 | hide
 | map (ka va : Bool) (k v : Ty)
 | grp (ka : Bool) (k u : Ty) (c:Nat)
 | set (n:Nat)
 | gv (n c:Nat) (k u : Ty)
 | rc (l : List PC)
 | dp (t : Ty) (c:Nat) (st : Bool)
 | nv (n c q:Nat) (u : Ty)

abbrev Bnd := List (Option Src)
def Src.eqb : Src → Src → Bool
 | .same a,.same b => Nat.beq a b
 | .nil,.nil => true
 | .cells a b,.cells c d => Nat.beq a c && Nat.beq b d
 | .mt a b,.mt c d => Nat.beq a c && Nat.beq b d
 | _,_ => false
theorem Src.eqb_eq {a b : Src} (h : Src.eqb a b = true) : a = b := by
 cases a <;> cases b <;> simp_all [Src.eqb]
def bindN (π : Bnd) (n:Nat) (s : Src) : Option Bnd := match π[n]? with
 | some none => some (π.set n (some s))
 | some (some t) => bif Src.eqb t s then some π else none
 | none => none
structure SubB (π π' : Bnd) : Prop where
 len : π'.length = π.length
 sub : ∀ (n:Nat) (s : Src),π[n]? = some (some s) → π'[n]? = some (some s)
theorem SubB.rfl' (π : Bnd) : SubB π π := ⟨rfl,fun _ _ h => h⟩
theorem SubB.trans {a b c : Bnd} (h : SubB a b) (k : SubB b c) : SubB a c := ⟨k.len.trans h.len,fun n s e => k.sub n s (h.sub n s e)⟩
def FinB (π : Bnd) (f : List Src) : Prop := ∀ (n:Nat) (s : Src),π[n]? = some (some s) → f[n]? = some s
theorem FinB.of {π π' : Bnd} {f : List Src} (h : FinB π' f) (k : SubB π π') : FinB π f := fun n s e => h n s (k.sub n s e)
theorem bindN_spec {π π' : Bnd} {n : Nat} {s : Src} (h : bindN π n s = some π') : SubB π π' ∧ π'[n]? = some (some s) := by
 unfold bindN at h
 split at h
 ·rename_i hn
  cases h
  have hl := (List.getElem?_eq_some_iff.1 hn).1
  refine ⟨⟨by simp,fun m t hm => ?_⟩,by simp [hl]⟩
  rw [List.getElem?_set]
  split
  ·rename_i e; subst e; rw [hn] at hm; cases hm
  ·exact hm
 ·rename_i t hn
  cases hb : Src.eqb t s with
  | true =>
   rw [hb] at h
   cases h
   exact ⟨.rfl' _,by rw [hn,Src.eqb_eq hb]⟩
  | false => rw [hb] at h; cases h
 ·cases h
theorem bindN_fin {π π' : Bnd} {n : Nat} {s : Src} (h : bindN π n s = some π') {f : List Src} (hf : FinB π' f) : f[n]? = some s := hf n s (bindN_spec h).2
theorem renN_of {f : List Src} {n m : Nat} (h : f[n]? = some (.same m)) : renN f n = some m := by unfold renN; rw [h]

def decRefs : List PR → List Ref → Bnd → Option (Bnd × List DV)
 | [],qs,π => match qs with | [] => some (π,[]) | _ => none
 | p :: ps,qs,π => match qs with
  | [] => none
  | q :: qs => match p,q with
   | .ext,.ext v => match decRefs ps qs π with | some (π',ds) => some (π',.v v :: ds) | none => none
   | .loc n o,.loc m o' => if o = o' then (match bindN π n (.same m) with | some π1 => decRefs ps qs π1 | none => none) else none
   | .elem n,.elem m j => match bindN π n (.same m) with
    | some π1 => (match decRefs ps qs π1 with | some (π',ds) => some (π',.n j :: ds) | none => none)
    | none => none
   | .full n,.full m => (match bindN π n (.same m) with | some π1 => decRefs ps qs π1 | none => none)
   | .mp n,.mp m => (match bindN π n (.same m) with | some π1 => decRefs ps qs π1 | none => none)
   | _,_ => none
def fillRefs : List PR → List DV → List Ref × List DV
 | [],r => ([],r)
 | .ext :: ps,r => match r with | .v x :: r => (match fillRefs ps r with | (q,r) => (.ext x :: q,r)) | r => ([],r)
 | .loc n o :: ps,r => match fillRefs ps r with | (q,r) => (.loc n o :: q,r)
 | .elem n :: ps,r => match r with | .n j :: r => (match fillRefs ps r with | (q,r) => (.elem n j :: q,r)) | r => ([],r)
 | .full n :: ps,r => match fillRefs ps r with | (q,r) => (.full n :: q,r)
 | .mp n :: ps,r => match fillRefs ps r with | (q,r) => (.mp n :: q,r)
theorem decRefs_spec : ∀ (ps : List PR) (qs : List Ref) (π π' : Bnd) (ds : List DV),decRefs ps qs π = some (π',ds) →
  SubB π π' ∧ ∃ rs,(∀ r,fillRefs ps (ds ++ r) = (rs,r)) ∧ ∀ f,FinB π' f → renRefs f rs = some qs
 | [],qs,π,π',ds,h => by
  simp only [decRefs] at h
  split at h
  ·cases h; exact ⟨.rfl' _,[],fun _ => rfl,fun _ _ => rfl⟩
  ·cases h
 | p :: ps,qs,π,π',ds,h => by
  simp only [decRefs] at h
  split at h
  ·cases h
  rename_i q qs
  split at h
  ·split at h
   ·rename_i h1
    cases h
    obtain ⟨a,rs,b,c⟩ := decRefs_spec ps qs _ _ _ h1
    exact ⟨a,.ext _ :: rs,fun r => (by simp only [List.cons_append,fillRefs,b r]; rfl),fun f hf => by simp only [renRefs,renRef,c f hf]⟩
   ·cases h
  ·split at h
   ·rename_i ho
    subst ho
    split at h
    ·rename_i hb
     obtain ⟨a,rs,b,c⟩ := decRefs_spec ps qs _ _ _ h
     exact ⟨(bindN_spec hb).1.trans a,.loc _ _ :: rs,fun r => (by simp only [fillRefs,b r]; rfl),fun f hf => by simp only [renRefs,renRef,c f hf,renN_of (bindN_fin hb (hf.of a))]⟩
    ·cases h
   ·cases h
  ·split at h
   ·rename_i hb
    split at h
    ·rename_i h1
     cases h
     obtain ⟨a,rs,b,c⟩ := decRefs_spec ps qs _ _ _ h1
     exact ⟨(bindN_spec hb).1.trans a,.elem _ _ :: rs,fun r => (by simp only [List.cons_append,fillRefs,b r]; rfl),fun f hf => by simp only [renRefs,renRef,c f hf,renN_of (bindN_fin hb (hf.of a))]⟩
    ·cases h
   ·cases h
  ·split at h
   ·rename_i hb
    obtain ⟨a,rs,b,c⟩ := decRefs_spec ps qs _ _ _ h
    exact ⟨(bindN_spec hb).1.trans a,.full _ :: rs,fun r => (by simp only [fillRefs,b r]; rfl),fun f hf => by simp only [renRefs,renRef,c f hf,renN_of (bindN_fin hb (hf.of a))]⟩
   ·cases h
  ·split at h
   ·rename_i hb
    obtain ⟨a,rs,b,c⟩ := decRefs_spec ps qs _ _ _ h
    exact ⟨(bindN_spec hb).1.trans a,.mp _ :: rs,fun r => (by simp only [fillRefs,b r]; rfl),fun f hf => by simp only [renRefs,renRef,c f hf,renN_of (bindN_fin hb (hf.of a))]⟩
   ·cases h
  ·cases h
def takeV : Nat → List DV → List Value × List DV
 | 0,r => ([],r)
 | n + 1,r => match r with | .v x :: r => (match takeV n r with | (q,r) => (x :: q,r)) | r => ([],r)
theorem takeV_map : ∀ (l : List Value) (r : List DV),takeV l.length (l.map .v ++ r) = (l,r)
 | [],r => rfl
 | v :: l,r => by simp only [List.length_cons,List.map_cons,List.cons_append,takeV,takeV_map l r]

def bnd1 (π : Bnd) (n m:Nat) (ds : List DV) : Option (Bnd × List DV) := match bindN π n (.same m) with
 | some π' => some (π',ds)
 | none => none
theorem bnd1_spec {π π' : Bnd} {n m : Nat} {ds ds' : List DV} (h : bnd1 π n m ds = some (π',ds')) : SubB π π' ∧ ds' = ds ∧ ∀ f,FinB π' f → f[n]? = some (.same m) := by
 unfold bnd1 at h
 split at h
 ·rename_i hb
  cases h
  exact ⟨(bindN_spec hb).1,rfl,fun f hf => bindN_fin hb hf⟩
 ·cases h
def decC (p : PC) (c : Cell) (π : Bnd) : Option (Bnd × List DV) := match p with
 | .i k => match c with | .raw (.int k' n) => if k = k' then some (π,[.i n]) else none | _ => none
 | .b => match c with | .raw (.bool x) => some (π,[.b x]) | _ => none
 | .s => match c with | .raw (.string x) => some (π,[.s x]) | _ => none
 | .raw => match c with | .raw v => some (π,[.v v]) | _ => none
 | .ptr n o => match c with | .ptr m o' => if o = o' then bnd1 π n m [] else none | _ => none
 | .aptr n => match c with | .aptr m o => bnd1 π n m [.n o] | _ => none
 | .sl n o => match c with | .sl m o' l cp => if o = o' then bnd1 π n m [.n l,.n cp] else none | _ => none
 | .full n => match c with
  | .full m => bnd1 π n m []
  | .raw (.slice none 0 0) => (match bindN π n .nil with | some π' => some (π',[]) | none => none)
  | .sl m off 0 0 => (match bindN π n (.mt m off) with | some π' => some (π',[]) | none => none)
  | .sl m 0 l cp => if cp = l then (match bindN π n (.cells m l) with | some π' => some (π',[]) | none => none) else none
  | _ => none
 | .eptr n k => match c with | .eptr m j k' => if k = k' then bnd1 π n m [.n j] else none | _ => none
 | .eaptr n => match c with | .eaptr m j k => bnd1 π n m [.n j,.n k] | _ => none
 | .clo f nf rs => match c with
  | .clo (.func g) first cap => if g = f ∧ first.length = nf then (match decRefs rs cap π with | some (π',ds) => some (π',first.map .v ++ ds) | none => none) else none
  | _ => none
 | .yld n => match c with | .yld m => bnd1 π n m [] | _ => none
 | .mp n => match c with | .mp m => bnd1 π n m [] | _ => none
 | .mv f a rs => match c with | .mv g a' qs => if g = f ∧ a' = a then decRefs rs qs π else none | _ => none
def fillC (p : PC) (r : List DV) : Cell × List DV := match p with
 | .i k => match r with | .i n :: r => (.raw (.int k n),r) | r => (.raw undef,r)
 | .b => match r with | .b n :: r => (.raw (.bool n),r) | r => (.raw undef,r)
 | .s => match r with | .s n :: r => (.raw (.string n),r) | r => (.raw undef,r)
 | .raw => match r with | .v n :: r => (.raw n,r) | r => (.raw undef,r)
 | .ptr n o => (.ptr n o,r)
 | .aptr n => match r with | .n o :: r => (.aptr n o,r) | r => (.raw undef,r)
 | .sl n o => match r with | .n l :: .n c :: r => (.sl n o l c,r) | r => (.raw undef,r)
 | .full n => (.full n,r)
 | .eptr n k => match r with | .n j :: r => (.eptr n j k,r) | r => (.raw undef,r)
 | .eaptr n => match r with | .n j :: .n k :: r => (.eaptr n j k,r) | r => (.raw undef,r)
 | .clo f nf rs => match takeV nf r with | (fs,r) => match fillRefs rs r with | (q,r) => (.clo (.func f) fs q,r)
 | .yld n => (.yld n,r)
 | .mp n => (.mp n,r)
 | .mv f a rs => match fillRefs rs r with | (q,r) => (.mv f a q,r)
theorem decC_spec {p : PC} {c : Cell} {π π' : Bnd} {ds : List DV} (h : decC p c π = some (π',ds)) :
  SubB π π' ∧ ∃ q,(∀ r,fillC p (ds ++ r) = (q,r)) ∧ ∀ f,FinB π' f → renC f q = some c := by
 cases p with
 | i k =>
  simp only [decC] at h
  split at h <;> try (cases h; done)
  split at h <;> try (cases h; done)
  rename_i e; cases h; subst e
  exact ⟨.rfl' _,_,fun r => rfl,fun f _ => rfl⟩
 | b =>
  simp only [decC] at h
  split at h <;> try (cases h; done)
  cases h
  exact ⟨.rfl' _,_,fun r => rfl,fun f _ => rfl⟩
 | s =>
  simp only [decC] at h
  split at h <;> try (cases h; done)
  cases h
  exact ⟨.rfl' _,_,fun r => rfl,fun f _ => rfl⟩
 | raw =>
  simp only [decC] at h
  split at h <;> try (cases h; done)
  cases h
  exact ⟨.rfl' _,_,fun r => rfl,fun f _ => rfl⟩
 | ptr n o =>
  simp only [decC] at h
  split at h <;> try (cases h; done)
  split at h <;> try (cases h; done)
  rename_i e; subst e
  obtain ⟨a,rfl,b⟩ := bnd1_spec h
  exact ⟨a,_,fun r => rfl,fun f hf => by simp only [renC,renN_of (b f hf)]⟩
 | aptr n =>
  simp only [decC] at h
  split at h <;> try (cases h; done)
  obtain ⟨a,rfl,b⟩ := bnd1_spec h
  exact ⟨a,_,fun r => rfl,fun f hf => by simp only [renC,renN_of (b f hf)]⟩
 | sl n o =>
  simp only [decC] at h
  split at h <;> try (cases h; done)
  split at h <;> try (cases h; done)
  rename_i e; subst e
  obtain ⟨a,rfl,b⟩ := bnd1_spec h
  exact ⟨a,_,fun r => rfl,fun f hf => by simp only [renC,renN_of (b f hf)]⟩
 | full n =>
  simp only [decC] at h
  split at h
  ·obtain ⟨a,rfl,b⟩ := bnd1_spec h
   exact ⟨a,_,fun r => rfl,fun f hf => by simp only [renC,b f hf]⟩
  ·split at h
   ·rename_i hb
    cases h
    exact ⟨(bindN_spec hb).1,_,fun r => rfl,fun f hf => by simp only [renC,bindN_fin hb hf]⟩
   ·cases h
  ·split at h
   ·rename_i hb
    cases h
    exact ⟨(bindN_spec hb).1,_,fun r => rfl,fun f hf => by simp only [renC,bindN_fin hb hf]⟩
   ·cases h
  ·split at h <;> try (cases h; done)
   rename_i e; subst e
   split at h
   ·rename_i hb
    cases h
    exact ⟨(bindN_spec hb).1,_,fun r => rfl,fun f hf => by simp only [renC,bindN_fin hb hf]⟩
   ·cases h
  ·cases h
 | eptr n k =>
  simp only [decC] at h
  split at h <;> try (cases h; done)
  split at h <;> try (cases h; done)
  rename_i e; subst e
  obtain ⟨a,rfl,b⟩ := bnd1_spec h
  exact ⟨a,_,fun r => rfl,fun f hf => by simp only [renC,renN_of (b f hf)]⟩
 | eaptr n =>
  simp only [decC] at h
  split at h <;> try (cases h; done)
  obtain ⟨a,rfl,b⟩ := bnd1_spec h
  exact ⟨a,_,fun r => rfl,fun f hf => by simp only [renC,renN_of (b f hf)]⟩
 | clo f nf rs =>
  simp only [decC] at h
  split at h <;> try (cases h; done)
  split at h <;> try (cases h; done)
  rename_i e
  obtain ⟨rfl,rfl⟩ := e
  split at h <;> try (cases h; done)
  rename_i hr
  cases h
  obtain ⟨a,q,b,c⟩ := decRefs_spec _ _ _ _ _ hr
  exact ⟨a,.clo (.func _) _ q,fun r => (by simp only [fillC,List.append_assoc,takeV_map,b r]; rfl),fun f hf => by simp only [renC,c f hf]⟩
 | yld n =>
  simp only [decC] at h
  split at h <;> try (cases h; done)
  obtain ⟨a,rfl,b⟩ := bnd1_spec h
  exact ⟨a,_,fun r => rfl,fun f hf => by simp only [renC,renN_of (b f hf)]⟩
 | mp n =>
  simp only [decC] at h
  split at h <;> try (cases h; done)
  obtain ⟨a,rfl,b⟩ := bnd1_spec h
  exact ⟨a,_,fun r => rfl,fun f hf => by simp only [renC,renN_of (b f hf)]⟩
 | mv f ag rs =>
  simp only [decC] at h
  split at h <;> try (cases h; done)
  split at h <;> try (cases h; done)
  rename_i e
  obtain ⟨rfl,rfl⟩ := e
  obtain ⟨a,q,b,c⟩ := decRefs_spec _ _ _ _ _ h
  exact ⟨a,.mv _ _ q,fun r => (by simp only [fillC,b r]; rfl),fun f hf => by simp only [renC,c f hf]⟩
def decCs : List PC → List Cell → Bnd → Option (Bnd × List DV)
 | [],cs,π => match cs with | [] => some (π,[]) | _ => none
 | p :: ps,cs,π => match cs with
  | [] => none
  | c :: cs => match decC p c π with
   | some (π1,d1) => (match decCs ps cs π1 with | some (π2,d2) => some (π2,d1 ++ d2) | none => none)
   | none => none
def fillCs : List PC → List DV → List Cell × List DV
 | [],r => ([],r)
 | p :: ps,r => match fillC p r with | (c,r) => match fillCs ps r with | (cs,r) => (c :: cs,r)
theorem decCs_spec : ∀ (ps : List PC) (cs : List Cell) (π π' : Bnd) (ds : List DV),decCs ps cs π = some (π',ds) →
  SubB π π' ∧ ∃ q,(∀ r,fillCs ps (ds ++ r) = (q,r)) ∧ ∀ f,FinB π' f → renCs f q = some cs
 | [],cs,π,π',ds,h => by
  simp only [decCs] at h
  split at h
  ·cases h; exact ⟨.rfl' _,[],fun _ => rfl,fun _ _ => rfl⟩
  ·cases h
 | p :: ps,cs,π,π',ds,h => by
  simp only [decCs] at h
  split at h
  ·cases h
  split at h
  ·rename_i h1
   split at h
   ·rename_i h2
    cases h
    obtain ⟨a,q,b,c⟩ := decC_spec h1
    obtain ⟨a',q',b',c'⟩ := decCs_spec ps _ _ _ _ h2
    exact ⟨a.trans a',q :: q',fun r => by simp only [fillCs,List.append_assoc,b,b'],fun f hf => by simp only [renCs,c f (hf.of a'),c' f hf]⟩
   ·cases h
  ·cases h
def decA (p : PA) (a : A0) (π : Bnd) : Option (Bnd × List DV) := match p with
 | .one p => match a with | .one c => decC p c π | _ => none
 | .agg ps => match a with | .agg cs => decCs ps cs π | _ => none
def fillA (p : PA) (r : List DV) : A0 × List DV := match p with
 | .one p => match fillC p r with | (c,r) => (.one c,r)
 | .agg ps => match fillCs ps r with | (c,r) => (.agg c,r)
theorem decA_spec {p : PA} {a : A0} {π π' : Bnd} {ds : List DV} (h : decA p a π = some (π',ds)) :
  SubB π π' ∧ ∃ q,(∀ r,fillA p (ds ++ r) = (q,r)) ∧ ∀ f,FinB π' f → renA f q = some a := by
 cases p with
 | one p =>
  simp only [decA] at h
  split at h <;> try (cases h; done)
  obtain ⟨a,q,b,c⟩ := decC_spec h
  exact ⟨a,.one q,fun r => by simp only [fillA,b r],fun f hf => by simp only [renA,c f hf]⟩
 | agg ps =>
  simp only [decA] at h
  split at h <;> try (cases h; done)
  obtain ⟨a,q,b,c⟩ := decCs_spec _ _ _ _ _ h
  exact ⟨a,.agg q,fun r => by simp only [fillA,b r],fun f hf => by simp only [renA,c f hf]⟩
def decAs : List PA → List A0 → Bnd → Option (Bnd × List DV)
 | [],cs,π => match cs with | [] => some (π,[]) | _ => none
 | p :: ps,cs,π => match cs with
  | [] => none
  | c :: cs => match decA p c π with
   | some (π1,d1) => (match decAs ps cs π1 with | some (π2,d2) => some (π2,d1 ++ d2) | none => none)
   | none => none
def fillAs : List PA → List DV → List A0 × List DV
 | [],r => ([],r)
 | p :: ps,r => match fillA p r with | (c,r) => match fillAs ps r with | (cs,r) => (c :: cs,r)
theorem decAs_spec : ∀ (ps : List PA) (cs : List A0) (π π' : Bnd) (ds : List DV),decAs ps cs π = some (π',ds) →
  SubB π π' ∧ ∃ q,(∀ r,fillAs ps (ds ++ r) = (q,r)) ∧ ∀ f,FinB π' f → renAs f q = some cs
 | [],cs,π,π',ds,h => by
  simp only [decAs] at h
  split at h
  ·cases h; exact ⟨.rfl' _,[],fun _ => rfl,fun _ _ => rfl⟩
  ·cases h
 | p :: ps,cs,π,π',ds,h => by
  simp only [decAs] at h
  split at h
  ·cases h
  split at h
  ·rename_i h1
   split at h
   ·rename_i h2
    cases h
    obtain ⟨a,q,b,c⟩ := decA_spec h1
    obtain ⟨a',q',b',c'⟩ := decAs_spec ps _ _ _ _ h2
    exact ⟨a.trans a',q :: q',fun r => by simp only [fillAs,List.append_assoc,b,b'],fun f hf => by simp only [renAs,c f (hf.of a'),c' f hf]⟩
   ·cases h
  ·cases h
def decVs : List PV → List AV → Bnd → Option (Bnd × List DV)
 | [],vs,π => match vs with | [] => some (π,[]) | _ => none
 | p :: ps,vs,π => match vs with
  | [] => none
  | x :: vs => match p with
   | .d => decVs ps vs π
   | .v a => (match x with
    | .v y => (match decA a y π with
     | some (π1,d1) => (match decVs ps vs π1 with | some (π2,d2) => some (π2,d1 ++ d2) | none => none)
     | none => none)
    | _ => none)
   | .tup l => (match x with
    | .tup m => (match decAs l m π with
     | some (π1,d1) => (match decVs ps vs π1 with | some (π2,d2) => some (π2,d1 ++ d2) | none => none)
     | none => none)
    | _ => none)
def fillVs : List PV → List DV → List AV × List DV
 | [],r => ([],r)
 | .d :: ps,r => match fillVs ps r with | (q,r) => (.dead :: q,r)
 | .v a :: ps,r => match fillA a r with | (x,r) => match fillVs ps r with | (q,r) => (.v x :: q,r)
 | .tup l :: ps,r => match fillAs l r with | (x,r) => match fillVs ps r with | (q,r) => (.tup x :: q,r)
theorem decVs_spec : ∀ (ps : List PV) (vs : List AV) (π π' : Bnd) (ds : List DV),decVs ps vs π = some (π',ds) →
  SubB π π' ∧ ∃ q,(∀ r,fillVs ps (ds ++ r) = (q,r)) ∧ ∀ f,FinB π' f → tmpsR f vs q
 | [],vs,π,π',ds,h => by
  simp only [decVs] at h
  split at h
  ·cases h; exact ⟨.rfl' _,[],fun _ => rfl,fun _ _ => trivial⟩
  ·cases h
 | p :: ps,vs,π,π',ds,h => by
  simp only [decVs] at h
  split at h
  ·cases h
  rename_i x vs
  cases p with
  | d =>
   obtain ⟨a,q,b,c⟩ := decVs_spec ps vs _ _ _ h
   exact ⟨a,.dead :: q,fun r => by simp only [fillVs,b r],fun f hf => c f hf⟩
  | v pa =>
   dsimp only at h
   split at h <;> try (cases h; done)
   split at h <;> try (cases h; done)
   rename_i h1
   split at h <;> try (cases h; done)
   rename_i h2
   cases h
   obtain ⟨a,q,b,c⟩ := decA_spec h1
   obtain ⟨a',q',b',c'⟩ := decVs_spec ps _ _ _ _ h2
   exact ⟨a.trans a',.v q :: q',fun r => by simp only [fillVs,List.append_assoc,b,b'],fun f hf => ⟨by simp only [renV,c f (hf.of a')],c' f hf⟩⟩
  | tup l =>
   dsimp only at h
   split at h <;> try (cases h; done)
   split at h <;> try (cases h; done)
   rename_i h1
   split at h <;> try (cases h; done)
   rename_i h2
   cases h
   obtain ⟨a,q,b,c⟩ := decAs_spec _ _ _ _ _ h1
   obtain ⟨a',q',b',c'⟩ := decVs_spec ps _ _ _ _ h2
   exact ⟨a.trans a',.tup q :: q',fun r => by simp only [fillVs,List.append_assoc,b,b'],fun f hf => ⟨by simp only [renV,c f (hf.of a')],c' f hf⟩⟩

def fixB (π : Bnd) : Nat → Bool
 | 0 => true
 | n + 1 => (match π[n]? with | some (some (.same m)) => m == n | _ => false) && fixB π n
theorem fixB_spec {π : Bnd} {f : List Src} (hf : FinB π f) : ∀ {n : Nat},fixB π n = true → fixedB f n = true
 | 0,_ => rfl
 | n + 1,h => by
  simp only [fixB,Bool.and_eq_true] at h
  simp only [fixedB,Bool.and_eq_true]
  refine ⟨?_,fixB_spec hf h.2⟩
  have h1 := h.1
  split at h1
  ·rename_i m hm
   rw [hf _ _ hm]; exact h1
  ·cases h1
def decO (h : List AObj) (p : PO) (s : Src) (π : Bnd) : Option (Bnd × List DV) := match p with
 | .gone => none
 | .cells ps e => match s with
  | .same m => (match liveAt h m with | some (.cells cs e') => if e = e' then decCs ps cs π else none | _ => none)
  | _ => none
 | .row t rk => match s with
  | .same m => (match liveAt h m with
   | some (.row u l k) => if k = rk then (match castL u t l with | some l' => some (π,[.l t l']) | none => none) else none
   | _ => none)
  | .nil => if rk = 0 then none else some (π,[.l t []])
  | .mt m _ => if rk = 3 then (match liveAt h m with | some (.cells _ _) => some (π,[.l t []]) | _ => none) else none
  | .any _ => none
  | .cells m len => if (rk = 2 ∨ rk = 3) ∧ t.flat = true then (match liveAt h m with
   | some (.cells cs _) => if cs.length = len * t.size ∧ Nat.ble len 1099511627776 = true then (match decN (decT (fun _ => none) t) len cs with | some (l,[]) => some (π,[.l t l]) | _ => none) else none
   | _ => none) else none
 | .alias n q => match s with
  | .same m => (match liveAt h m with
   | some (.alias n' a b) => (match q,b with
    | false,none => bnd1 π n n' [.n a]
    | true,some x => bnd1 π n n' [.n a,.n x]
    | _,_ => none)
   | _ => none)
  | _ => none
 | .loop busy => match s with
  | .same m => (match liveAt h m with
   | some (.loop r s none) => (match busy,s with
    | false,.ready => some (π,[.lo r])
    | true,.busy => some (π,[.lo r])
    | _,_ => none)
   | _ => none)
  | _ => none
 | .pin k => match s with
  | .same m => (match liveAt h m with | some (.pin ρ k') => if k = k' ∧ fixB π k = true then some (π,[.env ρ]) else none | _ => none)
  | _ => none
 | .hide => match s with
  | .same m => (match liveAt h m with | some (.hide S) => some (π,[.hd S]) | _ => none)
  | _ => none
 | .map ka va k v => match s with
  | .same m => (match liveAt h m with
   | some (.map ka' va' k' v' l) => if ka' = ka ∧ va' = va then (match castL (.prod k' v') (.prod k v) l with | some l' => some (π,[.l (.prod k v) l']) | none => none) else none
   | _ => none)
  | _ => none
 | .grp ka k u c => match s with
  | .same m => (match liveAt h m with
   | some (.grp ka' k' u' l c' none) => if ka' = ka then (match castL (.prod k' (.sl u')) (.prod k (.sl u)) l with | some l' => bnd1 π c c' [.l (.prod k (.sl u)) l'] | none => none) else none
   | _ => none)
  | _ => none
 | .set n => match s with
  | .same m => (match liveAt h m with | some (.set n') => bnd1 π n n' [] | _ => none)
  | _ => none
 | .gv n c k u => match s with
  | .same m => (match liveAt h m with
   | some (.gv n' c' k' u' x l) => (match castT k' k x,castL u' u l with
    | some x',some l' => (match bindN π n (.same n') with | some π1 => bnd1 π1 c c' [.tv k x',.l u l'] | none => none)
    | _,_ => none)
   | _ => none)
  | _ => none
 | .rc ps => match s with
  | .same m => (match liveAt h m with | some (.rc cs) => decCs ps cs π | _ => none)
  | _ => none
 | .dp t c st => match s with
  | .same m => (match liveAt h m with
   | some (.dp t' l c' st' kn) => if st' = st then (match castL t' t l with | some l' => bnd1 π c c' [.l t l',.b kn] | none => none) else none
   | _ => none)
  | _ => none
 | .nv n c q u => match s with
  | .same m => (match liveAt h m with
   | some (.nv n' c' j q' u') => if q' = q ∧ u' = u then (match bindN π n (.same n') with | some π1 => bnd1 π1 c c' [.n j] | none => none) else none
   | _ => none)
  | _ => none
def fillO (p : PO) (r : List DV) : AObj × List DV := match p with
 | .gone => (.gone,r)
 | .cells ps e => match fillCs ps r with | (cs,r) => (.cells cs e,r)
 | .row t rk => match r with | d :: r => (match d.as (.l t) with | some l => (.row t l rk,r) | none => (.gone,r)) | r => (.gone,r)
 | .alias n false => match r with | .n a :: r => (.alias n a none,r) | r => (.gone,r)
 | .alias n true => match r with | .n a :: .n b :: r => (.alias n a (some b),r) | r => (.gone,r)
 | .loop busy => match r with | .lo l :: r => (.loop l (bif busy then .busy else .ready) none,r) | r => (.gone,r)
 | .pin k => match r with | .env ρ :: r => (.pin ρ k,r) | r => (.gone,r)
 | .hide => match r with | .hd S :: r => (.hide S,r) | r => (.gone,r)
 | .map ka va k v => match r with | d :: r => (match d.as (.l (.prod k v)) with | some l => (.map ka va k v l,r) | none => (.gone,r)) | r => (.gone,r)
 | .grp ka k u c => match r with | d :: r => (match d.as (.l (.prod k (.sl u))) with | some l => (.grp ka k u l c none,r) | none => (.gone,r)) | r => (.gone,r)
 | .set n => (.set n,r)
 | .rc ps => match fillCs ps r with | (cs,r) => (.rc cs,r)
 | .dp t c st => match r with | d :: .b kn :: r => (match d.as (.l t) with | some l => (.dp t l c st kn,r) | none => (.gone,r)) | r => (.gone,r)
 | .nv n c q u => match r with | .n j :: r => (.nv n c j q u,r) | r => (.gone,r)
 | .gv n c k u => match r with | d :: e :: r => (match d.as (.tv k),e.as (.l u) with | some x,some l => (.gv n c k u x l,r) | _,_ => (.gone,r)) | r => (.gone,r)
theorem castT_self (t : Ty) (x : t.T) : castT t t x = some x := by unfold castT; rw [dif_pos rfl]
theorem castL_self (t : Ty) (l : List t.T) : castL t t l = some l := by unfold castL; rw [dif_pos rfl]
theorem fillO_row (t : Ty) (rk:Nat) (l : List t.T) (r : List DV) : fillO (.row t rk) (.l t l :: r) = (.row t l rk,r) := by
 simp only [fillO,DV.as,castL_self]
theorem fillO_map (ka va : Bool) (k v : Ty) (l : List (k.T × v.T)) (r : List DV) : fillO (.map ka va k v) (.l (.prod k v) l :: r) = (.map ka va k v l,r) := by
 simp only [fillO,DV.as,castL_self]
theorem fillO_grp (ka : Bool) (k u : Ty) (c:Nat) (l : List (k.T × List u.T)) (r : List DV) : fillO (.grp ka k u c) (.l (.prod k (.sl u)) l :: r) = (.grp ka k u l c none,r) := by
 simp only [fillO,DV.as,castL_self]
theorem fillO_gv (n c:Nat) (k u : Ty) (x : k.T) (l : List u.T) (r : List DV) : fillO (.gv n c k u) (.tv k x :: .l u l :: r) = (.gv n c k u x l,r) := by
 simp only [fillO,DV.as,castL_self,castT_self]
theorem fillO_dp (t : Ty) (c:Nat) (st kn : Bool) (l : List t.T) (r : List DV) : fillO (.dp t c st) (.l t l :: .b kn :: r) = (.dp t l c st kn,r) := by
 simp only [fillO,DV.as,castL_self]
theorem decO_spec {h : List AObj} {p : PO} {s : Src} {π π' : Bnd} {ds : List DV} (hd : decO h p s π = some (π',ds)) :
  SubB π π' ∧ ∃ o,o ≠ .gone ∧ (∀ r,fillO p (ds ++ r) = (o,r)) ∧ ∀ f,FinB π' f → objR f h s o := by
 cases p with
 | gone => cases hd
 | cells ps e =>
  simp only [decO] at hd
  split at hd <;> try (cases hd; done)
  split at hd <;> try (cases hd; done)
  rename_i hl
  split at hd <;> try (cases hd; done)
  rename_i he; subst he
  obtain ⟨a,q,b,c⟩ := decCs_spec _ _ _ _ _ hd
  exact ⟨a,.cells q _,by simp,fun r => (by simp only [fillO,b r]; rfl),fun f hf => ⟨_,hl,by simp only [renO,c f hf]⟩⟩
 | row t rk =>
  simp only [decO] at hd
  split at hd
  ·split at hd <;> try (cases hd; done)
   rename_i hl
   split at hd <;> try (cases hd; done)
   rename_i hk; subst hk
   split at hd <;> try (cases hd; done)
   rename_i hc
   cases hd
   obtain ⟨e1,e2⟩ := castL_eq hc
   subst e1
   dsimp only at e2
   subst e2
   exact ⟨.rfl' _,_,by simp,fun r => fillO_row _ _ _ r,fun f hf => ⟨_,hl,rfl⟩⟩
  ·split at hd <;> try (cases hd; done)
   rename_i hk
   cases hd
   exact ⟨.rfl' _,_,by simp,fun r => fillO_row _ _ _ r,fun f hf => ⟨t,rk,rfl,hk⟩⟩
  ·split at hd <;> try (cases hd; done)
   rename_i hk
   subst hk
   split at hd <;> try (cases hd; done)
   rename_i hl
   cases hd
   exact ⟨.rfl' _,_,by simp,fun r => fillO_row _ _ _ r,fun f hf => ⟨t,_,_,rfl,hl⟩⟩
  ·cases hd
  ·split at hd <;> try (cases hd; done)
   rename_i hk
   obtain ⟨hrk,hfl⟩ := hk
   split at hd <;> try (cases hd; done)
   rename_i hl
   split at hd <;> try (cases hd; done)
   rename_i hlen
   split at hd <;> try (cases hd; done)
   rename_i hN
   cases hd
   exact ⟨.rfl' _,_,by simp,fun r => fillO_row _ _ _ r,fun f hf => ⟨t,_,_,_,_,rfl,hrk,hl,hfl,hN,hlen⟩⟩
 | alias n q =>
  simp only [decO] at hd
  split at hd <;> try (cases hd; done)
  split at hd <;> try (cases hd; done)
  rename_i hl
  split at hd <;> try (cases hd; done)
  ·obtain ⟨a,rfl,b⟩ := bnd1_spec hd
   exact ⟨a,_,by simp,fun r => rfl,fun f hf => ⟨_,hl,by simp only [renO,renN_of (b f hf)]⟩⟩
  ·obtain ⟨a,rfl,b⟩ := bnd1_spec hd
   exact ⟨a,_,by simp,fun r => rfl,fun f hf => ⟨_,hl,by simp only [renO,renN_of (b f hf)]⟩⟩
 | loop busy =>
  simp only [decO] at hd
  split at hd <;> try (cases hd; done)
  split at hd <;> try (cases hd; done)
  rename_i hl
  split at hd <;> try (cases hd; done)
  all_goals
   cases hd
   exact ⟨.rfl' _,_,by simp,fun r => rfl,fun f hf => ⟨_,hl,rfl⟩⟩
 | pin k =>
  simp only [decO] at hd
  split at hd <;> try (cases hd; done)
  split at hd <;> try (cases hd; done)
  rename_i hl
  split at hd <;> try (cases hd; done)
  rename_i hk
  obtain ⟨rfl,hk⟩ := hk
  cases hd
  exact ⟨.rfl' _,_,by simp,fun r => rfl,fun f hf => ⟨_,hl,by simp only [renO,fixB_spec hf hk,if_true]⟩⟩
 | hide =>
  simp only [decO] at hd
  split at hd <;> try (cases hd; done)
  split at hd <;> try (cases hd; done)
  rename_i hl
  cases hd
  exact ⟨.rfl' _,_,by simp,fun r => rfl,fun f hf => ⟨_,hl,rfl⟩⟩
 | map ka va k v =>
  simp only [decO] at hd
  split at hd <;> try (cases hd; done)
  split at hd <;> try (cases hd; done)
  rename_i hl
  split at hd <;> try (cases hd; done)
  rename_i hk
  obtain ⟨rfl,rfl⟩ := hk
  split at hd <;> try (cases hd; done)
  rename_i hc
  cases hd
  obtain ⟨e1,e2⟩ := castL_eq hc
  cases e1
  dsimp only at e2
  subst e2
  exact ⟨.rfl' _,_,by simp,fun r => fillO_map _ _ _ _ _ r,fun f hf => ⟨_,hl,rfl⟩⟩
 | grp ka k u c =>
  simp only [decO] at hd
  split at hd <;> try (cases hd; done)
  split at hd <;> try (cases hd; done)
  rename_i hl
  split at hd <;> try (cases hd; done)
  rename_i hk; subst hk
  split at hd <;> try (cases hd; done)
  rename_i hc
  obtain ⟨e1,e2⟩ := castL_eq hc
  cases e1
  dsimp only at e2
  subst e2
  obtain ⟨a,rfl,b⟩ := bnd1_spec hd
  exact ⟨a,_,by simp,fun r => fillO_grp _ _ _ _ _ r,fun f hf => ⟨_,hl,by simp only [renO,renN_of (b f hf)]⟩⟩
 | set n =>
  simp only [decO] at hd
  split at hd <;> try (cases hd; done)
  split at hd <;> try (cases hd; done)
  rename_i hl
  obtain ⟨a,rfl,b⟩ := bnd1_spec hd
  exact ⟨a,_,by simp,fun r => rfl,fun f hf => ⟨_,hl,by simp only [renO,renN_of (b f hf)]⟩⟩
 | gv n c k u =>
  simp only [decO] at hd
  split at hd <;> try (cases hd; done)
  split at hd <;> try (cases hd; done)
  rename_i hl
  split at hd <;> try (cases hd; done)
  rename_i hx hc
  split at hd <;> try (cases hd; done)
  rename_i π1 hb
  obtain ⟨e1,e2⟩ := castL_eq hc
  subst e1
  dsimp only at e2
  subst e2
  obtain ⟨e3,e4⟩ := castT_eq hx
  subst e3
  dsimp only at e4
  subst e4
  obtain ⟨a,rfl,b⟩ := bnd1_spec hd
  have s1 := (bindN_spec hb).1
  exact ⟨s1.trans a,_,by simp,fun r => fillO_gv _ _ _ _ _ _ r,fun f hf => ⟨_,hl,by simp only [renO,renN_of (b f hf),renN_of (bindN_fin hb (hf.of a))]⟩⟩
 | rc ps =>
  simp only [decO] at hd
  split at hd <;> try (cases hd; done)
  split at hd <;> try (cases hd; done)
  rename_i hl
  obtain ⟨a,q,b,c⟩ := decCs_spec _ _ _ _ _ hd
  exact ⟨a,.rc q,by simp,fun r => (by simp only [fillO,b r]),fun f hf => ⟨_,hl,by simp only [renO,c f hf]⟩⟩
 | dp t c st =>
  simp only [decO] at hd
  split at hd <;> try (cases hd; done)
  split at hd <;> try (cases hd; done)
  rename_i hl
  split at hd <;> try (cases hd; done)
  rename_i hk; subst hk
  split at hd <;> try (cases hd; done)
  rename_i hc
  obtain ⟨e1,e2⟩ := castL_eq hc
  subst e1
  dsimp only at e2
  subst e2
  obtain ⟨a,rfl,b⟩ := bnd1_spec hd
  exact ⟨a,_,by simp,fun r => fillO_dp _ _ _ _ _ r,fun f hf => ⟨_,hl,by simp only [renO,renN_of (b f hf)]⟩⟩
 | nv n c q u =>
  simp only [decO] at hd
  split at hd <;> try (cases hd; done)
  split at hd <;> try (cases hd; done)
  rename_i hl
  split at hd <;> try (cases hd; done)
  rename_i hk
  obtain ⟨rfl,rfl⟩ := hk
  split at hd <;> try (cases hd; done)
  rename_i π1 hb
  obtain ⟨a,rfl,b⟩ := bnd1_spec hd
  have s1 := (bindN_spec hb).1
  exact ⟨s1.trans a,_,by simp,fun r => rfl,fun f hf => ⟨_,hl,by simp only [renO,renN_of (b f hf),renN_of (bindN_fin hb (hf.of a))]⟩⟩
def PO.isGone : PO → Bool
 | .gone => true
 | _ => false
def decOs (h : List AObj) : List PO → Nat → Bnd → Option (Bnd × List DV)
 | [],_,π => some (π,[])
 | p :: ps,n,π => match p.isGone with
  | true => decOs h ps (n + 1) π
  | false => match π[n]? with
   | some (some s) => (match decO h p s π with
    | some (π1,d1) => (match decOs h ps (n + 1) π1 with | some (π2,d2) => some (π2,d1 ++ d2) | none => none)
    | none => none)
   | _ => none
def fillOs : List PO → List DV → List AObj × List DV
 | [],r => ([],r)
 | p :: ps,r => match fillO p r with | (c,r) => match fillOs ps r with | (cs,r) => (c :: cs,r)
theorem heapR_cons {π : List Src} {h : List AObj} {s : Src} {o : AObj} {ss : List Src} {os : List AObj} (ho : o ≠ .gone) (h1 : objR π h s o) (h2 : heapR π h ss os) : heapR π h (s :: ss) (o :: os) := by
 cases o <;> first | exact absurd rfl ho | exact ⟨h1,h2⟩
theorem decOs_spec {h : List AObj} : ∀ (ps : List PO) (n:Nat) (π π' : Bnd) (ds : List DV),decOs h ps n π = some (π',ds) →
  SubB π π' ∧ ∃ os,(∀ r,fillOs ps (ds ++ r) = (os,r)) ∧ ∀ f,FinB π' f → f.length = n + ps.length → heapR f h (f.drop n) os
 | [],n,π,π',ds,hd => by
  simp only [decOs,Option.some.injEq,Prod.mk.injEq] at hd
  obtain ⟨rfl,rfl⟩ := hd
  refine ⟨.rfl' _,[],fun _ => rfl,fun f _ hl => ?_⟩
  rw [List.drop_eq_nil_of_le (by simp at hl; omega)]; trivial
 | p :: ps,n,π,π',ds,hd => by
  simp only [decOs] at hd
  split at hd
  ·rename_i hg
   cases p <;> simp [PO.isGone] at hg
   obtain ⟨a,q,b,c⟩ := decOs_spec ps _ _ _ _ hd
   refine ⟨a,.gone :: q,fun r => by simp only [fillOs,fillO,b r],fun f hf hl => ?_⟩
   rw [List.length_cons] at hl
   rw [List.drop_eq_getElem_cons (by omega)]
   exact c f hf (by omega)
  ·split at hd <;> try (cases hd; done)
   rename_i s hs
   split at hd <;> try (cases hd; done)
   rename_i h1
   split at hd <;> try (cases hd; done)
   rename_i h2
   cases hd
   obtain ⟨a,o,hg,b,c⟩ := decO_spec h1
   obtain ⟨a',q',b',c'⟩ := decOs_spec ps _ _ _ _ h2
   refine ⟨a.trans a',o :: q',fun r => by simp only [fillOs,List.append_assoc,b,b'],fun f hf hl => ?_⟩
   rw [List.length_cons] at hl
   have e := hf.of (a.trans a') n s hs
   rw [List.drop_eq_getElem_cons (by omega)]
   have e2 : f[n]'(by omega) = s := by rw [List.getElem?_eq_getElem (by omega)] at e; exact Option.some.inj e
   rw [e2]
   exact heapR_cons hg (c f (hf.of a')) (c' f hf (by omega))

structure PatD (gt : List HT) where
 ps : List PV
 po : List PO
 top : Nat := 0
 hid : Option Nat := none
 gi : List Nat := []
 ci : List Nat := []
 vi : List Nat
 ts : List HT
 c : List DV := []
def isHide : AObj → Bool
 | .hide _ => true
 | _ => false
def findHide : List AObj → Nat → Option Nat
 | [],_ => none
 | o :: r,n => match isHide o with | true => some n | false => findHide r (n + 1)
namespace PatD
variable {gt : List HT}
def N (p : PatD gt) : Nat := p.gi.length + p.ci.length + p.vi.length
def idx (p : PatD gt) : List Nat := p.gi ++ (p.ci ++ p.vi)
def allB : List Nat → Nat → Bool
 | _,0 => true
 | l,n + 1 => memN n l && allB l n
def ok (p : PatD gt) : Bool := allB p.idx p.N
def bnd0 (p : PatD gt) (h : List AObj) : Option Bnd :=
 match p.hid with
 | none => some ((List.range p.po.length).map fun i => bif Nat.blt i p.top then some (.same i) else none)
 | some n => match findHide h 0 with
  | some j => bindN ((List.range p.po.length).map fun i => bif Nat.blt i p.top then some (.same i) else none) n (.same j)
  | none => none
def fillAll (p : PatD gt) (ds : List DV) : AS := match fillVs p.ps ds with
 | (ts,r) => match fillOs p.po r with
  | (os,_) => ⟨ts,os⟩
def fill (p : PatD gt) (g : TT gt) (s : TT p.ts) : AS := p.fillAll (scat p.idx (ofTT gt g ++ (p.c ++ ofTT p.ts s)) p.N)
def fin (π : Bnd) : List Src := π.map fun o => match o with | some s => s | none => .nil
def read (p : PatD gt) (st : AS) : Option (TT gt × List DV × TT p.ts) := match p.bnd0 st.heap with
 | none => none
 | some π0 => match decVs p.ps st.tmps π0 with
  | none => none
  | some (π1,d1) => match decOs st.heap p.po 0 π1 with
   | none => none
   | some (π2,d2) => match Nat.beq (d1 ++ d2).length p.N && nodupL (srcs (fin π2) (p.fillAll (d1 ++ d2)).heap) with
    | false => none
    | true => match toTT gt (gath p.gi (d1 ++ d2)),toTT p.ts (gath p.vi (d1 ++ d2)) with
     | some g,some s => some (g,gath p.ci (d1 ++ d2),s)
     | _,_ => none
theorem fin_ok (π : Bnd) : FinB π (fin π) := fun n s h => by simp [fin,h]
theorem allB_spec {l : List Nat} : ∀ {n : Nat}, allB l n = true → ∀ j, j < n → j ∈ l
  | 0, _, j, h => by omega
  | n + 1, h, j, hj => by
    simp only [allB, Bool.and_eq_true] at h
    rcases Nat.lt_or_ge j n with h1 | h1
    · exact allB_spec h.2 j h1
    · have : j = n := by omega
      subst this; exact memN_mem h.1
where memN_mem {x : Nat} : ∀ {l : List Nat}, memN x l = true → x ∈ l
        | [], h => by cases h
        | y :: r, h => by
          simp only [memN, Bool.or_eq_true] at h
          rcases h with h | h
          · simp [Nat.eq_of_beq_eq_true h]
          · exact List.mem_cons_of_mem _ (memN_mem h)
theorem bnd0_len {p : PatD gt} {h : List AObj} {π : Bnd} (hb : p.bnd0 h = some π) : π.length = p.po.length := by
 unfold bnd0 at hb
 split at hb
 ·cases hb; simp
 ·split at hb
  ·rw [(bindN_spec hb).1.len]; simp
  ·cases hb
theorem read_ok {p : PatD gt} (hp : p.ok = true) {st : AS} {g : TT gt} {c : List DV} {s : TT p.ts} (h : p.read st = some (g,c,s)) (hc : c = p.c) : Weak st (p.fill g s) := by
 unfold read at h
 split at h <;> try (cases h; done)
 rename_i π0 h0
 split at h <;> try (cases h; done)
 rename_i π1 d1 h1
 split at h <;> try (cases h; done)
 rename_i π2 d2 h2
 split at h <;> try (cases h; done)
 rename_i hn
 simp only [Bool.and_eq_true] at hn
 split at h <;> try (cases h; done)
 rename_i g' s' hg hs
 cases h
 have hlen : (d1 ++ d2).length = p.N := Nat.eq_of_beq_eq_true hn.1
 have key : p.fill g s = p.fillAll (d1 ++ d2) := by
  unfold fill
  rw [toTT_of _ _ _ hg,toTT_of _ _ _ hs,← hc]
  have : gath p.gi (d1 ++ d2) ++ (gath p.ci (d1 ++ d2) ++ gath p.vi (d1 ++ d2)) = gath p.idx (d1 ++ d2) := by simp [gath,idx]
  rw [this,← hlen,scat_gath fun j hj => allB_spec hp j (by omega)]
 rw [key]
 obtain ⟨a,q,b,t⟩ := decVs_spec _ _ _ _ _ h1
 obtain ⟨a',q',b',t'⟩ := decOs_spec _ _ _ _ _ h2
 have b'' := b' []
 rw [List.append_nil] at b''
 have e : p.fillAll (d1 ++ d2) = ⟨q,q'⟩ := by simp only [fillAll,b d2,b'']
 refine ⟨fin π2,?_,?_,?_⟩
 ·rw [e]; exact t _ ((fin_ok _).of a')
 ·rw [e]
  have := t' (fin π2) (fin_ok _) (by simp [fin,a'.len,a.len,bnd0_len h0])
  rwa [List.drop_zero] at this
 ·exact hn.2
end PatD
end Go.Ev
