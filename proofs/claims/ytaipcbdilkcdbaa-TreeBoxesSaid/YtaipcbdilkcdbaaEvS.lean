/- Functions that write rows which they are handed. -/
import Derived.Test.YtaipcbdilkcdbaaEvR
noncomputable section
set_option linter.unusedSectionVars false
set_option linter.unusedVariables false
set_option linter.unusedSimpArgs false
namespace Go.Ev
open Go.RowKit

inductive WPar
 | val (p : Par)
 | row (t : Ty)
 | ptr (t : Ty) (e : TypeId)
 | pair (a b : WPar)
@[reducible] def WPar.ty : WPar → Ty
 | .val p => p.ty
 | .row t => .sl t
 | .ptr t _ => t
 | .pair a b => .prod a.ty b.ty
@[reducible] def WPar.out : WPar → Ty
 | .val _ => .bool
 | .row t => .sl t
 | .ptr t _ => t
 | .pair a b => .prod a.out b.out
theorem cellsT_raw {t : Ty} {x : t.T} : ∀ c ∈ rawC t x,∃ v,c = .raw v := fun c hc => by
 obtain ⟨q,_,rfl⟩ := List.mem_map.1 hc
 exact ⟨_,rfl⟩
theorem decT_cellsT {hp : HP} : ∀ (t : Ty) (cs : List Cell) (x : t.T) (r : List Cell) (tc : List Nat),t.flat = true → decT hp t cs = some (x,r,tc) → cs = rawC t x ++ r
 | .int k,cs,x,r,tc,_,h => by
  simp only [decT] at h
  split at h
  ·split at h
   ·rename_i e; subst e; cases h; rfl
   ·cases h
  ·cases h
 | .bool,cs,x,r,tc,_,h => by
  simp only [decT] at h
  split at h
  ·cases h; rfl
  ·cases h
 | .str,cs,x,r,tc,_,h => by
  simp only [decT] at h
  split at h
  ·cases h; rfl
  ·cases h
 | .prod a b,cs,x,r,tc,hf,h => by
  simp only [Ty.flat,Bool.and_eq_true] at hf
  simp only [decT] at h
  split at h
  ·rename_i x1 r1 tc1 h1
   split at h
   ·rename_i y r2 tc2 h2
    cases h
    rw [decT_cellsT a _ _ _ _ hf.1 h1,decT_cellsT b _ _ _ _ hf.2 h2]
    simp [rawC,Ty.comps]
   ·cases h
  ·cases h
 | .sl u,cs,x,r,tc,hf,h => by simp [Ty.flat] at hf
def encW : Nat → (p : WPar) → p.ty.T → List A0 × List AObj
 | nm,.val p,x => encP 0 nm p x
 | nm,.row t,x => ([.one (.full nm)],[.row t x 1])
 | nm,.ptr t e,x => ([.one (.ptr nm 0)],[.cells (rawC t x) e])
 | nm,.pair a b,x => match encW nm a x.1 with
  | (as,os) => match encW (nm + os.length) b x.2 with
   | (bs,os') => (as ++ bs,os ++ os')
def decW (hp : HP) : (p : WPar) → List AV → Option (p.ty.T × List AV × List Nat × List (Nat × Nat) × Bool)
 | .val p,l => match decP hp p l with
  | some (x,r,tc,b) => some (x,r,tc,[],b)
  | none => none
 | .row t,l => match l with
  | .v (.one (.full n)) :: r => match hp n with
   | some (.row u l rk) => if rk ≠ 0 ∧ t.flat = true then (match castL u t l with
    | some l' => some (l',r,[],[(n,rk)],true)
    | none => none) else none
   | _ => none
  | _ => none
 | .ptr t e,l => match l with
  | .v (.one (.ptr n 0)) :: r => match hp n with
   | some (.cells cs e') => if e' = e ∧ t.flat = true then (match decT hp t cs with
    | some (x,[],_) => some (x,r,[],[(n,0)],true)
    | _ => none) else none
   | _ => none
  | _ => none
 | .pair a b,l => match decW hp a l with
  | some (x,r,tc,ws,f) => match decW hp b r with
   | some (y,r',tc',ws',f') => some ((x,y),r',tc ++ tc',ws ++ ws',f && f')
   | none => none
  | none => none
def raws (cs : List Cell) : Prop := ∀ c ∈ cs,∃ v,c = Cell.raw v
structure WRec where
 n : Nat
 rk : Nat
 m : Nat
 a : AObj
 b : AObj
 c : AObj
 d : AObj
def WP1 (q : WRec) : Prop := (∃ (t : Ty) (l : List t.T),q.rk ≠ 0 ∧ t.flat = true ∧ q.a = .row t l 1 ∧ q.b = .row t l q.rk) ∨ (∃ cs e,raws cs ∧ q.a = .cells cs e ∧ q.b = .cells cs e)
def WPc (q : WRec) : Prop := (∃ (t : Ty) (l z : List t.T),z.length = l.length ∧ q.a = .row t l 1 ∧ q.c = .row t z 1 ∧ q.d = .row t z q.rk) ∨ (∃ cs zs e,raws zs ∧ q.a = .cells cs e ∧ q.c = .cells zs e ∧ q.d = .cells zs e)
def WP2 (q : WRec) : Prop := (∃ (t : Ty) (l z : List t.T),q.rk ≠ 0 ∧ t.flat = true ∧ z.length = l.length ∧ q.b = .row t l q.rk ∧ q.c = .row t z 1 ∧ q.d = .row t z q.rk) ∨ (∃ cs zs e,raws zs ∧ q.b = .cells cs e ∧ q.c = .cells zs e ∧ q.d = .cells zs e)
theorem WP2.of {q : WRec} (h : WP1 q) (h' : WPc q) : WP2 q := by
 rcases h with ⟨t,l,h1,h2,h3,h4⟩ | ⟨cs,e,h1,h2,h3⟩
 ·rcases h' with ⟨t',l',z,k1,k2,k3,k4⟩ | ⟨cs,zs,e,k1,k2,k3,k4⟩
  ·rw [h3] at k2
   injection k2 with e1 e2
   subst e1
   cases eq_of_heq e2
   exact .inl ⟨t,l,z,h1,h2,k1,h4,k3,k4⟩
  ·rw [h3] at k2; cases k2
 ·rcases h' with ⟨t',l',z,k1,k2,k3,k4⟩ | ⟨cs',zs,e',k1,k2,k3,k4⟩
  ·rw [h2] at k2; cases k2
  ·rw [h2] at k2
   injection k2 with e1 e2
   subst e1; subst e2
   exact .inr ⟨cs,zs,e,k1,h3,k3,k4⟩
theorem raws_conc {cs : List Cell} (h : raws cs) (ρ ρ' : Env) : cs.map (Cell.conc ρ') = cs.map (Cell.conc ρ) := List.map_congr_left fun c hc => by
 obtain ⟨v,rfl⟩ := h c hc; rfl
theorem WP1.at_ {q : WRec} (h : WP1 q) {fz pm fz' pm' : Nat → Prop} {ρ ρ0 : Env} {n m : Nat} {w : World} (ho : objAt fz pm ρ n q.b w) (he : ρ0 m = ρ n) : objAt fz' pm' ρ0 m q.a w := by
 rcases h with ⟨t,l,h1,h2,h3,h4⟩ | ⟨cs,e,h1,h2,h3⟩
 ·rw [h4] at ho
  rw [h3]
  obtain ⟨g1,g2,g3,sub,g4,g5,g6,g7⟩ := ho
  rw [objAt,he]
  refine ⟨g1,g2,g3,sub,fun i v hv => ?_,fun j u' l' hj => ?_,fun e => absurd e (by decide),fun _ => g7 h1⟩
  ·obtain ⟨a,e1,e2,_⟩ := g4 i v hv
   exact ⟨a,e1,e2,fun e => absurd e (by decide)⟩
  ·obtain ⟨v,hv⟩ := flat_row h2 (List.mem_of_getElem? hj)
   cases hv
 ·rw [h3] at ho
  rw [h2]
  obtain ⟨b,b1,b2⟩ := ho
  exact ⟨b,by rw [he]; exact b1,by rw [raws_conc h1 ρ ρ0]; exact b2⟩
theorem WP2.at_ {q : WRec} (h : WP2 q) {fz pm fz' pm' : Nat → Prop} {ρ ρ0 : Env} {n m : Nat} {w : World} (ho : objAt fz pm ρ n q.c w) (he : ρ0 m = ρ n) : objAt fz' pm' ρ0 m q.d w := by
 rcases h with ⟨t,l,z,h1,h2,h3,h4,h5,h6⟩ | ⟨cs,zs,e,h1,h2,h3,h4⟩
 ·rw [h5] at ho
  rw [h6]
  obtain ⟨g1,g2,g3,sub,g4,g5,g6,g7⟩ := ho
  rw [objAt,he]
  refine ⟨g1,g2,g3,sub,fun i v hv => ?_,fun j u' l' hj => ?_,fun e => absurd e h1,fun _ => g7 (by decide)⟩
  ·obtain ⟨a,e1,e2,_⟩ := g4 i v hv
   exact ⟨a,e1,e2,fun e => absurd e h1⟩
  ·obtain ⟨v,hv⟩ := flat_row h2 (List.mem_of_getElem? hj)
   cases hv
 ·rw [h3] at ho
  rw [h4]
  obtain ⟨b,b1,b2⟩ := ho
  exact ⟨b,by rw [he]; exact b1,by rw [raws_conc h1 ρ ρ0]; exact b2⟩
theorem WP1.kind {q : WRec} (h : WP1 q) : (∀ S,q.a ≠ .hide S) ∧ (∀ Kn,q.a.ok Kn) := by
 rcases h with ⟨t,l,h1,h2,h3,h4⟩ | ⟨cs,e,h1,h2,h3⟩
 ·rw [h3]; exact ⟨fun S => by simp,fun _ => trivial⟩
 ·rw [h2]
  exact ⟨fun S => by simp,fun Kn c hc => by obtain ⟨v,rfl⟩ := h1 c hc; trivial⟩
theorem WP2.kind {q : WRec} (h : WP2 q) : (∀ S,q.d ≠ .hide S) ∧ (∀ Kn,q.d.ok Kn) ∧ live q.d = some q.d ∧ live q.c = some q.c := by
 rcases h with ⟨t,l,z,h1,h2,h3,h4,h5,h6⟩ | ⟨cs,zs,e,h1,h2,h3,h4⟩
 ·rw [h5,h6]; exact ⟨fun S => by simp,fun _ => trivial,rfl,rfl⟩
 ·rw [h3,h4]
  exact ⟨fun S => by simp,fun Kn c hc => by obtain ⟨v,rfl⟩ := h1 c hc; trivial,rfl,rfl⟩
def recsW : (p : WPar) → p.ty.T → p.out.T → Nat → List (Nat × Nat) → List WRec × List (Nat × Nat)
 | .val _,_,_,_,ws => ([],ws)
 | .row t,x,z,nm,ws => match ws with
  | (n,rk) :: r => ([⟨n,rk,nm,.row t x 1,.row t x rk,.row t z 1,.row t z rk⟩],r)
  | [] => ([],[])
 | .ptr t e,x,z,nm,ws => match ws with
  | (n,rk) :: r => ([⟨n,rk,nm,.cells (rawC t x) e,.cells (rawC t x) e,.cells (rawC t z) e,.cells (rawC t z) e⟩],r)
  | [] => ([],[])
 | .pair a b,x,z,nm,ws => match recsW a x.1 z.1 nm ws with
  | (R,ws') => match recsW b x.2 z.2 (nm + (encW nm a x.1).2.length) ws' with
   | (R',ws'') => (R ++ R',ws'')
def outW (hp : HP) : (p : WPar) → p.ty.T → Nat → Option (p.out.T × Bool)
 | .val _,_,_ => some (false,true)
 | .row t,x,nm => match hp nm with
  | some (.row u l rk) => if rk = 1 then (match castL u t l with
   | some l' => some (l',decide (l'.length = x.length))
   | none => none) else none
  | _ => none
 | .ptr t e,x,nm => match hp nm with
  | some (.cells cs e') => if e' = e ∧ t.flat = true then (match decT hp t cs with
   | some (y,[],_) => some (y,true)
   | _ => none) else none
  | _ => none
 | .pair a b,x,nm => match outW hp a x.1 nm with
  | some (y,f) => match outW hp b x.2 (nm + (encW nm a x.1).2.length) with
   | some (z,g) => some ((y,z),f && g)
   | none => none
  | none => none
def wnames : (p : WPar) → p.ty.T → Nat → List Nat
 | .val _,_,_ => []
 | .row _,_,nm => [nm]
 | .ptr _ _,_,nm => [nm]
 | .pair a b,x,nm => wnames a x.1 nm ++ wnames b x.2 (nm + (encW nm a x.1).2.length)
structure FnW where
 p : WPar
 r : Par
 pre : p.ty.T → Prop
 f : p.ty.T → r.ty.T × p.out.T
def wwr (R : List WRec) : List (Nat × AObj) := R.map fun r => (r.n,r.d)
def fnSpecW (s : FnW) : Spec := fun _ args hp nm k => match decW hp s.p args with
 | some (x,[],tc,ws,b) => if nodupL (ws.map (·.1)) && disN tc (ws.map (·.1)) then
   ob b (s.pre x ∧ ∀ y,y = s.f x → k { val := resV (encP 2 nm s.r y.1).1,fresh := (encP 2 nm s.r y.1).2,writes := wwr (recsW s.p x y.2 0 ws).1,touch := tc ++ ws.map (·.1) }) else False
 | _ => False
def argsW (p : WPar) (x : p.ty.T) : List AV := (encW 0 p x).1.map .v
def heapW (p : WPar) (x : p.ty.T) (ρ : Env) : List AObj := (encW 0 p x).2 ++ [.pin ρ (encW 0 p x).2.length]
def retW (r : Par) (p : WPar) (x : p.ty.T) (ρ : Env) (Q : r.ty.T × p.out.T → Prop) (v : AV) (st : AS) : Prop := match partsV v with
 | some l => match decR (liveAt st.heap) r l with
  | some (y,[],ss) => if nodupL (ss.filterMap srcB ++ wnames p x 0) then (match outW (liveAt st.heap) p x 0 with
   | some (z,f) => isPin (liveAt st.heap (encW 0 p x).2.length) ρ (encW 0 p x).2.length (ob f (Q (y,z)))
   | none => False) else False
  | _ => False
 | none => False

theorem recsW_m (p : WPar) : ∀ (x : p.ty.T) (z : p.out.T) (nm:Nat) (ws : List (Nat × Nat)),∀ r ∈ (recsW p x z nm ws).1,nm ≤ r.m ∧ r.m < nm + (encW nm p x).2.length ∧ (encW nm p x).2[r.m - nm]? = some r.a := by
 induction p with
 | val p => intro x z nm ws r h; simp [recsW] at h
 | row t =>
  intro x z nm ws r h
  simp only [recsW] at h
  split at h
  ·simp only [List.mem_singleton] at h; subst h; simp [encW]
  ·cases h
 | ptr t e =>
  intro x z nm ws r h
  simp only [recsW] at h
  split at h
  ·simp only [List.mem_singleton] at h; subst h; simp [encW]
  ·cases h
 | pair a b iha ihb =>
  intro x z nm ws r h
  simp only [recsW,List.mem_append] at h
  simp only [encW,List.length_append]
  rcases h with h | h
  ·obtain ⟨h1,h2,h3⟩ := iha _ _ _ _ r h
   exact ⟨h1,by omega,by rw [List.getElem?_append_left (by omega)]; exact h3⟩
  ·obtain ⟨h1,h2,h3⟩ := ihb _ _ _ _ r h
   exact ⟨by omega,by omega,by rw [List.getElem?_append_right (by omega),show r.m - nm - (encW nm a x.1).2.length = r.m - (nm + (encW nm a x.1).2.length) by omega]; exact h3⟩
theorem recsW_out {hp : HP} (p : WPar) : ∀ (x : p.ty.T) (z : p.out.T) (nm:Nat) (ws : List (Nat × Nat)),outW hp p x nm = some (z,true) → ∀ r ∈ (recsW p x z nm ws).1,hp r.m = some r.c ∧ WPc r := by
 induction p with
 | val p => intro x z nm ws _ r h; simp [recsW] at h
 | row t =>
  intro x z nm ws ho r h
  simp only [outW] at ho
  split at ho <;> try (cases ho; done)
  rename_i u l rk hl
  split at ho <;> try (cases ho; done)
  rename_i hrk
  split at ho <;> try (cases ho; done)
  rename_i l' hc
  simp only [Option.some.injEq,Prod.mk.injEq,decide_eq_true_eq] at ho
  obtain ⟨rfl,hlen⟩ := ho
  obtain ⟨e1,e2⟩ := castL_eq hc
  subst e1
  dsimp only at e2
  subst e2
  simp only [recsW] at h
  split at h
  ·simp only [List.mem_singleton] at h; subst h; exact ⟨by rw [hl,hrk],.inl ⟨_,_,_,hlen,rfl,rfl,rfl⟩⟩
  ·cases h
 | ptr t e =>
  intro x z nm ws ho r h
  simp only [outW] at ho
  split at ho <;> try (cases ho; done)
  rename_i cs e' hl
  split at ho <;> try (cases ho; done)
  rename_i hc
  split at ho <;> try (cases ho; done)
  rename_i y tc hd
  simp only [Option.some.injEq,Prod.mk.injEq,and_true] at ho
  subst ho
  have hcs := decT_cellsT t _ _ _ _ hc.2 hd
  rw [List.append_nil] at hcs
  simp only [recsW] at h
  split at h
  ·simp only [List.mem_singleton] at h; subst h
   exact ⟨by rw [hl,hcs,hc.1],.inr ⟨_,_,_,cellsT_raw,rfl,rfl,rfl⟩⟩
  ·cases h
 | pair a b iha ihb =>
  intro x z nm ws ho r h
  simp only [outW] at ho
  split at ho <;> try (cases ho; done)
  rename_i y f h1
  split at ho <;> try (cases ho; done)
  rename_i z' g h2
  simp only [Option.some.injEq,Prod.mk.injEq,Bool.and_eq_true] at ho
  obtain ⟨rfl,rfl,rfl⟩ := ho
  simp only [recsW,List.mem_append] at h
  rcases h with h | h
  ·exact iha _ _ _ _ h1 r h
  ·exact ihb _ _ _ _ h2 r h
theorem recsW_names (p : WPar) : ∀ (x : p.ty.T) (z : p.out.T) (nm:Nat) (ws : List (Nat × Nat)),(wnames p x nm).length ≤ ws.length → ((recsW p x z nm ws).1.map (·.m)) = wnames p x nm ∧ (recsW p x z nm ws).2 = ws.drop (wnames p x nm).length ∧ (recsW p x z nm ws).1.map (fun r => (r.n,r.rk)) = ws.take (wnames p x nm).length := by
 induction p with
 | val p => intro x z nm ws _; simp [recsW,wnames]
 | row t =>
  intro x z nm ws h
  cases ws with
  | nil => simp [wnames] at h
  | cons q r => simp [recsW,wnames]
 | ptr t e =>
  intro x z nm ws h
  cases ws with
  | nil => simp [wnames] at h
  | cons q r => simp [recsW,wnames]
 | pair a b iha ihb =>
  intro x z nm ws h
  simp only [wnames,List.length_append] at h
  obtain ⟨h1,h2,h3⟩ := iha x.1 z.1 nm ws (by omega)
  obtain ⟨h4,h5,h6⟩ := ihb x.2 z.2 (nm + (encW nm a x.1).2.length) (recsW a x.1 z.1 nm ws).2 (by rw [h2,List.length_drop]; omega)
  rw [h2] at h4 h5 h6
  refine ⟨?_,?_,?_⟩
  ·simp only [recsW,wnames,List.map_append,h2]
   rw [h1,h4]
  ·simp only [recsW,wnames,List.length_append,h2]
   rw [h5,List.drop_drop]
  ·simp only [recsW,wnames,List.map_append,List.length_append,h2]
   rw [h3,h6,List.take_add]
theorem decW_len {hp : HP} (p : WPar) : ∀ (args : List AV) (x : p.ty.T) (r : List AV) (tc : List Nat) (ws : List (Nat × Nat)) (b : Bool),decW hp p args = some (x,r,tc,ws,b) → ∀ nm,(wnames p x nm).length = ws.length := by
 induction p with
 | val p =>
  intro args x r tc ws b h nm
  simp only [decW] at h
  split at h
  ·cases h; rfl
  ·cases h
 | row t =>
  intro args x r tc ws b h nm
  simp only [decW] at h
  split at h <;> try (cases h; done)
  split at h <;> try (cases h; done)
  split at h <;> try (cases h; done)
  split at h <;> try (cases h; done)
  cases h; rfl
 | ptr t e =>
  intro args x r tc ws b h nm
  simp only [decW] at h
  split at h <;> try (cases h; done)
  split at h <;> try (cases h; done)
  split at h <;> try (cases h; done)
  split at h <;> try (cases h; done)
  cases h; rfl
 | pair a b' iha ihb =>
  intro args x r tc ws b h nm
  simp only [decW] at h
  split at h <;> try (cases h; done)
  rename_i h1
  split at h <;> try (cases h; done)
  rename_i h2
  cases h
  simp only [wnames,List.length_append,iha _ _ _ _ _ _ h1,ihb _ _ _ _ _ _ h2]
theorem decW_recs {hp : HP} (p : WPar) : ∀ (args : List AV) (x : p.ty.T) (r : List AV) (tc : List Nat) (ws : List (Nat × Nat)),decW hp p args = some (x,r,tc,ws,true) →
  ∀ (z : p.out.T) (nm:Nat) (ws2 : List (Nat × Nat)),∀ q ∈ (recsW p x z nm (ws ++ ws2)).1,hp q.n = some q.b ∧ WP1 q := by
 induction p with
 | val p => intro args x r tc ws h z nm ws2 q hq; simp [recsW] at hq
 | row t =>
  intro args x r tc ws h z nm ws2 q hq
  simp only [decW] at h
  split at h <;> try (cases h; done)
  rename_i n r'
  split at h <;> try (cases h; done)
  rename_i u l rk hl
  split at h <;> try (cases h; done)
  rename_i hc
  split at h <;> try (cases h; done)
  rename_i l' hcast
  cases h
  obtain ⟨e1,e2⟩ := castL_eq hcast
  subst e1
  dsimp only at e2
  subst e2
  simp only [List.cons_append,recsW,List.mem_singleton] at hq
  subst hq
  exact ⟨hl,.inl ⟨_,_,hc.1,hc.2,rfl,rfl⟩⟩
 | ptr t e =>
  intro args x r tc ws h z nm ws2 q hq
  simp only [decW] at h
  split at h <;> try (cases h; done)
  rename_i n r'
  split at h <;> try (cases h; done)
  rename_i cs e' hl
  split at h <;> try (cases h; done)
  rename_i hc
  split at h <;> try (cases h; done)
  rename_i y tc' hd
  cases h
  have hcs := decT_cellsT t _ _ _ _ hc.2 hd
  rw [List.append_nil] at hcs
  simp only [List.cons_append,recsW,List.mem_singleton] at hq
  subst hq
  exact ⟨by rw [hl,hcs,hc.1],.inr ⟨_,_,cellsT_raw,rfl,rfl⟩⟩
 | pair a b iha ihb =>
  intro args x r tc ws h z nm ws2 q hq
  simp only [decW] at h
  split at h <;> try (cases h; done)
  rename_i x1 r1 tc1 ws1 f1 h1
  split at h <;> try (cases h; done)
  rename_i y r2 tc2 ws3 f2 h2
  simp only [Option.some.injEq,Prod.mk.injEq,Bool.and_eq_true] at h
  obtain ⟨rfl,rfl,rfl,rfl,rfl,rfl⟩ := h
  rcases z with ⟨z1,z2⟩
  rw [List.append_assoc] at hq
  simp only [recsW,List.mem_append] at hq
  rcases hq with hq | hq
  ·exact iha _ _ _ _ _ h1 _ _ _ q hq
  ·have hn := recsW_names a x1 z1 nm (ws1 ++ (ws3 ++ ws2)) (by rw [decW_len a _ _ _ _ _ _ h1 nm,List.length_append]; omega)
   rw [hn.2.1,decW_len a _ _ _ _ _ _ h1 nm,List.drop_left] at hq
   exact ihb _ _ _ _ _ h2 _ _ _ q hq
theorem decW_spec {hp : HP} (p : WPar) : ∀ (args : List AV) (x : p.ty.T) (r : List AV) (tc : List Nat) (ws : List (Nat × Nat)),decW hp p args = some (x,r,tc,ws,true) →
  ∃ as,args = as ++ r ∧ ∀ bor W ρ Kn Γ w,(∀ m ∈ tc,Γ m = hp m) → St bor W ρ Kn Γ w → ∀ ok,OkFor ok ρ Γ w tc → ∀ (z : p.out.T) (nm:Nat) (ws2 : List (Nat × Nat)),∃ xs : List Loc,xs.length = (encW nm p x).2.length ∧
   (∀ i o,(encW nm p x).2[i]? = some o → ∃ y,xs[i]? = some y ∧ (goodRowO ok w o y ∨ ∃ q ∈ (recsW p x z nm (ws ++ ws2)).1,q.m = nm + i ∧ o = q.a ∧ y = ρ q.n)) ∧
   ∀ ρ1 : Env,(∀ i y,xs[i]? = some y → ρ1 (nm + i) = y) → as.map (AV.conc ρ) = (encW nm p x).1.map (A0.conc ρ1) := by
 induction p with
 | val p =>
  intro args x r tc ws h
  simp only [decW] at h
  split at h <;> try (cases h; done)
  rename_i hd
  cases h
  obtain ⟨as,e,hs⟩ := decP_specO p _ _ _ _ hd
  refine ⟨as,e,fun bor W ρ Kn Γ w ht hst ok hok z nm ws2 => ?_⟩
  obtain ⟨xs,h1,h2⟩ := hs bor W ρ Kn Γ w ht hst ok hok nm
  refine ⟨xs,h1.length.symm,fun i o ho => ?_,h2⟩
  obtain ⟨y,h3,h4⟩ := h1.get i o ho
  exact ⟨y,h3,.inl h4⟩
 | row t =>
  intro args x r tc ws h
  simp only [decW] at h
  split at h <;> try (cases h; done)
  rename_i n r'
  split at h <;> try (cases h; done)
  rename_i u l rk hl
  split at h <;> try (cases h; done)
  rename_i hc
  split at h <;> try (cases h; done)
  rename_i l' hcast
  cases h
  refine ⟨[_],rfl,fun bor W ρ Kn Γ w ht hst ok hok z nm ws2 => ⟨[ρ n],rfl,fun i o ho => ?_,fun ρ1 hr => ?_⟩⟩
  ·match i,ho with
   | 0,ho =>
    simp only [encW,List.getElem?_cons_zero,Option.some.injEq] at ho
    exact ⟨_,rfl,.inr ⟨_,List.mem_singleton.2 rfl,rfl,ho.symm,rfl⟩⟩
   | i + 1,ho => simp [encW] at ho
  ·have h0 := hr 0 _ rfl
   rw [Nat.add_zero] at h0
   simp only [encW,List.map_cons,List.map_nil,AV.conc,A0.conc,Cell.conc,h0]
 | ptr t e =>
  intro args x r tc ws h
  simp only [decW] at h
  split at h <;> try (cases h; done)
  rename_i n r'
  split at h <;> try (cases h; done)
  rename_i cs e' hl
  split at h <;> try (cases h; done)
  rename_i hc
  split at h <;> try (cases h; done)
  rename_i y tc' hd
  cases h
  refine ⟨[_],rfl,fun bor W ρ Kn Γ w ht hst ok hok z nm ws2 => ⟨[ρ n],rfl,fun i o ho => ?_,fun ρ1 hr => ?_⟩⟩
  ·match i,ho with
   | 0,ho =>
    simp only [encW,List.getElem?_cons_zero,Option.some.injEq] at ho
    exact ⟨_,rfl,.inr ⟨_,List.mem_singleton.2 rfl,rfl,ho.symm,rfl⟩⟩
   | i + 1,ho => simp [encW] at ho
  ·have h0 := hr 0 _ rfl
   rw [Nat.add_zero] at h0
   simp only [encW,List.map_cons,List.map_nil,AV.conc,A0.conc,Cell.conc,addrOf,h0]
 | pair a b iha ihb =>
  intro args x r tc ws h
  simp only [decW] at h
  split at h <;> try (cases h; done)
  rename_i x1 r1 tc1 ws1 f1 h1
  split at h <;> try (cases h; done)
  rename_i y r2 tc2 ws3 f2 h2
  simp only [Option.some.injEq,Prod.mk.injEq,Bool.and_eq_true] at h
  obtain ⟨rfl,rfl,rfl,rfl,rfl,rfl⟩ := h
  obtain ⟨as,e1,k1⟩ := iha _ _ _ _ _ h1
  obtain ⟨bs,e2,k2⟩ := ihb _ _ _ _ _ h2
  refine ⟨as ++ bs,by rw [e1,e2]; simp,fun bor W ρ Kn Γ w ht hst ok hok z nm ws2 => ?_⟩
  rcases z with ⟨z1,z2⟩
  obtain ⟨xs,l1,g1,c1⟩ := k1 bor W ρ Kn Γ w (fun m hm => ht m (by simp [hm])) hst ok (hok.sub fun m hm => by simp [hm]) z1 nm (ws3 ++ ws2)
  obtain ⟨ys,l2,g2,c2⟩ := k2 bor W ρ Kn Γ w (fun m hm => ht m (by simp [hm])) hst ok (hok.sub fun m hm => by simp [hm]) z2 (nm + (encW nm a x1).2.length) ws2
  have hn := recsW_names a x1 z1 nm (ws1 ++ (ws3 ++ ws2)) (by rw [decW_len a _ _ _ _ _ _ h1 nm,List.length_append]; omega)
  have hdr : (recsW a x1 z1 nm (ws1 ++ (ws3 ++ ws2))).2 = ws3 ++ ws2 := by rw [hn.2.1,decW_len a _ _ _ _ _ _ h1 nm,List.drop_left]
  refine ⟨xs ++ ys,by simp only [encW,List.length_append,l1,l2],fun i o ho => ?_,fun ρ1 hr => ?_⟩
  ·simp only [encW] at ho
   rw [List.append_assoc]
   simp only [recsW,hdr]
   rcases Nat.lt_or_ge i (encW nm a x1).2.length with hlt | hge
   ·rw [List.getElem?_append_left hlt] at ho
    obtain ⟨y,h3,h4⟩ := g1 i o ho
    refine ⟨y,by rw [List.getElem?_append_left (by omega)]; exact h3,h4.imp_right fun ⟨q,q1,q2⟩ => ⟨q,List.mem_append.2 (.inl q1),q2⟩⟩
   ·rw [List.getElem?_append_right hge] at ho
    obtain ⟨y,h3,h4⟩ := g2 _ o ho
    refine ⟨y,by rw [List.getElem?_append_right (by omega),l1]; exact h3,h4.imp_right fun ⟨q,q1,q2,q3⟩ => ⟨q,List.mem_append.2 (.inr q1),by omega,q3⟩⟩
  ·simp only [encW,List.map_append]
   rw [c1 ρ1 fun i y hi => hr i y (by rw [List.getElem?_append_left (List.getElem?_eq_some_iff.1 hi).1]; exact hi),c2 ρ1 fun i y hi => by
    have := hr (xs.length + i) y (by rw [List.getElem?_append_right (by omega)]; simpa using hi)
    rwa [l1,← Nat.add_assoc] at this]

theorem encW_ok (p : WPar) : ∀ (x : p.ty.T) (nm:Nat),∀ c ∈ (encW nm p x).1,c.ok fun m => nm ≤ m ∧ m < nm + (encW nm p x).2.length := by
 induction p with
 | val p => intro x nm c h; exact encP_ok 0 p x nm c h
 | row t =>
  intro x nm c h
  simp only [encW,List.mem_singleton] at h
  subst h
  simp only [encW,A0.ok,Cell.ok,List.length_singleton]; omega
 | ptr t e =>
  intro x nm c h
  simp only [encW,List.mem_singleton] at h
  subst h
  simp only [encW,A0.ok,Cell.ok,List.length_singleton]; omega
 | pair a b iha ihb =>
  intro x nm c h
  simp only [encW,List.mem_append,List.length_append] at h ⊢
  rcases h with h | h
  ·exact A0.ok_mono (fun m hm => by omega) c (iha _ _ c h)
  ·exact A0.ok_mono (fun m hm => by omega) c (ihb _ _ c h)

theorem St.beginW {bor : Bor} {W : World} {ρ : Env} {Kn : Nat → Prop} {Γ : HP} {w : World} (h : St bor W ρ Kn Γ w) {os : List AObj} {xs : List Loc} {R : List WRec} (hl : xs.length = os.length)
  (hR : ∀ q ∈ R,Γ q.n = some q.b ∧ WP1 q)
  (hn : ∀ q ∈ R,∀ q' ∈ R,q.n = q'.n → q.m = q'.m)
  (hx : ∀ i o,os[i]? = some o → ∃ y,xs[i]? = some y ∧ (goodRowO (fun b => cellsB w b ∧ ∀ q ∈ R,(ρ q.n).blk ≠ some b) w o y ∨ ∃ q ∈ R,q.m = i ∧ o = q.a ∧ y = ρ q.n)) :
  St { wr := fun b => ∃ q ∈ R,(ρ q.n).blk = some b } w (fun n => xs.getD n {}) (· < (os ++ [AObj.pin (fun n => xs.getD n {}) os.length]).length) (liveAt (os ++ [AObj.pin (fun n => xs.getD n {}) os.length])) w := by
 obtain ⟨ρ0,hρ0⟩ : ∃ ρ0 : Env,ρ0 = fun n => xs.getD n {} := ⟨_,rfl⟩
 rw [← hρ0]
 have hget : ∀ i y,xs[i]? = some y → ρ0 i = y := fun i y hy => by rw [hρ0]; simp [hy]
 have hpin : (ρ0 os.length).blk = Option.none := by rw [hρ0]; simp [List.getElem?_eq_none (show xs.length ≤ os.length by omega)]
 have hcase : ∀ n o,liveAt (os ++ [AObj.pin ρ0 os.length]) n = some o → (n < os.length ∧ (goodRowO (fun b => cellsB w b ∧ ∀ q ∈ R,(ρ q.n).blk ≠ some b) w o (ρ0 n) ∨ ∃ q ∈ R,q.m = n ∧ o = q.a ∧ ρ0 n = ρ q.n)) ∨ (n = os.length ∧ o = .pin ρ0 os.length) := fun n o ho => by
  have h1 := liveAt_some ho
  rcases Nat.lt_or_ge n os.length with h2 | h2
  ·rw [List.getElem?_append_left h2] at h1
   obtain ⟨y,h3,h4⟩ := hx n o h1
   rw [hget n y h3]
   exact .inl ⟨h2,h4⟩
  ·rw [List.getElem?_append_right h2] at h1
   have : n - os.length = 0 := by
    rcases Nat.eq_zero_or_pos (n - os.length) with h3 | h3
    ·exact h3
    ·rw [List.getElem?_eq_none (by simp; omega)] at h1; cases h1
   rw [this] at h1
   simp only [List.getElem?_cons_zero,Option.some.injEq] at h1
   exact .inr ⟨by omega,h1.symm⟩
 have hblk : ∀ n b,(liveAt (os ++ [AObj.pin ρ0 os.length]) n).isSome = true → (ρ0 n).blk = some b → ∃ q ∈ R,q.m = n ∧ ρ0 n = ρ q.n ∧ (ρ q.n).blk = some b := fun n b hn' hb => by
  obtain ⟨o,ho⟩ := Option.isSome_iff_exists.1 hn'
  rcases hcase n o ho with ⟨_,h1 | ⟨q,h1,h2,_,h3⟩⟩ | ⟨rfl,_⟩
  ·obtain ⟨u,l,rfl⟩ := goodRowO_row h1
   rw [h1.2.1] at hb; cases hb
  ·exact ⟨q,h1,h2,h3,by rw [← h3]; exact hb⟩
  ·rw [hpin] at hb; cases hb
 have hnoHI : ∀ b,¬ HI (liveAt (os ++ [AObj.pin ρ0 os.length])) b := fun b ⟨m,S,h1,_⟩ => by
  rcases hcase m _ h1 with ⟨_,h2 | ⟨q,hq,_,e,_⟩⟩ | ⟨_,e⟩
  ·obtain ⟨u,l,e⟩ := goodRowO_row h2; cases e
  ·exact (hR q hq).2.kind.1 S e.symm
  ·cases e
 have hfz : ∀ b,(cellsB w b ∧ ∀ q ∈ R,(ρ q.n).blk ≠ some b) → fzB ρ0 (liveAt (os ++ [AObj.pin ρ0 os.length])) w b := fun b hb => ⟨hb.1,by
  rintro (⟨m,h1,h2⟩ | h1)
  ·obtain ⟨q,h3,_,_,h4⟩ := hblk m b h1 h2
   exact hb.2 q h3 h4
  ·exact hnoHI b h1⟩
 refine ⟨Fr.refl _ _,fun n o ho => ?_,fun n o ho => ?_,fun n m b hn1 hm1 hb1 hb2 => ?_,fun n b hn1 hb1 => ?_,fun b hb => absurd hb (hnoHI b)⟩
 ·rcases hcase n o ho with ⟨_,h1 | ⟨q,h1,h2,h3,h4⟩⟩ | ⟨rfl,rfl⟩
  ·obtain ⟨u,l,rfl⟩ := goodRowO_row h1
   obtain ⟨_,g1,g2,g3,g4,vals,g5,g6⟩ := h1
   obtain ⟨e1,e2⟩ := subOf_vals g5
   refine ⟨g2,g3,g4,subOf vals,fun i v hv => ?_,fun q u' l' hq => ?_,fun _ => g1,fun h => absurd rfl h⟩
   ·rw [e1] at hv
    obtain ⟨a,k1,k2,k3⟩ := g6 i v hv
    exact ⟨a,k1,k2,fun _ => hfz _ k3⟩
   ·exact (e2 q u' l' hq).weak fun b hb => ⟨hfz b hb,fun h => by cases h⟩
  ·subst h3
   obtain ⟨k1,k2⟩ := hR q h1
   exact k2.at_ (h.at_ _ _ k1) h4
  ·exact ⟨hpin,fun m _ => rfl⟩
 ·rcases hcase n o ho with ⟨h0,h1 | ⟨q,h1,h2,h3,h4⟩⟩ | ⟨rfl,rfl⟩
  ·obtain ⟨u,l,rfl⟩ := goodRowO_row h1
   exact ⟨by simp; omega,trivial⟩
  ·subst h3
   exact ⟨by simp; omega,(hR q h1).2.kind.2 _⟩
  ·exact ⟨by simp,fun m hm => by simp; omega⟩
 ·obtain ⟨q,q1,q2,_,q3⟩ := hblk n b hn1 hb1
  obtain ⟨q',q1',q2',_,q3'⟩ := hblk m b hm1 hb2
  have := h.inj q.n q'.n b (by rw [(hR q q1).1]; rfl) (by rw [(hR q' q1').1]; rfl) q3 q3'
  rw [← q2,← q2']
  exact hn q q1 q' q1' this
 ·obtain ⟨q,q1,_,_,q3⟩ := hblk n b hn1 hb1
  exact .inr ⟨q,q1,q3⟩

theorem lastW_wwr {R : List WRec} {m : Nat} {o : AObj} (h : lastW (wwr R) m = some o) : ∃ q ∈ R,q.n = m ∧ o = q.d := by
 induction R with
 | nil => cases h
 | cons q r ih =>
  simp only [wwr,List.map_cons,lastW] at h
  split at h
  ·rename_i p hp
   cases h
   obtain ⟨q',h1,h2⟩ := ih hp
   exact ⟨q',by simp [h1],h2⟩
  ·split at h
   ·rename_i e; cases h; exact ⟨q,by simp,e,rfl⟩
   ·cases h
theorem lastW_mem {R : List WRec} {q : WRec} (h : q ∈ R) : ∃ o,lastW (wwr R) q.n = some o := by
 induction R with
 | nil => cases h
 | cons p r ih =>
  simp only [wwr,List.map_cons,lastW]
  rcases List.mem_cons.1 h with rfl | h
  ·cases e : lastW (List.map (fun r => (r.n,r.d)) r) q.n with
   | some o => exact ⟨o,rfl⟩
   | none => exact ⟨q.d,by simp⟩
  ·obtain ⟨o,ho⟩ := ih h
   have ho : lastW (List.map (fun r => (r.n,r.d)) r) q.n = some o := ho
   rw [ho]; exact ⟨o,rfl⟩
theorem St.growW {bor : Bor} {W : World} {ρ ρ1 : Env} {Kn : Nat → Prop} {Γ : HP} {w w' : World} {nm : Nat} {os : List AObj} {v : AV} {tc : List Nat} {R : List WRec} (h : St bor W ρ Kn Γ w) (hn : ∀ i,i < os.length → ¬ Kn (nm + i)) (hrow : ∀ o ∈ os,∃ u,∃ l : List u.T,o = .row u l 2)
  (hR : ∀ q ∈ R,Γ q.n = some q.b ∧ WP2 q)
  (h1 : St { wr := fun b => ∃ q ∈ R,(ρ q.n).blk = some b } w ρ1 (· < (os ++ R.map WRec.c).length) (liveAt (os ++ R.map WRec.c)) w')
  (h2 : ∀ (i:Nat) (q : WRec),R[i]? = some q → ρ1 (os.length + i) = ρ q.n) :
  ∃ ρ',(∀ m,Kn m → ρ' m = ρ m) ∧ (∀ n,n < os.length → ρ' (n + nm) = ρ1 n) ∧ St bor W ρ' (knR Kn nm { val := v,fresh := os,writes := wwr R,touch := tc }) (appH { val := v,fresh := os,writes := wwr R,touch := tc } nm Γ) w' := by
 let ρ' : Env := fun m => if nm ≤ m ∧ m < nm + os.length then ρ1 (m - nm) else ρ m
 have hold : ∀ m,Kn m → ρ' m = ρ m := fun m hm => by
  simp only [ρ']
  rw [if_neg]
  rintro ⟨h2,h3⟩
  exact hn (m - nm) (by omega) (by rw [show nm + (m - nm) = m by omega]; exact hm)
 have hnew : ∀ n,n < os.length → ρ' (n + nm) = ρ1 n := fun n hn => by
  simp only [ρ']
  rw [if_pos (by omega),show n + nm - nm = n by omega]
 have hosl : ∀ n,n < os.length → liveAt (os ++ R.map WRec.c) n = liveAt os n := fun n hn => by
  unfold liveAt; rw [List.getElem?_append_left hn]
 have hRl : ∀ q ∈ R,∃ i,R[i]? = some q ∧ liveAt (os ++ R.map WRec.c) (os.length + i) = some q.c := fun q hq => by
  obtain ⟨i,hi⟩ := List.mem_iff_getElem?.1 hq
  refine ⟨i,hi,?_⟩
  unfold liveAt
  rw [List.getElem?_append_right (by omega),Nat.add_sub_cancel_left,List.getElem?_map,hi]; exact (hR q hq).2.kind.2.2.2
 have hkn : ∀ q ∈ R,Kn q.n := fun q hq => (h.kn q.n _ (hR q hq).1).1
 obtain ⟨r,hr⟩ : ∃ r : Rec,r = { val := v,fresh := os,writes := wwr R,touch := tc } := ⟨_,rfl⟩
 rw [← hr]
 have hΓ : ∀ m o,appH r nm Γ m = some o → (∃ n,m = n + nm ∧ n < os.length ∧ liveAt os n = some o ∧ ∃ u,∃ l : List u.T,o = .row u l 2) ∨ (∃ q ∈ R,m = q.n ∧ o = q.d) ∨ (Γ m = some o ∧ Kn m ∧ ∀ q ∈ R,q.n ≠ m) := by
  intro m o ho
  rw [hr] at ho
  simp only [appH] at ho
  split at ho
  ·rename_i hc
   have hlt : m - nm < os.length := by omega
   refine .inl ⟨m - nm,by omega,hlt,by rw [live_liveAt]; exact ho,?_⟩
   rw [List.getElem?_eq_getElem hlt] at ho
   obtain ⟨u,l,e⟩ := hrow _ (List.getElem_mem hlt)
   rw [e] at ho
   simp only [live,Option.some.injEq] at ho
   exact ⟨u,l,ho.symm⟩
  ·split at ho
   ·rename_i p hp
    obtain ⟨q,q1,q2,rfl⟩ := lastW_wwr hp
    rw [(hR q q1).2.kind.2.2.1,Option.some.injEq] at ho
    exact .inr (.inl ⟨q,q1,q2.symm,ho.symm⟩)
   ·rename_i hp
    refine .inr (.inr ⟨ho,(h.kn m o ho).1,fun q hq e => ?_⟩)
    obtain ⟨p,hp'⟩ := lastW_mem hq
    rw [e,hp] at hp'; cases hp'
 have hsome : ∀ m,(∃ n,m = n + nm ∧ n < os.length) ∨ ((appH r nm Γ m).isSome = true → (Γ m).isSome = true ∧ Kn m) := fun m => by
  rcases Decidable.em (nm ≤ m ∧ m < nm + os.length) with hc | hc
  ·exact .inl ⟨m - nm,by omega,by omega⟩
  ·refine .inr fun hs => ?_
   obtain ⟨o,ho⟩ := Option.isSome_iff_exists.1 hs
   rcases hΓ m o ho with ⟨n,e,hlt,_⟩ | ⟨q,q1,rfl,_⟩ | ⟨g,k,_⟩
   ·exact absurd ⟨by omega,by omega⟩ hc
   ·exact ⟨by rw [(hR q q1).1]; rfl,hkn q q1⟩
   ·exact ⟨by rw [g]; rfl,k⟩
 have hf1 : ∀ b,b < w.heap.size → (∀ q ∈ R,(ρ q.n).blk ≠ some b) → w'.heap[b]? = w.heap[b]? := fun b hb hq => h1.fr.block b hb fun ⟨q,q1,q2⟩ => hq q q1 q2
 have hnb : ∀ n b,n < os.length → (liveAt os n).isSome = true → (ρ1 n).blk = some b → w.heap.size ≤ b := fun n b hlt hs hb => by
  rcases h1.own n b (by rw [hosl n hlt]; exact hs) hb with h3 | ⟨q,q1,q2⟩
  ·exact h3
  ·exfalso
   obtain ⟨i,hi,hlv⟩ := hRl q q1
   have := h1.inj n (os.length + i) b (by rw [hosl n hlt]; exact hs) (by rw [hlv]; rfl) hb (by rw [h2 i q hi]; exact q2)
   omega
 have hob : ∀ m o b,Γ m = some o → (ρ m).blk = some b → b < w.heap.size := fun m o b ho hb => objAt_lt (h.at_ m o ho) hb
 have hLOb : ∀ b,LOb ρ' (appH r nm Γ) b → (w.heap.size ≤ b ∧ ∃ n,n < os.length ∧ (liveAt os n).isSome = true ∧ (ρ1 n).blk = some b) ∨ (b < w.heap.size ∧ LOb ρ Γ b) := by
  rintro b ⟨m,h3,h4⟩
  obtain ⟨o,ho⟩ := Option.isSome_iff_exists.1 h3
  rcases hΓ m o ho with ⟨n,rfl,hn1,hp,_⟩ | ⟨q,q1,rfl,_⟩ | ⟨hg,hk,_⟩
  ·rw [hnew n hn1] at h4
   exact .inl ⟨hnb n b hn1 (by rw [hp]; rfl) h4,n,hn1,by rw [hp]; rfl,h4⟩
  ·rw [hold _ (hkn q q1)] at h4
   exact .inr ⟨hob _ _ b (hR q q1).1 h4,q.n,by rw [(hR q q1).1]; rfl,h4⟩
  ·rw [hold m hk] at h4
   exact .inr ⟨hob m o b hg h4,m,by rw [hg]; rfl,h4⟩
 have hHI : ∀ b,HI (appH r nm Γ) b → HI Γ b := fun b ⟨m,S,h3,h4⟩ => by
  rcases hΓ m _ h3 with ⟨n,_,_,_,u,l,e⟩ | ⟨q,hq,_,e⟩ | ⟨hg,hk,_⟩
  ·cases e
  ·exact absurd e.symm ((hR q hq).2.kind.1 S)
  ·exact ⟨m,S,hg,h4⟩
 have hnw : ∀ b,fzB ρ Γ w b → ∀ q ∈ R,(ρ q.n).blk ≠ some b := fun b hb q hq e => hb.2 (.inl ⟨q.n,by rw [(hR q hq).1]; rfl,e⟩)
 have hsz := h.fr.size
 have hsz1 := h1.fr.size
 have hfz : ∀ b,fzB ρ Γ w b → fzB ρ' (appH r nm Γ) w' b ∧ w'.heap[b]? = w.heap[b]? := fun b hb => by
  have hlt := hb.1.lt
  have e := hf1 b hlt (hnw b hb)
  refine ⟨⟨hb.1.same e,?_⟩,e⟩
  rintro (hl | hl)
  ·rcases hLOb b hl with ⟨h3,_⟩ | ⟨_,h3⟩
   ·omega
   ·exact hb.2 (.inl h3)
  ·exact hb.2 (.inr (hHI b hl))
 have hfz1 : ∀ b,fzB ρ1 (liveAt (os ++ R.map WRec.c)) w' b → pmB { wr := fun b => ∃ q ∈ R,(ρ q.n).blk = some b } w b → fzB ρ' (appH r nm Γ) w' b ∧ pmB bor W b := fun b hb hp => by
  have hge : w.heap.size ≤ b := by
   rcases hp with h3 | ⟨q,q1,q2⟩ | h3
   ·exact h3
   ·exfalso
    obtain ⟨i,hi,hlv⟩ := hRl q q1
    exact hb.2 (.inl ⟨os.length + i,by rw [hlv]; rfl,by rw [h2 i q hi]; exact q2⟩)
   ·exact h3.elim
  refine ⟨⟨hb.1,?_⟩,.inl (by omega)⟩
  rintro (hl | hl)
  ·rcases hLOb b hl with ⟨_,n,n1,n2,n3⟩ | ⟨h3,_⟩
   ·exact hb.2 (.inl ⟨n,by rw [hosl n n1]; exact n2,n3⟩)
   ·omega
  ·have := (h.hid b (hHI b hl)).1
   omega
 have hkn1 : ∀ m : Nat,m < os.length → knR Kn nm r (m + nm) := fun m hm => .inr (by rw [hr]; simp only []; omega)
 have hbor : ∀ q ∈ R,∀ b,(ρ q.n).blk = some b → W.heap.size ≤ b ∨ bor b := fun q hq b hb => h.own q.n b (by rw [(hR q hq).1]; rfl) hb
 refine ⟨ρ',hold,hnew,⟨?_,fun m o ho => ?_,fun m o ho => ?_,fun m m' b hm hm' hb1 hb2 => ?_,fun m b hm hb => ?_,fun b hh => ?_⟩⟩
 rotate_right
 ·obtain ⟨h3,h4⟩ := h.hid b (hHI b hh)
  refine ⟨by omega,fun h5 => ?_⟩
  rcases hLOb b h5 with ⟨h6,_⟩ | ⟨_,h6⟩
  ·omega
  ·exact h4 h6
 ·refine ⟨h1.fr.os.trans h.fr.os,h1.fr.tape.trans h.fr.tape,h1.fr.output.trans h.fr.output,Nat.le_trans hsz hsz1,fun k hk hnb' => ?_⟩
  rw [h1.fr.block k (by omega) fun ⟨q,q1,q2⟩ => ?_]
  ·exact h.fr.block k hk hnb'
  ·rcases hbor q q1 k q2 with h3 | h3
   ·omega
   ·exact hnb' h3
 ·rcases hΓ m o ho with ⟨n,rfl,hn1,hp,u,l,rfl⟩ | ⟨q,q1,rfl,rfl⟩ | ⟨hg,hk,hne⟩
  ·obtain ⟨g1,g2,g3,sub,g4,g5,g6,g7⟩ := h1.at_ n _ (by rw [hosl n hn1]; exact hp)
   rw [objAt,hnew n hn1]
   exact ⟨g1,g2,g3,sub,fun i x hi => by
    obtain ⟨a,e1,e2,_⟩ := g4 i x hi
    exact ⟨a,e1,e2,fun h => by cases h⟩,fun q u' l' hq => (g5 q u' l' hq).weak fun b hb => by
     obtain ⟨e1,e2⟩ := hfz1 b hb.1 (hb.2 rfl)
     exact ⟨e1,fun _ => e2⟩,g6,g7⟩
  ·obtain ⟨i,hi,hlv⟩ := hRl q q1
   exact (hR q q1).2.at_ (h1.at_ _ _ hlv) (by rw [hold _ (hkn q q1),h2 i q hi])
  ·refine objAt_keep (Kn := Kn) (h.at_ m o hg) hold hk (h.kn m o hg).2 hfz (fun _ _ h => h) fun b hb => hf1 b (hob m o b hg hb) fun q hq e => ?_
   exact hne q hq (h.inj q.n m b (by rw [(hR q hq).1]; rfl) (by rw [hg]; rfl) e hb)
 ·rcases hΓ m o ho with ⟨n,rfl,hn1,hp,u,l,rfl⟩ | ⟨q,q1,rfl,rfl⟩ | ⟨hg,hk,_⟩
  ·exact ⟨hkn1 n hn1,trivial⟩
  ·exact ⟨.inl (hkn q q1),(hR q q1).2.kind.2.1 _⟩
  ·exact ⟨.inl hk,AObj.ok_mono (fun _ => .inl) o (h.kn m o hg).2⟩
 ·have hcl : ∀ m b,(appH r nm Γ m).isSome = true → (ρ' m).blk = some b → (∃ n,m = n + nm ∧ n < os.length ∧ (liveAt os n).isSome = true ∧ (ρ1 n).blk = some b ∧ w.heap.size ≤ b) ∨ ((Γ m).isSome = true ∧ (ρ m).blk = some b ∧ b < w.heap.size) := fun m b hm hb => by
   obtain ⟨o,ho⟩ := Option.isSome_iff_exists.1 hm
   rcases hΓ m o ho with ⟨n,rfl,hn1,hp,_⟩ | ⟨q,q1,rfl,_⟩ | ⟨hg,hk,_⟩
   ·rw [hnew n hn1] at hb
    exact .inl ⟨n,rfl,hn1,by rw [hp]; rfl,hb,hnb n b hn1 (by rw [hp]; rfl) hb⟩
   ·rw [hold _ (hkn q q1)] at hb
    exact .inr ⟨by rw [(hR q q1).1]; rfl,hb,hob _ _ b (hR q q1).1 hb⟩
   ·rw [hold m hk] at hb
    exact .inr ⟨by rw [hg]; rfl,hb,hob m o b hg hb⟩
  rcases hcl m b hm hb1 with ⟨n,rfl,n1,n2,n3,n4⟩ | ⟨n1,n2,n3⟩
  ·rcases hcl m' b hm' hb2 with ⟨n',rfl,n1',n2',n3',n4'⟩ | ⟨n1',n2',n3'⟩
   ·rw [h1.inj n n' b (by rw [hosl n n1]; exact n2) (by rw [hosl n' n1']; exact n2') n3 n3']
   ·omega
  ·rcases hcl m' b hm' hb2 with ⟨n',rfl,n1',n2',n3',n4'⟩ | ⟨n1',n2',n3'⟩
   ·omega
   ·exact h.inj m m' b n1 n1' n2 n2'
 ·obtain ⟨o,ho⟩ := Option.isSome_iff_exists.1 hm
  rcases hΓ m o ho with ⟨n,rfl,hn1,hp,_⟩ | ⟨q,q1,rfl,_⟩ | ⟨hg,hk,_⟩
  ·rw [hnew n hn1] at hb
   have := hnb n b hn1 (by rw [hp]; rfl) hb
   exact .inl (by omega)
  ·rw [hold _ (hkn q q1)] at hb
   exact hbor q q1 b hb
  ·rw [hold m hk] at hb
   exact h.own m b (by rw [hg]; rfl) hb
end Go.Ev
