/- Functions, out of the condition 'fnE'. -/
import Derived.Test.YtleemdeodmdnkaaEvH
noncomputable section
set_option linter.unusedSectionVars false
set_option linter.unusedVariables false
set_option linter.unusedSimpArgs false
namespace Go.Ev
open Go.RowKit

section
variable {P : Program} {ctx : Ctx} {bor : Bor} {W : World} {df : List Deferred}

theorem unroll_ok (hT : TOk P ctx.tt) (hC : CtxOk P ctx) (hm : P.follows .mixedOrders = true) {ro : Option Nat} {n : Nat} (c : Code) (hX : XOk bor W ctx.X) (hro' : ro = none ∨ noRF c = true) (hlp : LpOk P ctx c) (N:Nat) (st : AS) (K : Exit → AS → Prop) (h : unroll ctx c N st K) :
  ∀ ρ a w,AtM bor W st ρ a w → (Code.loop c).wpIn (fw ro) n P (Post bor W K) a w := by
 intro ρ a w hat b k cs hro hb hroom
 have key : ∀ N st ρ a w,unroll ctx c N st K → AtM bor W st ρ a w → ∃ e a' w',Post bor W K e a' w' ∧ ArrivesIn (Machine.fenced P (fw ro)) P (lone (b.atR a (.code c :: .inLoop c :: k)) cs w) b k cs e a' w' := by
  intro N
  induction N with
  | zero => intro st ρ a w h; exact h.elim
  | succ N ih =>
   intro st ρ a w h hat
   obtain ⟨e,a1,w1,⟨st1,ρ1,hk,hat1⟩,harr⟩ := codeE_sound hT hC hm c hlp bor W ro n hX hro' st _ h ρ a w hat b (.inLoop c :: k) cs hro hb hroom
   cases e with
   | normal =>
    obtain ⟨e2,a2,w2,hq2,harr2⟩ := ih st1 ρ1 a1 w1 hk hat1
    exact ⟨e2,a2,w2,hq2,.of_steps (StepsIn.trans harr (.one (fenced_calm hb hroom rfl) stepR_inLoop)) harr2⟩
   | exit id => exact ⟨_,a1,w1,⟨st1,ρ1,hk,hat1⟩,.pass (x := .inLoop c) rfl (fun _ _ => .inl (by simp)) harr⟩
   | goto l => exact ⟨_,a1,w1,⟨st1,ρ1,hk,hat1⟩,.pass (x := .inLoop c) rfl (fun _ _ => .inl (by simp)) harr⟩
   | ret => exact ⟨_,a1,w1,⟨st1,ρ1,hk,hat1⟩,.pass (x := .inLoop c) rfl (fun _ _ => .inl (by simp)) harr⟩
   | panic ch => exact ⟨_,a1,w1,⟨st1,ρ1,hk,hat1⟩,.pass (x := .inLoop c) rfl (fun _ _ => .inl (by simp)) harr⟩
   | outgrown => exact ⟨_,a1,w1,⟨st1,ρ1,hk,hat1⟩,.pass (x := .inLoop c) rfl (fun _ _ => .inl (by simp)) harr⟩
 obtain ⟨e,a',w',hq,harr⟩ := key N st ρ a w h hat
 exact ⟨e,a',w',hq,.of_steps (.one (fenced_calm hb hroom rfl) stepR_loop) harr⟩

def readRes (tmps : Array Value) : ResultVar → Sem Value
 | .tmp t => pure (tmps.getD t undef)
 | .cell a t => do loadVar t (← asAddr (tmps.getD a undef))

theorem resOne_spec (hT : TOk P ctx.tt) {st : AS} {ρ : Env} {a : Act} {w : World} (hat : AtS bor W df st ρ a w) {q : ResultVar} {v : A0} (h : resOne ctx st q = some v) :
  (readRes a.tmps q).run P w = .ok (v.conc ρ) w ∧ v.ok (· < st.heap.length) := by
 cases q with
 | tmp t =>
  simp only [resOne] at h
  split at h
  ·rename_i x hx
   cases h
   have h1 := hat.tmps t (by rw [hx]; simp)
   have h2 := hat.kn t
   rw [hx] at h1 h2
   exact ⟨by simp only [readRes,Sem.run_pure]; rw [h1]; rfl,h2⟩
  ·cases h
 | cell t ty =>
  simp only [resOne] at h
  split at h
  ·rename_i n off i hx hi
   split at h
   ·rename_i cs e he
    have h1 := hat.tmps t (by rw [hx]; simp)
    rw [hx] at h1
    obtain ⟨b,hb,hh⟩ := hat.st.at_ n _ he
    rw [ptr_conc hb] at h1
    have hok := (hat.st.kn n _ he).2
    have hld := run_loadVar_at (P := P) (rest := []) (off := off) hT hi (by simpa using hh)
    split at h
    ·rename_i ha
     split at h
     ·rename_i hl
      cases h
      refine ⟨?_,fun c hc => hok c (List.mem_of_mem_drop (List.mem_of_mem_take hc))⟩
      have := hld.1 ha (by simpa using hl)
      simp only [readRes,h1,asAddr,Sem.run_bind,Sem.run_pure,Result.andThen_ok,this,A0.conc,drop_take_map]
     ·cases h
    ·rename_i ha
     split at h
     ·rename_i c hc
      cases h
      refine ⟨?_,hok c (List.mem_of_getElem? hc)⟩
      have := hld.2 (by simpa using ha) (c.conc ρ) (by simp [hc])
      simp only [readRes,h1,asAddr,Sem.run_bind,Sem.run_pure,Result.andThen_ok,this,A0.conc]
     ·cases h
   ·cases h
  ·cases h

theorem resAll_spec (hT : TOk P ctx.tt) {st : AS} {ρ : Env} {a : Act} {w : World} (hat : AtS bor W df st ρ a w) : ∀ (qs : List ResultVar) (vs : List A0),resAll ctx st qs = some vs →
  (qs.mapM (readRes a.tmps)).run P w = .ok (vs.map (A0.conc ρ)) w ∧ ∀ v ∈ vs,v.ok (· < st.heap.length)
 | [],vs,h => by simp only [resAll,Option.some.injEq] at h; subst h; simp
 | q :: r,vs,h => by
  simp only [resAll] at h
  split at h
  ·rename_i v l h1 h2
   cases h
   obtain ⟨e1,k1⟩ := resOne_spec hT hat h1
   obtain ⟨e2,k2⟩ := resAll_spec hT hat r l h2
   refine ⟨by simp [e1,e2],fun x hx => ?_⟩
   rcases List.mem_cons.1 hx with rfl | hx
   ·exact k1
   ·exact k2 x hx
  ·cases h

theorem resE_spec (hT : TOk P ctx.tt) {st : AS} {ρ : Env} {a : Act} {w : World} (hat : AtS bor W df st ρ a w) {fn : Func} {R : AV → AS → Prop} (h : resE ctx fn st R) :
  ∃ v,(results fn a.tmps).run P w = .ok (v.conc ρ) w ∧ v.ok (· < st.heap.length) ∧ R v st := by
 unfold resE at h
 have hrun : ∀ vs,resAll ctx st fn.results.toList = some vs → (results fn a.tmps).run P w = .ok (if h : (vs.map (A0.conc ρ)).toArray.size = 1 then (vs.map (A0.conc ρ)).toArray[0] else .tuple (vs.map (A0.conc ρ)).toArray) w := by
  intro vs hvs
  obtain ⟨e,_⟩ := resAll_spec hT hat _ _ hvs
  have : (fn.results.mapM (readRes a.tmps)).run P w = .ok (vs.map (A0.conc ρ)).toArray w := by
   rw [Array.mapM_eq_mapM_toList]
   simp only [Sem.run_map,e,Result.andThen_ok]
  have e2 : results fn a.tmps = (do
    let vs ← fn.results.mapM (readRes a.tmps)
    pure (if h : vs.size = 1 then vs[0] else .tuple vs) : Sem Value) := by
   unfold results
   congr 2
  rw [e2]
  simp only [Sem.run_bind,this,Result.andThen_ok,Sem.run_pure]
 split at h
 ·rename_i v hv
  refine ⟨.v v,?_,(resAll_spec hT hat _ _ hv).2 v (by simp),h⟩
  rw [hrun _ hv]; rfl
 ·rename_i l hl hne
  refine ⟨.tup l,?_,(resAll_spec hT hat _ _ hne).2,h⟩
  rw [hrun _ hne]
  have : ¬ l.length = 1 := by
   intro h1
   match l,h1 with
   | [x],_ => exact hl x rfl
  rw [dif_neg (by simpa using this)]; rfl
 ·exact h.elim

theorem start_tmps (ρ : Env) (args : List AV) (m t:Nat) : (((args.map (AV.conc ρ)).toArray ++ Array.replicate (m - (args.map (AV.conc ρ)).toArray.size) undef).getD t undef) = (nthD (args ++ List.replicate (m - args.length) und) t).conc ρ := by
 rw [nthD_eq]
 simp only [Array.getD_eq_getD_getElem?,List.getD,Array.getElem?_append,List.size_toArray,List.length_map,List.getElem?_toArray,List.getElem?_map,List.getElem?_append,Array.getElem?_replicate,List.getElem?_replicate]
 by_cases h : t < args.length
 ·simp [h]
 ·simp only [h,if_false]
  split <;> rfl

theorem leaves_marks (hT : TOk P ctx.tt) {fn : Func} {R : AV → AS → Prop} {st : AS} {ρ : Env} {tm : Array Value} (h : resE ctx fn st R) : ∀ (ds df : List Nat) (w : World),df.Nodup → (∀ D ∈ df,W.heap.size ≤ D ∧ w.heap[D]? = some (.deferred (some []))) →
  AtS bor W (ds.map markD) st ρ { tmps := tm,defers := ds.map markD } w →
  LeavesInM (fw none) 0 P fn tm (fun e w' => ∃ v,e = .returned (v.conc ρ) ∧ v.ok (· < st.heap.length) ∧ R v st ∧ St bor W ρ (· < st.heap.length) (liveAt st.heap) w') (df.map markD) .returning w
 | ds,[],w,_,_,hat => by
  obtain ⟨v,hr,hok,hR⟩ := resE_spec hT hat h
  exact ⟨_,hr,v,rfl,hok,hR,hat.st⟩
 | ds,D :: df,w,hn,hd,hat => by
  have hD := hd D (by simp)
  rw [List.nodup_cons] at hn
  refine ⟨by simp,.inl ⟨D,_,rfl,run_takeDeferred hD.2,leaves_marks hT h ds df _ hn.2 (fun D' hD' => ?_) ?_⟩⟩
  ·have := hd D' (by simp [hD'])
   exact ⟨this.1,by rw [World.putObj_heap_other (by rintro rfl; exact hn.1 hD')]; exact this.2⟩
  ·refine ⟨hat.tmps,hat.size,hat.defers,hat.kn,hat.st.put (.inl hD.1) (fun hc => ?_) fun m p hp => ?_⟩
   ·obtain ⟨cs,e,f,h2⟩ := hc
    rw [hD.2] at h2; cases h2
   have hk := hat.st.kn m p hp
   exact ⟨fun h1 => absurd hD.2 (objAt_kind (hat.st.at_ m p hp) h1 _),fun _ => hp,by simp [hp],hk.1,hk.2⟩

theorem calls_of_fnE (hT : TOk P ctx.tt) (hC : CtxOk P ctx) (hX : XOk bor W ctx.X) (hm : P.follows .mixedOrders = true) {f : FuncId} {fn : Func} (hf : P.funcs[f]? = some fn) (hlp : ∀ c,fn.body = some c → LpOk P ctx c) {args : List AV} {heap : List AObj} {R : AV → AS → Prop}
  (h : fnE ctx fn args heap R) {ρ : Env} {w : World} (hargs : ∀ x ∈ args,x.ok (· < heap.length)) (hst : St bor W ρ (· < heap.length) (liveAt heap) w) :
  Calls P f (args.map (AV.conc ρ)).toArray w fun e w' => ∃ st ρ' v,e = .returned (v.conc ρ') ∧ v.ok (· < st.heap.length) ∧ R v st ∧ St bor W ρ' (· < st.heap.length) (liveAt st.heap) w' := by
 unfold fnE at h
 split at h
 ·rename_i c hb
  refine callsIn_wide.1 (callsIn_of_wp_marks (F := fw none) (n := 0) hf hb trivial ?_ rfl)
  have hat : AtM bor W ⟨args ++ List.replicate (fn.ntmps - args.length) und,heap⟩ ρ { tmps := (args.map (AV.conc ρ)).toArray ++ Array.replicate (fn.ntmps - (args.map (AV.conc ρ)).toArray.size) undef,defers := [] } w := by
   refine ⟨[],List.nodup_nil,fun D hD => absurd hD (by simp),fun t _ => start_tmps ρ args fn.ntmps t,by simp,rfl,fun t => ?_,hst⟩
   dsimp only
   rw [nthD_eq,List.getD,List.getElem?_append]
   split
   ·rename_i hl
    rw [List.getElem?_eq_getElem hl]
    exact hargs _ (List.getElem_mem hl)
   ·rw [List.getElem?_replicate]; split <;> exact und_ok _
  have key : ∀ st ρ' a' w',resE ctx fn st R → AtM bor W st ρ' a' w' → LeavesInM (fw none) 0 P fn a'.tmps (fun e w' => ∃ st ρ' v,e = .returned (v.conc ρ') ∧ v.ok (· < st.heap.length) ∧ R v st ∧ St bor W ρ' (· < st.heap.length) (liveAt st.heap) w') a'.defers .returning w' := by
   rintro st ρ' a' w' hk ⟨ds,hat'⟩
   have hdf := hat'.at'.defers
   have hat2 : AtS bor W (ds.map markD) st ρ' { tmps := a'.tmps,defers := ds.map markD } w' := ⟨hat'.at'.tmps,hat'.at'.size,rfl,hat'.at'.kn,hat'.at'.st⟩
   have := leaves_marks (P := P) (tm := a'.tmps) hT hk ds ds w' hat'.nd hat'.dd hat2
   rw [hdf]
   have mono : ∀ (l : List Nat) (w : World),LeavesInM (fw none) 0 P fn a'.tmps (fun e w' => ∃ v,e = .returned (v.conc ρ') ∧ v.ok (· < st.heap.length) ∧ R v st ∧ St bor W ρ' (· < st.heap.length) (liveAt st.heap) w') (l.map markD) .returning w →
     LeavesInM (fw none) 0 P fn a'.tmps (fun e w' => ∃ st ρ' v,e = .returned (v.conc ρ') ∧ v.ok (· < st.heap.length) ∧ R v st ∧ St bor W ρ' (· < st.heap.length) (liveAt st.heap) w') (l.map markD) .returning w := by
    intro l
    induction l with
    | nil => rintro w ⟨u,hr,v,h1,h2,h3,h4⟩; exact ⟨u,hr,st,ρ',v,h1,h2,h3,h4⟩
    | cons D l ih =>
     rintro w ⟨h1,h2⟩
     refine ⟨h1,?_⟩
     rcases h2 with ⟨r,w2,h3,h4,h5⟩ | ⟨_,fv,cap,f,args,h3,_⟩
     ·exact .inl ⟨r,w2,h3,h4,ih w2 h5⟩
     ·simp [markD] at h3
   exact mono ds w' this
  refine wpIn_mono (codeE_sound hT hC hm c (hlp c hb) bor W none 0 hX (.inl rfl) _ _ h ρ _ w hat) ?_
  rintro e a' w' ⟨st,ρ',hk,hat'⟩
  cases e with
  | normal => exact key st ρ' a' w' hk hat'
  | ret => exact key st ρ' a' w' hk hat'
  | _ => exact hk.elim
 ·exact h.elim
end

theorem Fr.of_none {bor : Bor} {W w : World} (h : Fr noB W w) : Fr bor W w := ⟨h.os,h.tape,h.output,h.size,fun k hk _ => h.block k hk id,h.drw⟩
end Go.Ev

namespace Go.Ev
open Go.RowKit

inductive Par
 | one (t : Ty)
 | agg (t : Ty)
 | ptr (t : Ty)
 | pair (a b : Par)
 | clo (f : FuncId) (p : Par)
 | mv (f : FuncId) (agg : Bool) (t : Ty)
 | none
@[reducible] def Par.ty : Par → Ty
 | .one t => t
 | .agg t => t
 | .ptr t => t
 | .pair a b => .prod a.ty b.ty
 | .clo _ p => p.ty
 | .mv _ _ t => t
 | .none => .bool
def Par.cap : Par → Bool
 | .ptr _ => true
 | .pair a b => a.cap && b.cap
 | .none => true
 | _ => false
def refOf : A0 → Ref
 | .one (.eptr n j _) => .elem n j
 | _ => .ext undef
def refC (c : Cell) : Ref := match c with
 | .raw v => .ext v
 | .full n => .full n
 | _ => .ext undef
def encC (rk:Nat) : Nat → List Comp → List Cell × List AObj
 | _,[] => ([],[])
 | nm,.flat v :: r => match encC rk nm r with | (cs,os) => (.raw v :: cs,os)
 | nm,.sl u l :: r => match encC rk (nm + 1) r with | (cs,os) => (.full nm :: cs,.row u l rk :: os)
def encA (agg : Bool) (cs : List Cell) : A0 := match agg with
 | false => (match cs with | [c] => .one c | cs => .agg cs)
 | true => .agg cs
def encP (rk:Nat) : Nat → (p : Par) → p.ty.T → List A0 × List AObj
 | nm,.one t,x => match encC rk nm (t.comps x) with | (cs,os) => ([encA false cs],os)
 | nm,.agg t,x => match encC rk nm (t.comps x) with | (cs,os) => ([encA true cs],os)
 | nm,.ptr t,x => ([.one (.eptr nm 0 0)],[.row t [x] 0])
 | nm,.pair a b,x => match encP rk nm a x.1 with
  | (as,os) => match encP rk (nm + os.length) b x.2 with
   | (bs,os') => (as ++ bs,os ++ os')
 | nm,.clo f p,x => match encP rk nm p x with
  | (as,os) => ([.one (.clo (.func f) [] (as.map refOf))],os)
 | nm,.mv f agg t,x => match encC rk nm (t.comps x) with | (cs,os) => ([.one (.mv f agg (cs.map refC))],os)
 | _,.none,_ => ([],[])
def decP (hp : HP) : (p : Par) → List AV → Option (p.ty.T × List AV × List Nat × Bool)
 | .one t,l => match l with
  | .v (.one c) :: r => match decT hp t [c] with
   | some (x,[],tc) => some (x,r,tc,true)
   | _ => none
  | _ => none
 | .agg t,l => match l with
  | .v (.agg cs) :: r => match decT hp t cs with
   | some (x,[],tc) => some (x,r,tc,true)
   | _ => none
  | _ => none
 | .ptr t,l => match l with
  | .v (.one (.ptr n off)) :: r => match hp n with
   | some (.cells cs _) => match decT hp t ((cs.drop off).take t.size) with
    | some (x,[],tc) => if t.shallow then some (x,r,n :: tc,true) else none
    | _ => none
   | _ => none
  | .v (.one (.eptr n j 0)) :: r => match hp n with
   | some (.row u l _) => match castL u t l with
    | some l' => some (gd t l' j,r,[n],decide (j < l'.length))
    | none => none
   | _ => none
  | _ => none
 | .pair a b,l => match decP hp a l with
  | some (x,r,tc,f) => match decP hp b r with
   | some (y,r',tc',f') => some ((x,y),r',tc ++ tc',f && f')
   | none => none
  | none => none
 | .clo f p,l => match l with
  | .v (.one (.clo (.func g) [] cap)) :: r => if g = f then (match decP hp p (cap.map ofRef) with
   | some (x,[],tc,b) => some (x,r,tc,p.cap && b)
   | _ => none) else none
  | _ => none
 | .mv f agg t,l => match l with
  | .v (.one (.mv g agg' rs)) :: r => if g = f ∧ agg' = agg then (match decT hp t (rs.map refCell) with
   | some (x,[],tc) => some (x,r,tc,true)
   | _ => none) else none
  | _ => none
 | .none,l => some (false,l,[],true)
def resV : List A0 → AV
 | [a] => .v a
 | l => .tup l
def partsV : AV → Option (List A0)
 | .v a => some [a]
 | .tup l => match l with
  | [_] => none
  | l => some l
 | .dead => none
def ownC (hp : HP) : Ty → List Cell → Option (List Src × List Cell)
 | .prod a b,cs => match ownC hp a cs with
  | some (ss,r) => match ownC hp b r with
   | some (ss',r') => some (ss ++ ss',r')
   | none => none
  | none => none
 | .sl u,cs => match cs with
  | .raw (.slice none 0 0) :: r => some ([.nil],r)
  | .full n :: r => match hp n with
   | some (.row _ _ rk) => if rk = 2 then some ([.same n],r) else none
   | _ => none
  | .sl n 0 len c :: r => if c = len then (match hp n with
   | some (.cells cs _) => if u.flat && (decide (cs.length = len * u.size) && Nat.ble len 1099511627776) then some ([.cells n len],r) else none
   | _ => none) else none
  | _ => none
 | _,cs => match cs with
  | _ :: r => some ([],r)
  | [] => none
def decR (hp : HP) : (p : Par) → List A0 → Option (p.ty.T × List A0 × List Src)
 | .one t,l => match l with
  | .one c :: r => match decT hp t [c] with
   | some (y,[],_) => match ownC hp t [c] with
    | some (ss,_) => some (y,r,ss)
    | none => none
   | _ => none
  | _ => none
 | .agg t,l => match l with
  | .agg cs :: r => match decT hp t cs with
   | some (y,[],_) => match ownC hp t cs with
    | some (ss,_) => some (y,r,ss)
    | none => none
   | _ => none
  | _ => none
 | .ptr _,_ => none
 | .clo _ _,_ => none
 | .mv _ _ _,_ => none
 | .pair a b,l => match decR hp a l with
  | some (x,r,ss) => match decR hp b r with
   | some (y,r',ss') => some ((x,y),r',ss ++ ss')
   | none => none
  | none => none
 | .none,l => some (false,l,[])
def retE (r : Par) (Q : r.ty.T → Prop) (v : AV) (st : AS) : Prop := match partsV v with
 | some l => match decR (liveAt st.heap) r l with
  | some (y,[],ss) => if nodupL (ss.filterMap srcB) then Q y else False
  | _ => False
 | none => False
def argsE (p : Par) (x : p.ty.T) : List AV := (encP 0 0 p x).1.map .v
def heapE (p : Par) (x : p.ty.T) : List AObj := (encP 0 0 p x).2
structure FnS where
 p : Par
 r : Par
 pre : p.ty.T → Prop
 f : p.ty.T → r.ty.T
def fnSpec (s : FnS) : Spec := fun _ args hp nm k => match decP hp s.p args with
 | some (x,[],tc,b) => ob b (s.pre x ∧ ∀ y,y = s.f x → k { val := resV (encP 2 nm s.r y).1,fresh := (encP 2 nm s.r y).2,touch := tc })
 | _ => False

def goodRow (w : World) : AObj → Loc → Prop
 | .row u l rk,x => rk = 0 ∧ (x.blk = none ∧ x.ents = []) ∧ x.len = l.length ∧ x.es = u.size ∧ l.length ≤ x.cap ∧ RowAt w (inW w) x.base u l
 | _,_ => False
theorem encC_start {w : World} : ∀ (cs : List Comp) (vals : List Value) (nm:Nat),All2 (TopC w (inW w)) cs vals →
  ∃ xs,All2 (goodRow w) (encC 0 nm cs).2 xs ∧ ∀ ρ1 : Env,(∀ i x,xs[i]? = some x → ρ1 (nm + i) = x) → (encC 0 nm cs).1.map (Cell.conc ρ1) = vals
 | [],[],nm,_ => ⟨[],trivial,fun _ _ => rfl⟩
 | [],_ :: _,_,h => h.elim
 | _ :: _,[],_,h => h.elim
 | .flat v :: r,v' :: vr,nm,h => by
  obtain ⟨xs,h1,h2⟩ := encC_start r vr nm h.2
  refine ⟨xs,h1,fun ρ1 hr => ?_⟩
  have := h2 ρ1 hr
  have hv : v' = v := h.1
  simp only [encC,List.map_cons,this,hv]; rfl
 | .sl u l :: r,v' :: vr,nm,h => by
  obtain ⟨xs,h1,h2⟩ := encC_start r vr (nm + 1) h.2
  obtain ⟨a,c,hv,hc,hr⟩ := h.1
  refine ⟨{ blk := none,base := a,len := l.length,cap := c,es := u.size } :: xs,⟨⟨rfl,⟨rfl,rfl⟩,rfl,rfl,hc,hr⟩,h1⟩,fun ρ1 hr => ?_⟩
  have := h2 ρ1 fun i x hi => by
   have := hr (i + 1) x (by simpa using hi)
   rwa [show nm + (i + 1) = nm + 1 + i by omega] at this
  have h0 := hr 0 _ rfl
  rw [Nat.add_zero] at h0
  simp only [encC,List.map_cons,this,hv,Cell.conc,h0]
theorem add_zero' (a : Addr) : a.add 0 = a := by unfold Addr.add; split <;> simp_all
theorem refs_conc {rk nm : Nat} {ρ : Env} : ∀ (p : Par),p.cap = true → ∀ {x : p.ty.T},((encP rk nm p x).1.map refOf).map (Ref.conc ρ) = (encP rk nm p x).1.map (A0.conc ρ) := by
 intro p
 induction p generalizing nm with
 | ptr t => intro _ x; rfl
 | none => intro _ x; rfl
 | pair a b iha ihb =>
  intro h x
  simp only [Par.cap,Bool.and_eq_true] at h
  simp only [encP,List.map_append]
  rw [iha h.1,ihb h.2]
 | one t => intro h; cases h
 | agg t => intro h; cases h
 | clo f p _ => intro h; cases h
 | mv f agg t => intro h; cases h
theorem refC_conc (rk:Nat) (ρ : Env) : ∀ (cs : List Comp) (nm:Nat),((encC rk nm cs).1.map refC).map (Ref.conc ρ) = (encC rk nm cs).1.map (Cell.conc ρ)
 | [],_ => rfl
 | .flat v :: r,nm => by simp only [encC,List.map_cons,refC_conc rk ρ r nm]; rfl
 | .sl u l :: r,nm => by simp only [encC,List.map_cons,refC_conc rk ρ r (nm + 1)]; rfl
theorem decP_spec {hp : HP} : ∀ (p : Par) (args : List AV) (x : p.ty.T) (r : List AV) (tc : List Nat),decP hp p args = some (x,r,tc,true) →
  ∃ as,args = as ++ r ∧ ∀ bor W ρ Kn Γ w,(∀ m ∈ tc,Γ m = hp m) → St bor W ρ Kn Γ w → ∀ nm,∃ xs,All2 (goodRow w) (encP 0 nm p x).2 xs ∧
   ∀ ρ1 : Env,(∀ i x,xs[i]? = some x → ρ1 (nm + i) = x) → as.map (AV.conc ρ) = (encP 0 nm p x).1.map (A0.conc ρ1)
 | .one t,args,x,r,tc,h => by
  simp only [decP] at h
  split at h <;> try (cases h; done)
  rename_i c r'
  split at h <;> try (cases h; done)
  rename_i y tc' hd
  cases h
  obtain ⟨ys,e,hl,hs⟩ := decT_spec hp t _ _ _ _ hd
  rw [List.append_nil] at e
  subst e
  refine ⟨[_],rfl,fun bor W ρ Kn Γ w ht hst nm => ?_⟩
  obtain ⟨xs,h1,h2⟩ := encC_start _ _ nm (hs bor W ρ Kn Γ w ht hst)
  refine ⟨xs,h1,fun ρ1 hr => ?_⟩
  have := h2 ρ1 hr
  simp only [encP,List.map_cons,List.map_nil]
  simp only [List.map_cons,List.map_nil] at this
  obtain ⟨c',hc',e⟩ : ∃ c',(encC 0 nm (t.comps x)).1 = [c'] ∧ c'.conc ρ1 = c.conc ρ := by
   match hm : (encC 0 nm (t.comps x)).1,this with
   | [c'],h => simp only [List.map_cons,List.map_nil,List.cons.injEq,and_true] at h; exact ⟨c',rfl,h⟩
   | [],h => simp at h
   | _ :: _ :: _,h => simp at h
  rw [hc']
  simp only [encA,AV.conc,A0.conc,e]
 | .agg t,args,x,r,tc,h => by
  simp only [decP] at h
  split at h <;> try (cases h; done)
  rename_i cs r'
  split at h <;> try (cases h; done)
  rename_i y tc' hd
  cases h
  obtain ⟨ys,e,hl,hs⟩ := decT_spec hp t _ _ _ _ hd
  rw [List.append_nil] at e
  subst e
  refine ⟨[_],rfl,fun bor W ρ Kn Γ w ht hst nm => ?_⟩
  obtain ⟨xs,h1,h2⟩ := encC_start _ _ nm (hs bor W ρ Kn Γ w ht hst)
  refine ⟨xs,h1,fun ρ1 hr => ?_⟩
  have := h2 ρ1 hr
  simp only [encP,encA,List.map_cons,List.map_nil,AV.conc,A0.conc,this]
 | .ptr t,args,x,r,tc,h => by
  simp only [decP] at h
  split at h
  ·rename_i n off r'
   split at h <;> try (cases h; done)
   rename_i cs e he
   split at h <;> try (cases h; done)
   rename_i y tc' hd
   split at h <;> try (cases h; done)
   rename_i hsh
   cases h
   obtain ⟨ys,e1,hl,hs⟩ := decT_spec hp t _ _ _ _ hd
   rw [List.append_nil] at e1
   refine ⟨[_],rfl,fun bor W ρ Kn Γ w ht hst nm => ?_⟩
   have hall := top_nest t x _ hsh (hs bor W ρ Kn Γ w (fun m hm => ht m (by simp [hm])) hst)
   obtain ⟨b,hb,hh⟩ := hst.at_ n _ (by rw [ht n (by simp),he])
   refine ⟨[{ blk := none,base := addrOf ρ n off,len := 1,cap := 1,es := t.size }],⟨⟨rfl,⟨rfl,rfl⟩,rfl,rfl,by simp,ys.map (Cell.conc ρ),?_,fun i v hv => ?_⟩,trivial⟩,fun ρ1 hr => ?_⟩
   ·simpa [rowComps] using hall
   ·refine ⟨⟨b,off,none⟩,by simp [addrOf,hb],?_,?_⟩
    ·rw [add_mk',cell_of_heap (by simpa using hh)]
     rw [← e1,List.map_take,List.map_drop,List.getElem?_take] at hv
     split at hv
     ·rwa [List.getElem?_drop] at hv
     ·cases hv
    ·exact ⟨_,_,_,hh⟩
   ·have h0 := hr 0 _ rfl
    rw [Nat.add_zero] at h0
    simp only [encP,List.map_cons,List.map_nil,AV.conc,A0.conc,Cell.conc,h0]
    cases addrOf ρ n off <;> simp [add_zero']
  ·rename_i n j r'
   split at h <;> try (cases h; done)
   rename_i u l rk he
   split at h <;> try (cases h; done)
   rename_i l' hl'
   simp only [Option.some.injEq,Prod.mk.injEq,decide_eq_true_eq] at h
   obtain ⟨rfl,rfl,rfl,hj⟩ := h
   obtain ⟨e,e2⟩ := castL_eq hl'
   subst e
   dsimp only at e2
   subst e2
   refine ⟨[_],rfl,fun bor W ρ Kn Γ w ht hst nm => ?_⟩
   have hΓ : Γ n = some (.row u l rk) := by rw [ht n (by simp),he]
   have hra := hst.rowAt hΓ
   have hes : (ρ n).es = u.size := (hst.at_ n _ hΓ).2.1
   have hp := hra.part (a' := (ρ n).base.map (·.add (j * u.size))) j (some 1) fun _ => rfl
   have hpl : partL l j (some 1) = [gd u l j] := by
    simp only [partL,gd,List.getD_eq_getElem?_getD,List.getElem?_eq_getElem hj,Option.getD_some]
    rw [List.drop_eq_getElem_cons hj]; rfl
   rw [hpl] at hp
   refine ⟨[{ blk := none,base := (ρ n).base.map (·.add (j * u.size)),len := 1,cap := 1,es := u.size }],⟨⟨rfl,⟨rfl,rfl⟩,rfl,rfl,by simp,hp⟩,trivial⟩,fun ρ1 hr => ?_⟩
   have h0 := hr 0 _ rfl
   rw [Nat.add_zero] at h0
   simp only [encP,List.map_cons,List.map_nil,AV.conc,A0.conc,Cell.conc,h0,hes]
   cases (ρ n).base <;> simp [add_zero']
  ·cases h
 | .clo f p,args,x,r,tc,h => by
  simp only [decP] at h
  split at h <;> try (cases h; done)
  rename_i g cap r'
  split at h <;> try (cases h; done)
  rename_i hg
  split at h <;> try (cases h; done)
  rename_i x1 tc1 b1 h1
  simp only [Option.some.injEq,Prod.mk.injEq,Bool.and_eq_true] at h
  obtain ⟨rfl,rfl,rfl,hc,rfl⟩ := h
  subst hg
  obtain ⟨as,e1,k1⟩ := decP_spec p _ _ _ _ h1
  rw [List.append_nil] at e1
  refine ⟨[_],rfl,fun bor W ρ Kn Γ w ht hst nm => ?_⟩
  obtain ⟨xs,g1,g2⟩ := k1 bor W ρ Kn Γ w ht hst nm
  refine ⟨xs,g1,fun ρ1 hr => ?_⟩
  have h2 := g2 ρ1 hr
  have e2 : cap.map (Ref.conc ρ) = ((encP 0 nm p x1).1.map refOf).map (Ref.conc ρ1) := by
   rw [refs_conc p hc,← h2,← e1,List.map_map]
   exact List.map_congr_left fun q _ => (ofRef_conc ρ q).symm
  simp only [encP,List.map_cons,List.map_nil,AV.conc,A0.conc,Cell.conc,e2]
 | .mv f agg t,args,x,r,tc,h => by
  simp only [decP] at h
  split at h <;> try (cases h; done)
  rename_i g agg' rs r'
  split at h <;> try (cases h; done)
  rename_i hg
  split at h <;> try (cases h; done)
  rename_i y tc' hd
  cases h
  obtain ⟨rfl,rfl⟩ := hg
  obtain ⟨ys,e,hl,hs⟩ := decT_spec hp t _ _ _ _ hd
  rw [List.append_nil] at e
  refine ⟨[_],rfl,fun bor W ρ Kn Γ w ht hst nm => ?_⟩
  obtain ⟨xs,h1,h2⟩ := encC_start _ _ nm (hs bor W ρ Kn Γ w ht hst)
  refine ⟨xs,h1,fun ρ1 hr => ?_⟩
  have h3 := h2 ρ1 hr
  have e2 : rs.map (Ref.conc ρ) = ((encC 0 nm (t.comps x)).1.map refC).map (Ref.conc ρ1) := by
   rw [refC_conc,h3,← e,List.map_map]
   exact List.map_congr_left fun q _ => (refCell_conc ρ q).symm
  simp only [encP,List.map_cons,List.map_nil,AV.conc,A0.conc,Cell.conc,e2]
 | .pair a b,args,x,r,tc,h => by
  simp only [decP] at h
  split at h <;> try (cases h; done)
  rename_i x1 r1 tc1 f1 h1
  split at h <;> try (cases h; done)
  rename_i x2 r2 tc2 f2 h2
  simp only [Option.some.injEq,Prod.mk.injEq,Bool.and_eq_true] at h
  obtain ⟨rfl,rfl,rfl,rfl,rfl⟩ := h
  obtain ⟨as,e1,k1⟩ := decP_spec a _ _ _ _ h1
  obtain ⟨bs,e2,k2⟩ := decP_spec b _ _ _ _ h2
  refine ⟨as ++ bs,by rw [e1,e2]; simp,fun bor W ρ Kn Γ w ht hst nm => ?_⟩
  obtain ⟨xs,g1,g2⟩ := k1 bor W ρ Kn Γ w (fun m hm => ht m (by simp [hm])) hst nm
  obtain ⟨ys,g3,g4⟩ := k2 bor W ρ Kn Γ w (fun m hm => ht m (by simp [hm])) hst (nm + (encP 0 nm a x1).2.length)
  refine ⟨xs ++ ys,g1.append g3,fun ρ1 hr => ?_⟩
  have hl := g1.length
  simp only [encP,List.map_append]
  rw [g2 ρ1 fun i x hi => hr i x (by rw [List.getElem?_append_left (List.getElem?_eq_some_iff.1 hi).1]; exact hi),g4 ρ1 fun i x hi => by
   have := hr (xs.length + i) x (by rw [List.getElem?_append_right (by omega)]; simpa using hi)
   rwa [← hl,← Nat.add_assoc] at this]
 | .none,args,x,r,tc,h => by
  simp only [decP,Option.some.injEq,Prod.mk.injEq,and_true] at h
  obtain ⟨rfl,rfl,rfl⟩ := h
  exact ⟨[],rfl,fun bor W ρ Kn Γ w ht hst nm => ⟨[],trivial,fun _ _ => rfl⟩⟩
where add_mk' {b off m : Nat} : (⟨b,off,none⟩ : Addr).add m = ⟨b,off + m,none⟩ := by unfold Addr.add; split <;> simp_all
theorem goodRow_row {w : World} {o : AObj} {x : Loc} (h : goodRow w o x) : ∃ u,∃ l : List u.T,o = .row u l 0 := by
 cases o <;> first | exact h.elim | (obtain ⟨rfl,_⟩ := h; exact ⟨_,_,rfl⟩)
theorem St.begin {w : World} {os : List AObj} {xs : List Loc} (h : All2 (goodRow w) os xs) : St noB w (fun n => xs.getD n {}) (· < os.length) (liveAt os) w := by
 have hlive : ∀ n o,liveAt os n = some o → os[n]? = some o := fun n o ho => by
  unfold liveAt at ho
  split at ho
  ·cases ho
  ·exact ho
 have hx : ∀ n o,liveAt os n = some o → goodRow w o (xs.getD n {}) := fun n o ho => by
  obtain ⟨x,h1,h2⟩ := h.get n o (hlive n o ho)
  simpa [h1] using h2
 have hblk : ∀ n,(liveAt os n).isSome = true → (xs.getD n {}).blk = Option.none ∧ (xs.getD n {}).ents = [] := fun n hn => by
  obtain ⟨o,ho⟩ := Option.isSome_iff_exists.1 hn
  have := hx n o ho
  obtain ⟨u,l,rfl⟩ := goodRow_row this
  exact this.2.1
 refine ⟨Fr.refl _ _,fun n o ho => ?_,fun n o ho => ?_,fun n m b hn hm hb => ?_,fun n b hn hb => ?_,fun b ⟨m,S,h1,_⟩ => ?_,fun n o ho => .inr (hblk n (by rw [ho]; rfl)).2⟩
 rotate_right
 ·obtain ⟨u,l,e⟩ := goodRow_row (hx m _ h1)
  cases e
 ·have hg := hx n o ho
  obtain ⟨u,l,rfl⟩ := goodRow_row hg
  obtain ⟨_,h1,h2,h3,h4,vals,h5,h6⟩ := hg
  obtain ⟨e1,e2⟩ := subOf_vals h5
  have hfz : ∀ b,cellsB w b → fzB (fun n => xs.getD n {}) (liveAt os) w b := fun b hb => ⟨hb,by
   rintro (⟨m,g1,g2⟩ | ⟨m,S,g1,_⟩)
   ·exact noHas (hblk m g1) g2
   ·obtain ⟨u,l,e⟩ := goodRow_row (hx m _ g1)
    cases e⟩
  refine ⟨h2,h3,h4,subOf vals,fun i v hv => ?_,fun q u' l' hq => ?_,fun _ => h1.1,fun h => absurd rfl h⟩
  ·rw [e1] at hv
   obtain ⟨a,g1,g2,g3⟩ := h6 i v hv
   exact ⟨a,g1,g2,fun _ => hfz _ g3⟩
  ·exact (e2 q u' l' hq).weak fun b hb => ⟨hfz b hb,fun h => by cases h⟩
 ·obtain ⟨u,l,rfl⟩ := goodRow_row (hx n o ho)
  exact ⟨(List.getElem?_eq_some_iff.1 (hlive n _ ho)).1,trivial⟩
 ·exact (noHas (hblk n hn) hb).elim
 ·exact (noHas (hblk n hn) hb).elim
end Go.Ev
