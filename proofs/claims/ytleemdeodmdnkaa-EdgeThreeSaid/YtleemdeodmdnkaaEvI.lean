/- Functions, out of the condition 'fnE'. -/
import Derived.Test.YtleemdeodmdnkaaEvH
noncomputable section
set_option linter.unusedSectionVars false
set_option linter.unusedVariables false
set_option linter.unusedSimpArgs false
namespace Go.Ev
open Go.RowKit

section
variable {P : Program} {ctx : Ctx} {bor : Bor} {W : World} {df : List Deferred}

theorem unroll_ok (hT : TOk P ctx.tt) (hC : CtxOk P ctx) (hm : P.follows .mixedOrders = true) {ro : Option Nat} {n : Nat} (c : Code) (hX : XOk bor W ctx.X) (hro' : ro = none ∨ noRF c = true) (hlp : LpOk P ctx c) (N:Nat) (st : AS) (K : Exit → AS → Prop) (h : unroll ctx c N st K) :
  ∀ ρ a w,AtM bor W st ρ a w → (Code.loop c).wpIn (fw ro) n P (Post bor W K) a w := by
 intro ρ a w hat b k cs hro hb hroom
 have key : ∀ N st ρ a w,unroll ctx c N st K → AtM bor W st ρ a w → ∃ e a' w',Post bor W K e a' w' ∧ ArrivesIn (Machine.fenced P (fw ro)) P (lone (b.atR a (.code c :: .inLoop c :: k)) cs w) b k cs e a' w' := by
  intro N
  induction N with
  | zero => intro st ρ a w h; exact h.elim
  | succ N ih =>
   intro st ρ a w h hat
   obtain ⟨e,a1,w1,⟨st1,ρ1,hk,hat1⟩,harr⟩ := codeE_sound hT hC hm c hlp bor W ro n hX hro' st _ h ρ a w hat b (.inLoop c :: k) cs hro hb hroom
   cases e with
   | normal =>
    obtain ⟨e2,a2,w2,hq2,harr2⟩ := ih st1 ρ1 a1 w1 hk hat1
    exact ⟨e2,a2,w2,hq2,.of_steps (StepsIn.trans harr (.one (fenced_calm hb hroom rfl) stepR_inLoop)) harr2⟩
   | exit id => exact ⟨_,a1,w1,⟨st1,ρ1,hk,hat1⟩,.pass (x := .inLoop c) rfl (fun _ _ => .inl (by simp)) harr⟩
   | goto l => exact ⟨_,a1,w1,⟨st1,ρ1,hk,hat1⟩,.pass (x := .inLoop c) rfl (fun _ _ => .inl (by simp)) harr⟩
   | ret => exact ⟨_,a1,w1,⟨st1,ρ1,hk,hat1⟩,.pass (x := .inLoop c) rfl (fun _ _ => .inl (by simp)) harr⟩
   | panic ch => exact ⟨_,a1,w1,⟨st1,ρ1,hk,hat1⟩,.pass (x := .inLoop c) rfl (fun _ _ => .inl (by simp)) harr⟩
   | outgrown => exact ⟨_,a1,w1,⟨st1,ρ1,hk,hat1⟩,.pass (x := .inLoop c) rfl (fun _ _ => .inl (by simp)) harr⟩
 obtain ⟨e,a',w',hq,harr⟩ := key N st ρ a w h hat
 exact ⟨e,a',w',hq,.of_steps (.one (fenced_calm hb hroom rfl) stepR_loop) harr⟩

def readRes (tmps : Array Value) : ResultVar → Sem Value
 | .tmp t => pure (tmps.getD t undef)
 | .cell a t => do loadVar t (← asAddr (tmps.getD a undef))

theorem resOne_spec (hT : TOk P ctx.tt) {st : AS} {ρ : Env} {a : Act} {w : World} (hat : AtS bor W df st ρ a w) {q : ResultVar} {v : A0} (h : resOne ctx st q = some v) :
  (readRes a.tmps q).run P w = .ok (v.conc ρ) w ∧ v.ok (· < st.heap.length) := by
 cases q with
 | tmp t =>
  simp only [resOne] at h
  split at h
  ·rename_i x hx
   cases h
   have h1 := hat.tmps t (by rw [hx]; simp)
   have h2 := hat.kn t
   rw [hx] at h1 h2
   exact ⟨by simp only [readRes,Sem.run_pure]; rw [h1]; rfl,h2⟩
  ·cases h
 | cell t ty =>
  simp only [resOne] at h
  split at h
  ·rename_i n off i hx hi
   split at h
   ·rename_i cs e he
    have h1 := hat.tmps t (by rw [hx]; simp)
    rw [hx] at h1
    obtain ⟨b,hb,hh⟩ := hat.st.at_ n _ he
    rw [ptr_conc hb] at h1
    have hok := (hat.st.kn n _ he).2
    have hld := run_loadVar_at (P := P) (rest := []) (off := off) hT hi (by simpa using hh)
    split at h
    ·rename_i ha
     split at h
     ·rename_i hl
      cases h
      refine ⟨?_,fun c hc => hok c (List.mem_of_mem_drop (List.mem_of_mem_take hc))⟩
      have := hld.1 ha (by simpa using hl)
      simp only [readRes,h1,asAddr,Sem.run_bind,Sem.run_pure,Result.andThen_ok,this,A0.conc,drop_take_map]
     ·cases h
    ·rename_i ha
     split at h
     ·rename_i c hc
      cases h
      refine ⟨?_,hok c (List.mem_of_getElem? hc)⟩
      have := hld.2 (by simpa using ha) (c.conc ρ) (by simp [hc])
      simp only [readRes,h1,asAddr,Sem.run_bind,Sem.run_pure,Result.andThen_ok,this,A0.conc]
     ·cases h
   ·cases h
  ·cases h

theorem resAll_spec (hT : TOk P ctx.tt) {st : AS} {ρ : Env} {a : Act} {w : World} (hat : AtS bor W df st ρ a w) : ∀ (qs : List ResultVar) (vs : List A0),resAll ctx st qs = some vs →
  (qs.mapM (readRes a.tmps)).run P w = .ok (vs.map (A0.conc ρ)) w ∧ ∀ v ∈ vs,v.ok (· < st.heap.length)
 | [],vs,h => by simp only [resAll,Option.some.injEq] at h; subst h; simp
 | q :: r,vs,h => by
  simp only [resAll] at h
  split at h
  ·rename_i v l h1 h2
   cases h
   obtain ⟨e1,k1⟩ := resOne_spec hT hat h1
   obtain ⟨e2,k2⟩ := resAll_spec hT hat r l h2
   refine ⟨by simp [e1,e2],fun x hx => ?_⟩
   rcases List.mem_cons.1 hx with rfl | hx
   ·exact k1
   ·exact k2 x hx
  ·cases h

theorem resE_spec (hT : TOk P ctx.tt) {st : AS} {ρ : Env} {a : Act} {w : World} (hat : AtS bor W df st ρ a w) {fn : Func} {R : AV → AS → Prop} (h : resE ctx fn st R) :
  ∃ v,(results fn a.tmps).run P w = .ok (v.conc ρ) w ∧ v.ok (· < st.heap.length) ∧ R v st := by
 unfold resE at h
 have hrun : ∀ vs,resAll ctx st fn.results.toList = some vs → (results fn a.tmps).run P w = .ok (if h : (vs.map (A0.conc ρ)).toArray.size = 1 then (vs.map (A0.conc ρ)).toArray[0] else .tuple (vs.map (A0.conc ρ)).toArray) w := by
  intro vs hvs
  obtain ⟨e,_⟩ := resAll_spec hT hat _ _ hvs
  have : (fn.results.mapM (readRes a.tmps)).run P w = .ok (vs.map (A0.conc ρ)).toArray w := by
   rw [Array.mapM_eq_mapM_toList]
   simp only [Sem.run_map,e,Result.andThen_ok]
  have e2 : results fn a.tmps = (do
    let vs ← fn.results.mapM (readRes a.tmps)
    pure (if h : vs.size = 1 then vs[0] else .tuple vs) : Sem Value) := by
   unfold results
   congr 2
  rw [e2]
  simp only [Sem.run_bind,this,Result.andThen_ok,Sem.run_pure]
 split at h
 ·rename_i v hv
  refine ⟨.v v,?_,(resAll_spec hT hat _ _ hv).2 v (by simp),h⟩
  rw [hrun _ hv]; rfl
 ·rename_i l hl hne
  refine ⟨.tup l,?_,(resAll_spec hT hat _ _ hne).2,h⟩
  rw [hrun _ hne]
  have : ¬ l.length = 1 := by
   intro h1
   match l,h1 with
   | [x],_ => exact hl x rfl
  rw [dif_neg (by simpa using this)]; rfl
 ·exact h.elim

theorem start_tmps (ρ : Env) (args : List AV) (m t:Nat) : (((args.map (AV.conc ρ)).toArray ++ Array.replicate (m - (args.map (AV.conc ρ)).toArray.size) undef).getD t undef) = (nthD (args ++ List.replicate (m - args.length) und) t).conc ρ := by
 rw [nthD_eq]
 simp only [Array.getD_eq_getD_getElem?,List.getD,Array.getElem?_append,List.size_toArray,List.length_map,List.getElem?_toArray,List.getElem?_map,List.getElem?_append,Array.getElem?_replicate,List.getElem?_replicate]
 by_cases h : t < args.length
 ·simp [h]
 ·simp only [h,if_false]
  split <;> rfl

theorem leaves_marks (hT : TOk P ctx.tt) {fn : Func} {R : AV → AS → Prop} {st : AS} {ρ : Env} {tm : Array Value} (h : resE ctx fn st R) : ∀ (ds df : List Nat) (w : World),df.Nodup → (∀ D ∈ df,W.heap.size ≤ D ∧ w.heap[D]? = some (.deferred (some []))) →
  AtS bor W (ds.map markD) st ρ { tmps := tm,defers := ds.map markD } w →
  LeavesInM (fw none) 0 P fn tm (fun e w' => ∃ v,e = .returned (v.conc ρ) ∧ v.ok (· < st.heap.length) ∧ R v st ∧ St bor W ρ (· < st.heap.length) (liveAt st.heap) w') (df.map markD) .returning w
 | ds,[],w,_,_,hat => by
  obtain ⟨v,hr,hok,hR⟩ := resE_spec hT hat h
  exact ⟨_,hr,v,rfl,hok,hR,hat.st⟩
 | ds,D :: df,w,hn,hd,hat => by
  have hD := hd D (by simp)
  rw [List.nodup_cons] at hn
  refine ⟨by simp,.inl ⟨D,_,rfl,run_takeDeferred hD.2,leaves_marks hT h ds df _ hn.2 (fun D' hD' => ?_) ?_⟩⟩
  ·have := hd D' (by simp [hD'])
   exact ⟨this.1,by rw [World.putObj_heap_other (by rintro rfl; exact hn.1 hD')]; exact this.2⟩
  ·refine ⟨hat.tmps,hat.size,hat.defers,hat.kn,hat.st.put (.inl hD.1) (fun hc => ?_) fun m p hp => ?_⟩
   ·obtain ⟨cs,e,f,h2⟩ := hc
    rw [hD.2] at h2; cases h2
   have hk := hat.st.kn m p hp
   exact ⟨fun h1 => absurd hD.2 (objAt_kind (hat.st.at_ m p hp) h1 _),fun _ => hp,by simp [hp],hk.1,hk.2⟩

theorem calls_of_fnE (hT : TOk P ctx.tt) (hC : CtxOk P ctx) (hX : XOk bor W ctx.X) (hm : P.follows .mixedOrders = true) {f : FuncId} {fn : Func} (hf : P.funcs[f]? = some fn) (hlp : ∀ c,fn.body = some c → LpOk P ctx c) {args : List AV} {heap : List AObj} {R : AV → AS → Prop}
  (h : fnE ctx fn args heap R) {ρ : Env} {w : World} (hargs : ∀ x ∈ args,x.ok (· < heap.length)) (hst : St bor W ρ (· < heap.length) (liveAt heap) w) :
  Calls P f (args.map (AV.conc ρ)).toArray w fun e w' => ∃ st ρ' v,e = .returned (v.conc ρ') ∧ v.ok (· < st.heap.length) ∧ R v st ∧ St bor W ρ' (· < st.heap.length) (liveAt st.heap) w' := by
 unfold fnE at h
 split at h
 ·rename_i c hb
  refine callsIn_wide.1 (callsIn_of_wp_marks (F := fw none) (n := 0) hf hb trivial ?_ rfl)
  have hat : AtM bor W ⟨args ++ List.replicate (fn.ntmps - args.length) und,heap⟩ ρ { tmps := (args.map (AV.conc ρ)).toArray ++ Array.replicate (fn.ntmps - (args.map (AV.conc ρ)).toArray.size) undef,defers := [] } w := by
   refine ⟨[],List.nodup_nil,fun D hD => absurd hD (by simp),fun t _ => start_tmps ρ args fn.ntmps t,by simp,rfl,fun t => ?_,hst⟩
   dsimp only
   rw [nthD_eq,List.getD,List.getElem?_append]
   split
   ·rename_i hl
    rw [List.getElem?_eq_getElem hl]
    exact hargs _ (List.getElem_mem hl)
   ·rw [List.getElem?_replicate]; split <;> exact und_ok _
  have key : ∀ st ρ' a' w',resE ctx fn st R → AtM bor W st ρ' a' w' → LeavesInM (fw none) 0 P fn a'.tmps (fun e w' => ∃ st ρ' v,e = .returned (v.conc ρ') ∧ v.ok (· < st.heap.length) ∧ R v st ∧ St bor W ρ' (· < st.heap.length) (liveAt st.heap) w') a'.defers .returning w' := by
   rintro st ρ' a' w' hk ⟨ds,hat'⟩
   have hdf := hat'.at'.defers
   have hat2 : AtS bor W (ds.map markD) st ρ' { tmps := a'.tmps,defers := ds.map markD } w' := ⟨hat'.at'.tmps,hat'.at'.size,rfl,hat'.at'.kn,hat'.at'.st⟩
   have := leaves_marks (P := P) (tm := a'.tmps) hT hk ds ds w' hat'.nd hat'.dd hat2
   rw [hdf]
   have mono : ∀ (l : List Nat) (w : World),LeavesInM (fw none) 0 P fn a'.tmps (fun e w' => ∃ v,e = .returned (v.conc ρ') ∧ v.ok (· < st.heap.length) ∧ R v st ∧ St bor W ρ' (· < st.heap.length) (liveAt st.heap) w') (l.map markD) .returning w →
     LeavesInM (fw none) 0 P fn a'.tmps (fun e w' => ∃ st ρ' v,e = .returned (v.conc ρ') ∧ v.ok (· < st.heap.length) ∧ R v st ∧ St bor W ρ' (· < st.heap.length) (liveAt st.heap) w') (l.map markD) .returning w := by
    intro l
    induction l with
    | nil => rintro w ⟨u,hr,v,h1,h2,h3,h4⟩; exact ⟨u,hr,st,ρ',v,h1,h2,h3,h4⟩
    | cons D l ih =>
     rintro w ⟨h1,h2⟩
     refine ⟨h1,?_⟩
     rcases h2 with ⟨r,w2,h3,h4,h5⟩ | ⟨_,fv,cap,f,args,h3,_⟩
     ·exact .inl ⟨r,w2,h3,h4,ih w2 h5⟩
     ·simp [markD] at h3
   exact mono ds w' this
  refine wpIn_mono (codeE_sound hT hC hm c (hlp c hb) bor W none 0 hX (.inl rfl) _ _ h ρ _ w hat) ?_
  rintro e a' w' ⟨st,ρ',hk,hat'⟩
  cases e with
  | normal => exact key st ρ' a' w' hk hat'
  | ret => exact key st ρ' a' w' hk hat'
  | _ => exact hk.elim
 ·exact h.elim
end

theorem Fr.of_none {bor : Bor} {W w : World} (h : Fr noB W w) : Fr bor W w := ⟨h.os,h.tape,h.output,h.size,fun k hk _ => h.block k hk id,h.drw⟩
end Go.Ev
