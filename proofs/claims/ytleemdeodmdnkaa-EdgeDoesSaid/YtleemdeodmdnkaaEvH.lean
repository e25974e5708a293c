/- Code and functions, out of the condition 'codeE'. -/
import Derived.Test.YtleemdeodmdnkaaEvM
noncomputable section
set_option linter.unusedSectionVars false
set_option linter.unusedVariables false
set_option linter.unusedSimpArgs false
namespace Go.Ev
open Go.RowKit

section
variable {P : Program} {ctx : Ctx} {bor : Bor} {W : World}

def Snd (P : Program) (ctx : Ctx) (c : Code) : Prop := ∀ bor W ro n,XOk bor W ctx.X → (ro = none ∨ noRF c = true) → ∀ st K,codeE ctx c st K → ∀ ρ a w,AtM bor W st ρ a w → c.wpIn (fw ro) n P (Post bor W K) a w

theorem St.loopPut {bor : Bor} {W : World} {ρ : Env} {h : List AObj} {w : World} {n l : Nat} {r : Loop} {s : LoopState} {j : Option Code} (hst : St bor W ρ (· < h.length) (liveAt h) w) (hn : liveAt h n = some (.loop r s j)) (hl : (ρ n).blk = some l)
  (s' : LoopState) (j' : Option Code) : St bor W ρ (· < h.length) (liveAt (h.set n (.loop r s' j'))) (w.putObj l (.loop { r with state := s',pending := j' })) := by
 have hlt := liveAt_lt hn
 have hw : l < w.heap.size := objAt_lt (hst.at_ n _ hn) hl
 have hown := hst.own n l (by simp [hn]) hl
 refine hst.put hown (fun hc => ?_) fun m p hp => ?_
 ·obtain ⟨b,hb,hh⟩ := hst.at_ n _ hn
  rw [hl] at hb; cases hb
  obtain ⟨cs,e,f,h2⟩ := hc
  rw [hh] at h2; cases h2
 rw [live_liveAt,List.getElem?_set] at hp
 by_cases e : n = m
 ·subst e
  rw [if_pos rfl,if_pos hlt] at hp
  cases hp
  exact ⟨fun _ _ _ => ⟨l,hl,World.putObj_heap_same hw⟩,fun h => absurd hl h,by simp [hn],hlt,trivial⟩
 ·rw [if_neg e,← live_liveAt] at hp
  have hk := hst.kn m p hp
  exact ⟨fun h1 => absurd (hst.inj n m l (by simp [hn]) (by simp [hp]) hl h1) e,fun _ => hp,by simp [hp],hk.1,hk.2⟩
theorem St.loopGone {bor : Bor} {W : World} {ρ : Env} {h : List AObj} {w : World} {n l : Nat} {r : Loop} {s : LoopState} {j : Option Code} (hst : St bor W ρ (· < h.length) (liveAt h) w) (hn : liveAt h n = some (.loop r s j)) (hl : (ρ n).blk = some l) (o : Obj) :
  St bor W ρ (· < (h.set n .gone).length) (liveAt (h.set n .gone)) (w.putObj l o) := by
 have hlt := liveAt_lt hn
 have hown := hst.own n l (by simp [hn]) hl
 rw [List.length_set]
 refine hst.put hown (fun hc => ?_) fun m p hp => ?_
 ·obtain ⟨b,hb,hh⟩ := hst.at_ n _ hn
  rw [hl] at hb; cases hb
  obtain ⟨cs,e,f,h2⟩ := hc
  rw [hh] at h2; cases h2
 rw [live_liveAt,List.getElem?_set] at hp
 by_cases e : n = m
 ·subst e
  rw [if_pos rfl,if_pos hlt] at hp
  cases hp
 ·rw [if_neg e,← live_liveAt] at hp
  have hk := hst.kn m p hp
  exact ⟨fun h1 => absurd (hst.inj n m l (by simp [hn]) (by simp [hp]) hl h1) e,fun _ => hp,by simp [hp],hk.1,hk.2⟩

theorem set_len {h : List AObj} {n : Nat} {o : AObj} : (h.set n o).length = h.length := List.length_set

theorem round_ok {assign body : Code} (ha : Snd P ctx assign) (hb : Snd P ctx body) (hra : noRF assign = true) (hrb : noRF body = true) {ps : Array Tmp} {tmps0 : List AV} {n0 l : Nat} {ρ2 : Env} {r : Loop} (hl : (ρ2 n0).blk = some l)
  (hr : r.state = .ready ∧ r.pending = none ∧ r.params = ps ∧ r.assign = assign ∧ r.body = body) (hts : r.tmps.size = tmps0.length) (htm : ∀ t,nthD tmps0 t ≠ .dead → r.tmps.getD t undef = (nthD tmps0 t).conc ρ2) (htk : ∀ t,(nthD tmps0 t).ok (· < n0)) :
  YsOk P [(n0,yldG ctx.X n0 tmps0 r ρ2 ps (codeE ctx assign) (codeE ctx body))] := by
 intro n s hs X args hp nm k h
 unfold lookN at hs
 split at hs
 rotate_left
 ·cases hs
 rename_i en
 subst en
 cases hs
 unfold yldG at h
 obtain ⟨hXX,h⟩ := h
 subst hXX
 split at h
 rotate_left
 ·exact h.elim
 rename_i hsz
 obtain ⟨hp1,h⟩ := isPin_spec h
 obtain ⟨hp0,h⟩ := isRdy_spec h
 intro ro m bor W ρ w hX hargs hst
 have hpin := hst.at_ _ _ hp1
 have hagr : ∀ i,i < n0 + 1 → ρ i = ρ2 i := hpin.2
 have hln : (ρ n0).blk = some l := by rw [hagr n0 (by omega)]; exact hl
 obtain ⟨l',hl',hrec⟩ := hst.at_ _ _ hp0
 rw [hln] at hl'; cases hl'
 have hre : ({ r with state := .ready,pending := none } : Loop) = r := by cases r; simp only at hr; obtain ⟨rfl,rfl,_⟩ := hr; rfl
 rw [hre] at hrec
 have hn0 : n0 + 1 < nm := (hst.kn _ _ hp1).1
 have hgone : ∀ m,hp m ≠ some .gone := fun m e => hst.at_ m _ e
 have hkl : ∀ m,(hp m).isSome = true → m < nm := fun m hm => by
  obtain ⟨o,ho⟩ := Option.isSome_iff_exists.1 hm
  exact (hst.kn m o ho).1
 refine ⟨l,r.fn,(r.params.zip (args.map (AV.conc ρ)).toArray).foldl (fun tmps (x : Tmp × Value) => tmps.setIfInBounds x.1 x.2) r.tmps,assign,body,hln,?_,?_⟩
 ·have := run_yield (P := P) (args := (args.map (AV.conc ρ)).toArray) hrec (by simp [hr.2.2.1,hsz])
  rw [this,hr.2.2.2.1,hr.2.2.2.2]
 let heap3 := heapOf hp nm ++ [AObj.pin ρ nm]
 let ρ3 := updE ρ nm {}
 have h3l : heap3.length = nm + 1 := by simp [heap3,heapOf_length]
 have hold3 : ∀ m,m < nm → ρ3 m = ρ m := fun m hm => by simp only [ρ3,updE]; rw [if_neg (by omega)]
 have hl3 : ∀ m o,liveAt heap3 m = some o → (m < nm ∧ hp m = some o) ∨ (m = nm ∧ o = .pin ρ nm) := by
  intro m o ho
  rw [live_liveAt] at ho
  rcases Nat.lt_or_ge m nm with h1 | h1
  ·rw [List.getElem?_append_left (by rw [heapOf_length]; exact h1),live_heapOf h1 (hgone m)] at ho
   exact .inl ⟨h1,ho⟩
  ·have : m < heap3.length := liveAt_lt (by rw [live_liveAt]; exact ho)
   have : m = nm := by omega
   subst this
   rw [List.getElem?_append_right (by rw [heapOf_length]; exact Nat.le_refl _),heapOf_length] at ho
   simp only [Nat.sub_self,List.getElem?_cons_zero,live,Option.some.injEq] at ho
   exact .inr ⟨rfl,ho.symm⟩
 have hfz3 : ∀ b,fzB ρ hp w b → fzB ρ3 (liveAt heap3) w b ∧ w.heap[b]? = w.heap[b]? := fun b hb => by
  refine ⟨⟨hb.1,?_⟩,rfl⟩
  rintro (⟨m,h1,h2⟩ | ⟨m,S,h1,h2⟩)
  ·obtain ⟨o,ho⟩ := Option.isSome_iff_exists.1 h1
   rcases hl3 m o ho with ⟨h3,h4⟩ | ⟨rfl,rfl⟩
   ·rw [hold3 m h3] at h2
    exact hb.2 (.inl ⟨m,by simp [h4],h2⟩)
   ·simp [ρ3,updE] at h2
  ·rcases hl3 m _ h1 with ⟨h3,h4⟩ | ⟨rfl,e⟩
   ·exact hb.2 (.inr ⟨m,S,h4,h2⟩)
   ·cases e
 have hst3 : St bor W ρ3 (· < heap3.length) (liveAt heap3) w := by
  refine ⟨hst.fr,fun m o ho => ?_,fun m o ho => ?_,fun m m' b hm hm' hb1 hb2 => ?_,fun m b hm hb => ?_,fun b ⟨m,S,h1,h2⟩ => ?_,fun m o ho => ?_⟩
  rotate_right
  ·rcases hl3 m o ho with ⟨h1,h2⟩ | ⟨rfl,rfl⟩
   ·rw [hold3 m h1]; exact hst.noe m o h2
   ·exact .inr (by simp [ρ3,updE])
  rotate_right
  ·rcases hl3 m _ h1 with ⟨_,h4⟩ | ⟨_,e⟩
   ·obtain ⟨h5,h6⟩ := hst.hid b ⟨m,S,h4,h2⟩
    refine ⟨h5,fun ⟨n,h7,h8⟩ => ?_⟩
    obtain ⟨o,ho⟩ := Option.isSome_iff_exists.1 h7
    rcases hl3 n o ho with ⟨h9,h10⟩ | ⟨rfl,rfl⟩
    ·rw [hold3 n h9] at h8
     exact h6 ⟨n,by simp [h10],h8⟩
    ·simp [ρ3,updE] at h8
   ·cases e
  ·rcases hl3 m o ho with ⟨h1,h2⟩ | ⟨rfl,rfl⟩
   ·have hk := hst.kn m o h2
    exact objAt_keep (Kn := (· < nm)) (hst.at_ m o h2) hold3 h1 hk.2 hfz3 (fun _ _ h => h) fun _ _ => rfl
   ·exact ⟨by simp [ρ3,updE],hold3⟩
  ·rcases hl3 m o ho with ⟨h1,h2⟩ | ⟨rfl,rfl⟩
   ·exact ⟨by rw [h3l]; omega,AObj.ok_mono (fun i hi => by rw [h3l]; omega) o (hst.kn m o h2).2⟩
   ·exact ⟨by rw [h3l]; omega,fun i hi => by rw [h3l]; omega⟩
  ·obtain ⟨o,ho⟩ := Option.isSome_iff_exists.1 hm
   obtain ⟨o',ho'⟩ := Option.isSome_iff_exists.1 hm'
   rcases hl3 m o ho with ⟨h1,h2⟩ | ⟨rfl,rfl⟩
   ·rcases hl3 m' o' ho' with ⟨h3,h4⟩ | ⟨rfl,rfl⟩
    ·rw [hold3 m h1] at hb1; rw [hold3 m' h3] at hb2
     exact hst.injH m m' b (by simp [h2]) (by simp [h4]) hb1 hb2
    ·simp [ρ3,updE] at hb2
   ·simp [ρ3,updE] at hb1
  ·obtain ⟨o,ho⟩ := Option.isSome_iff_exists.1 hm
   rcases hl3 m o ho with ⟨h1,h2⟩ | ⟨rfl,rfl⟩
   ·rw [hold3 m h1] at hb
    exact hst.ownH m b (by simp [h2]) hb
   ·simp [ρ3,updE] at hb
 have htm3 : ∀ t,nthD tmps0 t ≠ .dead → r.tmps.getD t undef = (nthD tmps0 t).conc ρ3 := fun t ht => by
  rw [htm t ht]
  refine (AV.conc_congr (Kn := (· < n0)) (fun i hi => ?_) _ (htk t)).symm
  rw [hold3 i (by omega),hagr i (by omega)]
 have hargs3 : args.map (AV.conc ρ) = args.map (AV.conc ρ3) := List.map_congr_left fun x hx => (AV.conc_congr (Kn := (· < nm)) hold3 x (hargs x hx)).symm
 obtain ⟨hs1,hs2⟩ := setPs_spec ρ3 ps.toList tmps0 args r.tmps hts htm3
 have hat3 : AtM bor W ⟨setPs tmps0 ps.toList args,heap3⟩ ρ3 { tmps := (r.params.zip (args.map (AV.conc ρ)).toArray).foldl (fun tmps (x : Tmp × Value) => tmps.setIfInBounds x.1 x.2) r.tmps,defers := [] } w := by
  refine ⟨[],List.nodup_nil,fun D hD => absurd hD (by simp),⟨fun t ht => ?_,?_,rfl,fun t => ?_,hst3⟩⟩
  ·dsimp only
   rw [hr.2.2.1,hargs3,foldl_arr]
   exact hs2 t ht
  ·dsimp only
   rw [hr.2.2.1,hargs3,foldl_arr,setPs_length]
   exact hs1
  ·refine setPs_ok _ _ _ (fun t => AV.ok_mono (fun i hi => ?_) _ (htk t)) (fun v hv => AV.ok_mono (fun i hi => ?_) _ (hargs v hv)) t <;> (dsimp only; rw [h3l]; omega)
 refine roundIn_of_wpIn trivial ?_
 refine wpIn_mono (ha bor W (some l) m hX (.inr hra) _ _ (h ρ) ρ3 _ w hat3) ?_
 rintro e a1 w1 ⟨st1,ρ',hk1,hat1⟩
 cases e <;> try exact hk1.elim
 obtain ⟨hq1,hk1⟩ := isPin_spec hk1
 obtain ⟨hq0,hk1⟩ := isRdy_spec hk1
 obtain ⟨ds1,hat1⟩ := hat1
 have hag1 : ∀ i,i < nm → ρ' i = ρ i := (hat1.at'.st.at_ _ _ hq1).2
 have hl1 : (ρ' n0).blk = some l := by rw [hag1 n0 (by omega)]; exact hln
 obtain ⟨l1,hl1',hrec1⟩ := hat1.at'.st.at_ _ _ hq0
 rw [hl1] at hl1'; cases hl1'
 refine ⟨_,run_beginRound hrec1 rfl,?_⟩
 have hst4 := hat1.at'.st.loopPut hq0 hl1 .busy none
 have hD : ∀ D ∈ ds1,D ≠ l := by
  rintro D hD rfl
  have := (hat1.dd D hD).2
  rw [hrec1] at this; cases this
 have hat4 : AtM bor W ⟨st1.tmps,st1.heap.set n0 (.loop r .busy none)⟩ ρ' a1 (w1.putObj l (.loop { r with state := .busy,pending := none })) := by
  refine ⟨ds1,hat1.nd,fun D hd => ⟨(hat1.dd D hd).1,?_⟩,⟨hat1.at'.tmps,hat1.at'.size,hat1.at'.defers,fun t => ?_,?_⟩⟩
  ·rw [World.putObj_heap_other (hD D hd)]; exact (hat1.dd D hd).2
  ·dsimp only; rw [set_len]; exact hat1.at'.kn t
  ·dsimp only; rw [set_len]; exact hst4
 refine wpIn_mono (hb bor W (some l) m hX (.inr hrb) _ _ hk1 ρ' _ _ hat4) ?_
 rintro e a2 w2 ⟨st2,ρ4,hk2,ds2,hat2⟩
 have fin : ∀ jump : Option Code,roundEnd hp nm n0 r ρ st2.heap jump k → ∃ v w',(Instr.endRound l jump).run P w2 = .ok v w' ∧ ∃ r ρ',k r ∧ (∀ p ∈ r.writes,hp p.1 ≠ none) ∧ Ending.returned v = .returned (r.val.conc ρ') ∧ (∀ m,m < nm → ρ' m = ρ m) ∧ r.val.ok (knR (· < nm) nm r) ∧ St bor W ρ' (knR (· < nm) nm r) (appH r nm hp) w' := by
  intro jump hk
  unfold roundEnd at hk
  obtain ⟨hb0,hk⟩ := isBusy_spec hk
  obtain ⟨hb1,hk⟩ := isPin_spec hk
  have hag2 : ∀ i,i < nm → ρ4 i = ρ i := (hat2.at'.st.at_ _ _ hb1).2
  have hl2 : (ρ4 n0).blk = some l := by rw [hag2 n0 (by omega)]; exact hln
  obtain ⟨l2,hl2',hrec2⟩ := hat2.at'.st.at_ _ _ hb0
  rw [hl2] at hl2'; cases hl2'
  refine ⟨_,_,run_endRound jump hrec2,_,ρ4,hk,fun p hp => hpWr_mem hp,rfl,hag2,trivial,?_⟩
  have hlen := liveAt_lt hb1
  have hst5 := hat2.at'.st.loopPut hb0 hl2 (if jump.isNone then .ready else .done) jump
  obtain ⟨e1,e2⟩ := appH_diffV (hp := hp) (nm := nm) (v := boolV jump.isNone) (h := st2.heap.set n0 (jumpObj r jump)) (by rw [set_len]; exact hlen)
  unfold diffR
  rw [e2,set_len]
  have e3 : jumpObj r jump = .loop r (if jump.isNone then .ready else .done) jump := by cases jump <;> rfl
  rw [e3] at e1 ⊢
  refine hst5.less fun i o ho => ?_
  have := e1 i o ho (hgone i) hkl
  exact ⟨this,hst5.kn i o this⟩
 cases e with
 | normal => exact fin none hk2
 | ret => exact fin (some .ret) hk2
 | exit id => exact fin (some (.exit id)) hk2
 | _ => exact hk2.elim

theorem codeE_sound (hT : TOk P ctx.tt) (hC : CtxOk P ctx) (hm : P.follows .mixedOrders = true) : ∀ (c : Code),LpOk P ctx c → Snd P ctx c := by
 intro c
 induction c with
 | skip => intro _ bor W ro n hX _ st K h ρ a w hat; exact wpIn_skip ⟨st,ρ,h,hat⟩
 | region id ops draw =>
  intro _ bor W ro n hX _ st K h ρ a w ⟨ds,hat⟩
  have hX' := hX.rebase hat.at'.st
  cases draw with
  | false =>
   have h : opsE ctx ops ops.toList [] st [] fun st' _ => K .normal st' := h
   exact wpIn_region_list (opsE_sound hT hC hX' ops ops.toList [] st [] _ h (fun st' _ ρ' a' w' hk hat' => ⟨st',ρ',hk,ds,hat.back hat'⟩) ρ a w hat.base)
  | true =>
   refine wpIn_mono (draw_ok hT hC.sp hm hX' ro n id ops st (K .normal) h ρ a w hat.base) ?_
   rintro e a' w' ⟨st',ρ',⟨rfl,hk⟩,hat'⟩
   exact ⟨st',ρ',hk,ds,hat.back hat'⟩
 | seq x y ihx ihy =>
  intro hlp bor W ro n hX hro st K h ρ a w hat
  have hro1 : ro = none ∨ noRF x = true := hro.imp id fun h => by simp only [noRF,Bool.and_eq_true] at h; exact h.1
  have hro2 : ro = none ∨ noRF y = true := hro.imp id fun h => by simp only [noRF,Bool.and_eq_true] at h; exact h.2
  refine wpIn_seq (wpIn_mono (ihx hlp.1 bor W ro n hX hro1 st _ h ρ a w hat) ?_)
  rintro e a' w' ⟨st',ρ',hk,hat'⟩
  cases e with
  | normal => exact ihy hlp.2 bor W ro n hX hro2 st' K hk ρ' a' w' hat'
  | _ => exact ⟨st',ρ',hk,hat'⟩
 | cond c x y ihx ihy =>
  intro hlp bor W ro n hX hro st K h ρ a w hat
  have hro1 : ro = none ∨ noRF x = true := hro.imp id fun h => by simp only [noRF,Bool.and_eq_true] at h; exact h.1
  have hro2 : ro = none ∨ noRF y = true := hro.imp id fun h => by simp only [noRF,Bool.and_eq_true] at h; exact h.2
  unfold codeE at h
  split at h
  ·rename_i t hc
   have := hat.eval c (by rw [hc]; simp)
   rw [hc] at this
   exact wpIn_cond_split this (fun ht => ihx hlp.1 bor W ro n hX hro1 st K (by subst ht; exact h) ρ a w hat) (fun ht => ihy hlp.2 bor W ro n hX hro2 st K (by subst ht; exact h) ρ a w hat)
  ·exact h.elim
 | block id c ih =>
  intro hlp bor W ro n hX hro st K h ρ a w hat
  unfold codeE at h
  unfold LpOk at hlp
  split at h
  ·rename_i sp hsp
   rw [hsp] at hlp
   exact hlp bor W ro n hX hro st K h ρ a w hat
  ·rename_i hsp
   rw [hsp] at hlp
   exact block_ok (ih hlp bor W ro n hX hro st _ h ρ a w hat)
 | loop c ih =>
  intro hlp bor W ro n hX hro' st K h ρ a w hat
  obtain ⟨I,⟨m,stw,hw0,h0⟩,hr⟩ := h
  intro b k cs hro hb hroom
  have key : ∀ m a w,(∃ st ρ,I m st ∧ AtM bor W st ρ a w) → ∃ e a' w',Post bor W K e a' w' ∧ ArrivesIn (Machine.fenced P (fw ro)) P (lone (b.atR a (.code c :: .inLoop c :: k)) cs w) b k cs e a' w' := by
   intro m
   induction m using Nat.strongRecOn with
   | _ m ihm =>
    rintro a w ⟨st,ρ,hI,hat⟩
    obtain ⟨e,a1,w1,⟨st1,ρ1,hk,hat1⟩,harr⟩ := ih hlp bor W ro n hX hro' st _ (hr m st hI) ρ a w hat b (.inLoop c :: k) cs hro hb hroom
    cases e with
    | normal =>
     obtain ⟨m',st',hm,hw,hI'⟩ := hk
     obtain ⟨ρ2,hat2⟩ := hat1.weak hw
     obtain ⟨e2,a2,w2,hq2,harr2⟩ := ihm m' hm a1 w1 ⟨st',ρ2,hI',hat2⟩
     exact ⟨e2,a2,w2,hq2,.of_steps (StepsIn.trans harr (.one (fenced_calm hb hroom rfl) stepR_inLoop)) harr2⟩
    | exit id => exact ⟨_,a1,w1,⟨st1,ρ1,hk,hat1⟩,.pass (x := .inLoop c) rfl (fun _ _ => .inl (by simp)) harr⟩
    | goto l => exact ⟨_,a1,w1,⟨st1,ρ1,hk,hat1⟩,.pass (x := .inLoop c) rfl (fun _ _ => .inl (by simp)) harr⟩
    | ret => exact ⟨_,a1,w1,⟨st1,ρ1,hk,hat1⟩,.pass (x := .inLoop c) rfl (fun _ _ => .inl (by simp)) harr⟩
    | panic ch => exact ⟨_,a1,w1,⟨st1,ρ1,hk,hat1⟩,.pass (x := .inLoop c) rfl (fun _ _ => .inl (by simp)) harr⟩
    | outgrown => exact ⟨_,a1,w1,⟨st1,ρ1,hk,hat1⟩,.pass (x := .inLoop c) rfl (fun _ _ => .inl (by simp)) harr⟩
  obtain ⟨ρ0,hat0⟩ := hat.weak hw0
  obtain ⟨e,a',w',hq,harr⟩ := key m a w ⟨stw,ρ0,h0,hat0⟩
  exact ⟨e,a',w',hq,.of_steps (.one (fenced_calm hb hroom rfl) stepR_loop) harr⟩
 | exit id => intro _ bor W ro n hX _ st K h ρ a w hat; exact wpIn_exit ⟨st,ρ,h,hat⟩
 | ret => intro _ bor W ro n hX _ st K h ρ a w hat; exact wpIn_ret ⟨st,ρ,h,hat⟩
 | rangeFunc g ps assign body iha ihb =>
  intro hlp bor W ro n hX hro st K h ρ a w ⟨ds,hat⟩
  have hro : ro = none := hro.resolve_right (by simp [noRF])
  subst hro
  unfold codeE at h
  split at h
  rotate_left
  ·exact h.elim
  rename_i hrf
  simp only [Bool.and_eq_true] at hrf
  split at h
  rotate_left
  ·exact h.elim
  rename_i f cap hg
  split at h
  rotate_left
  ·exact h.elim
  rename_i isp hisp
  obtain ⟨hent,hisp⟩ := hC.its f isp hisp
  have hev := hat.at'.eval g (by rw [hg]; simp)
  rw [hg] at hev
  have hgk := hat.at'.evalok g
  rw [hg] at hgk
  obtain ⟨N,hN⟩ : ∃ N,N = st.heap.length := ⟨_,rfl⟩
  refine wpIn_rangeFunc fun fn _ => ?_
  obtain ⟨r,hrr⟩ : ∃ r : Loop,r = { state := .ready,pending := none,fn := fn,tmps := a.tmps,params := ps,assign := assign,body := body,defers := w.heap.size } := ⟨_,rfl⟩
  obtain ⟨W1,hW1⟩ : ∃ W1,W1 = (w.alloc (.deferred (some []))).alloc (.loop r) := ⟨_,rfl⟩
  have hD1 : W1.heap[w.heap.size]? = some (.deferred (some [])) := by
   rw [hW1]; exact (Below.heap_alloc _ _ _ (by simp)).trans (World.alloc_heap_new w _)
  have hL1 : W1.heap[w.heap.size + 1]? = some (.loop r) := by
   rw [hW1]; have := World.alloc_heap_new (w.alloc (.deferred (some []))) (.loop r); rwa [World.size_alloc] at this
  have hold1 : ∀ b,b < w.heap.size → W1.heap[b]? = w.heap[b]? := fun b hb => by
   rw [hW1]; exact (Below.heap_alloc _ _ _ (by simp; omega)).trans (Below.heap_alloc _ _ _ hb)
  have hS1 : W1.heap.size = w.heap.size + 2 := by rw [hW1]; simp
  let ρ2 : Env := fun m => if m = N then { blk := some (w.heap.size + 1) } else if m = N + 1 then {} else ρ m
  let heap2 := st.heap ++ [AObj.loop r .ready none,.pin ρ2 (N + 1)]
  have hl2 : heap2.length = N + 2 := by simp [heap2,hN]
  have hold2 : ∀ m,m < N → ρ2 m = ρ m := fun m hm => by simp only [ρ2]; rw [if_neg (by omega),if_neg (by omega)]
  have hn2 : ρ2 N = { blk := some (w.heap.size + 1) } := by simp [ρ2]
  have hp2 : ρ2 (N + 1) = {} := by simp [ρ2]
  have hlive : ∀ m o,liveAt heap2 m = some o → (m < N ∧ liveAt st.heap m = some o) ∨ (m = N ∧ o = .loop r .ready none) ∨ (m = N + 1 ∧ o = .pin ρ2 (N + 1)) := by
   intro m o ho
   have hlt := liveAt_lt ho
   rw [live_liveAt] at ho
   rcases Nat.lt_or_ge m N with h1 | h1
   ·rw [List.getElem?_append_left (by omega),← live_liveAt] at ho
    exact .inl ⟨h1,ho⟩
   ·rw [List.getElem?_append_right (by omega),← hN] at ho
    have : m = N ∨ m = N + 1 := by omega
    rcases this with rfl | rfl
    ·simp only [Nat.sub_self,List.getElem?_cons_zero,live,Option.some.injEq] at ho
     exact .inr (.inl ⟨rfl,ho.symm⟩)
    ·simp only [show N + 1 - N = 1 by omega,List.getElem?_cons_succ,List.getElem?_cons_zero,live,Option.some.injEq] at ho
     exact .inr (.inr ⟨rfl,ho.symm⟩)
  have hfr1 : Fr bor W W1 := by
   rw [hW1]; exact (hat.at'.st.fr.alloc _).alloc _
  have hlt1 : ∀ m o b,liveAt st.heap m = some o → (ρ m).has b → b < w.heap.size := fun m o b ho hb => hat.at'.st.lt m b (by rw [ho]; rfl) hb
  have hst2 : St bor W ρ2 (· < heap2.length) (liveAt heap2) W1 := by
   have hre : ({ r with state := .ready,pending := none } : Loop) = r := by rw [hrr]
   have hfz2 : ∀ b,fzB ρ (liveAt st.heap) w b → fzB ρ2 (liveAt heap2) W1 b ∧ W1.heap[b]? = w.heap[b]? := fun b hb => by
    refine ⟨⟨hb.1.same (hold1 b hb.1.lt),?_⟩,hold1 b hb.1.lt⟩
    rintro (⟨m,h1,h2⟩ | ⟨m,S,h1,h2⟩)
    ·obtain ⟨o,ho⟩ := Option.isSome_iff_exists.1 h1
     rcases hlive m o ho with ⟨h3,h4⟩ | ⟨rfl,rfl⟩ | ⟨rfl,rfl⟩
     ·rw [hold2 m h3] at h2
      exact hb.2 (.inl ⟨m,by simp [h4],h2⟩)
     ·rw [hn2] at h2; cases has_mk.1 h2
      have := hb.1.lt; omega
     ·rw [hp2] at h2; cases has_mk.1 h2
    ·rcases hlive m _ h1 with ⟨h3,h4⟩ | ⟨rfl,e⟩ | ⟨rfl,e⟩
     ·exact hb.2 (.inr ⟨m,S,h4,h2⟩)
     ·cases e
     ·cases e
   refine ⟨hfr1,fun m o ho => ?_,fun m o ho => ?_,fun m m' b hm hm' hb1 hb2 => ?_,fun m b hm hb => ?_,fun b ⟨m,S,h1,h2⟩ => ?_,fun m o ho => ?_⟩
   rotate_right
   ·rcases hlive m o ho with ⟨h1,h2⟩ | ⟨rfl,rfl⟩ | ⟨rfl,rfl⟩
    ·rw [hold2 m h1]; exact hat.at'.st.noe m o h2
    ·exact .inr (by rw [hn2])
    ·exact .inr (by rw [hp2])
   rotate_right
   ·rcases hlive m _ h1 with ⟨_,h4⟩ | ⟨_,e⟩ | ⟨_,e⟩
    ·obtain ⟨h5,h6⟩ := hat.at'.st.hid b ⟨m,S,h4,h2⟩
     refine ⟨by rw [hS1]; omega,fun ⟨n,h7,h8⟩ => ?_⟩
     obtain ⟨o,ho⟩ := Option.isSome_iff_exists.1 h7
     rcases hlive n o ho with ⟨h9,h10⟩ | ⟨rfl,rfl⟩ | ⟨rfl,rfl⟩
     ·rw [hold2 n h9] at h8
      exact h6 ⟨n,by simp [h10],h8⟩
     ·rw [hn2] at h8; cases has_mk.1 h8; omega
     ·rw [hp2] at h8; cases has_mk.1 h8
    ·cases e
    ·cases e
   ·rcases hlive m o ho with ⟨h1,h2⟩ | ⟨rfl,rfl⟩ | ⟨rfl,rfl⟩
    ·have hk := hat.at'.st.kn m o h2
     exact objAt_keep (Kn := (· < st.heap.length)) (hat.at'.st.at_ m o h2) (fun i hi => hold2 i (by omega)) (by omega) hk.2 hfz2 (fun _ _ h => h) fun b hb => hold1 b (hlt1 m o b h2 hb)
    ·exact ⟨w.heap.size + 1,by rw [hn2],by rw [hre]; exact hL1⟩
    ·exact ⟨by rw [hp2],fun _ _ => rfl⟩
   ·rcases hlive m o ho with ⟨h1,h2⟩ | ⟨rfl,rfl⟩ | ⟨rfl,rfl⟩
    ·exact ⟨by omega,AObj.ok_mono (fun i hi => by omega) o (hat.at'.st.kn m o h2).2⟩
    ·exact ⟨by omega,trivial⟩
    ·exact ⟨by omega,fun i hi => by omega⟩
   ·obtain ⟨o,ho⟩ := Option.isSome_iff_exists.1 hm
    obtain ⟨o',ho'⟩ := Option.isSome_iff_exists.1 hm'
    rcases hlive m o ho with ⟨h1,h2⟩ | ⟨rfl,rfl⟩ | ⟨rfl,rfl⟩
    ·rw [hold2 m h1] at hb1
     have hlt := hlt1 m o b h2 hb1
     rcases hlive m' o' ho' with ⟨h3,h4⟩ | ⟨rfl,rfl⟩ | ⟨rfl,rfl⟩
     ·rw [hold2 m' h3] at hb2
      exact hat.at'.st.injH m m' b (by simp [h2]) (by simp [h4]) hb1 hb2
     ·rw [hn2] at hb2; cases has_mk.1 hb2; omega
     ·rw [hp2] at hb2; cases has_mk.1 hb2
    ·rw [hn2] at hb1; cases has_mk.1 hb1
     rcases hlive m' o' ho' with ⟨h3,h4⟩ | ⟨rfl,rfl⟩ | ⟨rfl,rfl⟩
     ·rw [hold2 m' h3] at hb2
      have := hlt1 m' o' _ h4 hb2; omega
     ·rfl
     ·rw [hp2] at hb2; cases has_mk.1 hb2
    ·rw [hp2] at hb1; cases has_mk.1 hb1
   ·obtain ⟨o,ho⟩ := Option.isSome_iff_exists.1 hm
    rcases hlive m o ho with ⟨h1,h2⟩ | ⟨rfl,rfl⟩ | ⟨rfl,rfl⟩
    ·rw [hold2 m h1] at hb
     exact hat.at'.st.ownH m b (by simp [h2]) hb
    ·rw [hn2] at hb; cases has_mk.1 hb
     have := hat.at'.st.fr.size
     exact .inl (by omega)
    ·rw [hp2] at hb; cases has_mk.1 hb
  have hst3 := hst2.rebase (N := heap2.length) fun m o ho => ⟨liveAt_lt ho,(hst2.kn m o ho).2⟩
  have hX3 := hX.rebase hst2
  have hys := round_ok (P := P) (ctx := ctx) (iha hlp.1) (ihb hlp.2) hrf.1 hrf.2 (ps := ps) (tmps0 := st.tmps) (n0 := N) (l := w.heap.size + 1) (ρ2 := ρ2) (r := r) (by rw [hn2]) (by rw [hrr]; exact ⟨rfl,rfl,rfl,rfl,rfl⟩)
   (by rw [hrr]; exact hat.at'.size) (fun t ht => by
    rw [hrr]
    show a.tmps.getD t undef = _
    rw [hat.at'.tmps t ht]
    exact (AV.conc_congr (Kn := (· < st.heap.length)) (fun i hi => hold2 i (by omega)) _ (hat.at'.kn t)).symm) (fun t => by have := hat.at'.kn t; rwa [← hN] at this)
  have hcap : ∀ x ∈ cap.map ofRef,x.ok (· < st.heap.length) := fun x hx => by
   obtain ⟨q,hq,rfl⟩ := List.mem_map.1 hx
   exact ofRef_ok (hgk q hq)
  have hcall := hisp _ _ _ _ (h r ρ2) (by rw [← hN]; exact hys) (lb bor W ρ2 (liveAt heap2) W1) W1 ρ2 W1 hX3 (by
    intro x hx
    rcases List.mem_cons.1 hx with rfl | hx
    ·show st.heap.length < _
     simp
    ·exact AV.ok_mono (fun i hi => by simp; omega) x (hcap x hx)) (by
    have : st.heap ++ [AObj.loop r .ready none,.pin ρ2 (st.heap.length + 1)] = heap2 := by simp only [heap2,hN]
    rw [this]; exact hst3)
  refine ⟨w.heap.size + 1,[markD w.heap.size],W1,{ target := .fn (.func f) (cap.map (Ref.conc ρ)).toArray,args := #[.func (.yield (w.heap.size + 1)) #[] #[]] },W1,f,#[.func (.yield (w.heap.size + 1)) #[] #[]] ++ (cap.map (Ref.conc ρ)).toArray,W1,?_,?_,fun _ _ => trivial,?_,fun h => by simp [fw] at h,callsIn_fw ?_⟩
  ·have := run_enterLoop_outer (P := P) (w := w) fn a.tmps ps assign body
   rw [hW1,hrr]; exact this
  ·simp only [resolve,hev,AV.conc,A0.conc,Cell.conc]
   simp [go_sem]
  ·simp only [invoke,Sem.run_bind,Sem.run_pure,Result.andThen_ok]
   have := hent (#[.func (.yield (w.heap.size + 1)) #[] #[]] ++ (cap.map (Ref.conc ρ)).toArray) W1
   simpa using this
  have hargs2 : (((AV.v (.one (.yld st.heap.length)) :: cap.map ofRef).map (AV.conc ρ2)).toArray : Array Value) = #[.func (.yield (w.heap.size + 1)) #[] #[]] ++ (cap.map (Ref.conc ρ)).toArray := by
   apply Array.ext'
   simp only [List.map_cons,List.map_map,AV.conc,A0.conc,Cell.conc,← hN,hn2,Array.toList_append,List.cons_append,List.nil_append,List.cons.injEq,true_and]
   refine List.map_congr_left fun q hq => ?_
   show (ofRef q).conc ρ2 = q.conc ρ
   rw [ofRef_conc]
   exact Ref.conc_congr (Kn := (· < st.heap.length)) (fun i hi => hold2 i (by omega)) q (hgk q hq)
  rw [hargs2] at hcall
  refine hcall.mono ?_
  rintro e w' ⟨st2,ρ',v,rfl,_,hR,hstE⟩
  unfold loopEnd at hR
  obtain ⟨hpe,hR⟩ := isPin_spec hR
  rw [← hN] at hpe hR
  have hag : ∀ i,i < N + 1 → ρ' i = ρ2 i := (hstE.at_ _ _ hpe).2
  have hlN : (ρ' N).blk = some (w.heap.size + 1) := by rw [hag N (by omega),hn2]
  have hlenE := liveAt_lt hpe
  have behind : ∀ (r' : Loop) (s : LoopState) (j : Option Code),liveAt st2.heap N = some (.loop r' s j) → s ≠ .busy →
    (Instr.endLoop (w.heap.size + 1)).run P w' = .ok j (w'.putObj (w.heap.size + 1) (.loop { r' with state := .exhausted,pending := j })) ∧
    AtM bor W ⟨st.tmps,(st2.heap.set N .gone).set (N + 1) .gone⟩ ρ' { a with defers := [markD w.heap.size] ++ a.defers } (w'.putObj (w.heap.size + 1) (.loop { r' with state := .exhausted,pending := j })) := by
   intro r' s j hj hs
   obtain ⟨l,hl,hrec⟩ := hstE.at_ _ _ hj
   rw [hlN] at hl; cases hl
   refine ⟨run_endLoop hrec hs,w.heap.size :: ds,?_,?_,?_⟩
   ·refine List.nodup_cons.2 ⟨fun hm => ?_,hat.nd⟩
    have := (Array.getElem?_eq_some_iff.1 (hat.dd _ hm).2).1
    omega
   ·intro D hD
    have hDW : W.heap.size ≤ D ∧ W1.heap[D]? = some (.deferred (some [])) := by
     rcases List.mem_cons.1 hD with rfl | hD
     ·exact ⟨hat.at'.st.fr.size,hD1⟩
     ·have h1 := hat.dd D hD
      exact ⟨h1.1,by rw [hold1 D (Array.getElem?_eq_some_iff.1 h1.2).1]; exact h1.2⟩
    refine ⟨hDW.1,?_⟩
    have hne : D ≠ w.heap.size + 1 := by
     rintro rfl
     have := hDW.2; rw [hL1] at this; cases this
    rw [World.putObj_heap_other hne,hstE.fr.block D (Array.getElem?_eq_some_iff.1 hDW.2).1 (lb_kind hst2 hDW.2)]
    exact hDW.2
   ·have hstF := ((hst2.unbase hstE).loopGone hj hlN (.loop { r' with state := .exhausted,pending := j })).dropN (N + 1)
    refine ⟨fun t ht => ?_,hat.at'.size,?_,fun t => ?_,hstF⟩
    ·have h1 := hat.at'.tmps t ht
     rw [show ({ a with defers := [markD w.heap.size] ++ a.defers } : Act).tmps = a.tmps from rfl,h1]
     exact (AV.conc_congr (Kn := (· < st.heap.length)) (fun i hi => by rw [hag i (by omega),hold2 i (by omega)]) _ (hat.at'.kn t)).symm
    ·simp [hat.at'.defers]
    ·refine AV.ok_mono (fun i hi => ?_) _ (hat.at'.kn t)
     rw [set_len,set_len]; omega
  split at hR
  ·rename_i r' hj
   obtain ⟨h1,h2⟩ := behind _ _ _ hj (by simp)
   exact ⟨_,_,h1,_,ρ',hR,h2⟩
  ·rename_i r' hj
   obtain ⟨h1,h2⟩ := behind _ _ _ hj (by simp)
   exact ⟨_,_,h1,wpIn_ret ⟨_,ρ',hR,h2⟩⟩
  ·rename_i r' id hj
   obtain ⟨h1,h2⟩ := behind _ _ _ hj (by simp)
   exact ⟨_,_,h1,wpIn_exit ⟨_,ρ',hR,h2⟩⟩
  ·exact hR.elim
 | scope => intro _ bor W ro n hX _ st K h; exact h.elim
 | label => intro _ bor W ro n hX _ st K h; exact h.elim
 | goto => intro _ bor W ro n hX _ st K h; exact h.elim
 | refuse => intro _ bor W ro n hX _ st K h; exact h.elim
end
end Go.Ev
