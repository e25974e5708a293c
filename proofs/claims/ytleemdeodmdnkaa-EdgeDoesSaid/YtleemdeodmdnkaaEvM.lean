/- Code and functions, out of the condition 'codeE'. -/
import Derived.Test.YtleemdeodmdnkaaEvG
import Derived.RangeFuncLeaves
import Derived.RangeFuncRecord
noncomputable section
set_option linter.unusedSectionVars false
set_option linter.unusedVariables false
set_option linter.unusedSimpArgs false
namespace Go.Ev
open Go.RowKit

def lb (bor : Bor) (W : World) (ρ : Env) (Γ : HP) (w : World) : Bor := { wr := fun b => LOb ρ Γ b ∨ ((W.heap.size ≤ b ∨ bor b) ∧ cellsB w b),nw := pmB bor W }
theorem objAt_kind {fz pm : Nat → Prop} {ρ : Env} {n b : Nat} {o : AObj} {w : World} (h : objAt fz pm ρ n o w) (hb : (ρ n).blk = some b) : ∀ x,w.heap[b]? ≠ some (.deferred x) := by
 intro x
 cases o with
 | cells cs e => obtain ⟨b',hb',hh⟩ := h; rw [hb] at hb'; cases hb'; rw [hh]; simp
 | row t l rk =>
  obtain ⟨_,_,_,sub,_,_,h3,h4⟩ := h
  by_cases e : rk = 0
  ·rw [h3 e] at hb; cases hb
  ·rcases h4 e with ⟨h5,_⟩ | ⟨b',pre,rest,e,h5,_,h6,_⟩
   ·rw [h5] at hb; cases hb
   ·rw [hb] at h5; cases h5; rw [h6]; simp
 | alias m s q => rw [h.1] at hb; cases hb
 | gone => exact h.elim
 | loop r s j => obtain ⟨b',hb',hh⟩ := h; rw [hb] at hb'; cases hb'; rw [hh]; simp
 | pin ρ0 n0 => rw [h.1] at hb; cases hb
 | hide S => rw [show (ρ n).blk = none from h] at hb; cases hb
 | map ka va k v l => obtain ⟨_,_,b',es,clk,hb',hh,_⟩ := h; rw [hb] at hb'; cases hb'; rw [hh]; simp
 | grp ka k u l c q => obtain ⟨_,_,_,b',es,clk,hb',hh,_⟩ := h; rw [hb] at hb'; cases hb'; rw [hh]; simp
 | set m => rw [h.1] at hb; cases hb
 | gv m c k u x l => rw [h.1] at hb; cases hb
 | rc cs => rw [h.1] at hb; cases hb
 | dp t l c st kn => rw [h.1] at hb; cases hb
 | nv m c j q u => rw [h.1] at hb; cases hb
 | hmap es clk => obtain ⟨b',hb',hh⟩ := h; rw [hb] at hb'; cases hb'; rw [hh]; simp
 | itr m c es clk ka k u l cur => obtain ⟨_,_,_,b',_,_,_,hb',hh,_⟩ := h; rw [hb] at hb'; cases hb'; rw [hh]; simp
theorem lb_kind {bor : Bor} {W : World} {ρ : Env} {Kn : Nat → Prop} {Γ : HP} {w : World} (h : St bor W ρ Kn Γ w) {b : Nat} {x : Option (List Deferred)} (hb : w.heap[b]? = some (.deferred x)) : ¬ lb bor W ρ Γ w b := by
 rintro (⟨m,h1,h2⟩ | ⟨_,cs,e,f,h2⟩)
 ·obtain ⟨o,ho⟩ := Option.isSome_iff_exists.1 h1
  rcases h.hasC m b h1 h2 with h2 | ⟨cs,e,f,h2⟩
  ·exact objAt_kind (h.at_ m o ho) h2 _ hb
  ·rw [hb] at h2; cases h2
 ·rw [hb] at h2; cases h2
section
variable {bor : Bor} {W : World} {ρ : Env} {Kn : Nat → Prop} {Γ : HP} {w : World}
theorem St.rebase {N : Nat} (h : St bor W ρ Kn Γ w) (hN : ∀ m o,Γ m = some o → m < N ∧ o.ok (· < N)) : St (lb bor W ρ Γ w) w ρ (· < N) Γ w :=
 ⟨Fr.refl _ _,fun n o ho => objAt_keep (Kn := (· < N)) (h.at_ n o ho) (fun _ _ => rfl) (hN n o ho).1 (hN n o ho).2 (fun _ hb => ⟨hb,rfl⟩) (fun b h1 h2 => .inr (.inr h2)) (fun _ _ => rfl),hN,h.injH,fun n b hn hb => .inr (.inl ⟨n,hn,hb⟩),h.hid,h.noe⟩
theorem lb_pm (h : St bor W ρ Kn Γ w) {b : Nat} (hb : lb bor W ρ Γ w b) : W.heap.size ≤ b ∨ bor b := by
 rcases hb with ⟨m,h1,h2⟩ | ⟨h1,_⟩
 ·exact h.ownH m b h1 h2
 ·exact h1
theorem XOk.rebase {X : Addr → Value → Prop} (hX : XOk bor W X) (h : St bor W ρ Kn Γ w) : XOk (lb bor W ρ Γ w) w X := fun a v hx => by
 obtain ⟨h1,h2,_⟩ := hX a v hx
 refine ⟨Nat.lt_of_lt_of_le h1 h.fr.size,fun hm => ?_,hX.cell h.fr hx⟩
 rcases lb_pm h hm with h5 | h5
 ·omega
 ·exact h2 h5
theorem St.unbase {ρ' : Env} {Kn' : Nat → Prop} {Γ' : HP} {w' : World} (h : St bor W ρ Kn Γ w) (h' : St (lb bor W ρ Γ w) w ρ' Kn' Γ' w') : St bor W ρ' Kn' Γ' w' := by
 have hs := h.fr.size
 have own : ∀ b,lb bor W ρ Γ w b → W.heap.size ≤ b ∨ bor b := fun b hb => lb_pm h hb
 have pm : ∀ b,pmB (lb bor W ρ Γ w) w b → pmB bor W b := fun b hb => by
  rcases hb with h1 | h1 | h1
  ·exact .inl (by omega)
  ·exact (own b h1).imp_right .inl
  ·exact h1
 refine ⟨⟨h'.fr.os.trans h.fr.os,h'.fr.tape.trans h.fr.tape,h'.fr.output.trans h.fr.output,Nat.le_trans hs h'.fr.size,fun k hk hn => ?_,Nat.le_trans h.fr.drw h'.fr.drw⟩,fun n o ho => ?_,h'.kn,h'.injH,fun n b hn hb => (h'.ownH n b hn hb).elim (fun h1 => .inl (by omega)) (own b),h'.hid,h'.noe⟩
 ·rw [h'.fr.block k (by omega) fun hm => (own k hm).elim (fun h => by omega) hn]
  exact h.fr.block k hk hn
 ·exact objAt_keep (Kn := Kn') (h'.at_ n o ho) (fun _ _ => rfl) (h'.kn n o ho).1 (h'.kn n o ho).2 (fun _ hb => ⟨hb,rfl⟩) (fun b _ h2 => pm b h2) fun _ _ => rfl
theorem St.put {l : Nat} {o : Obj} {Γ' : HP} (h : St bor W ρ Kn Γ w) (hl : W.heap.size ≤ l ∨ bor l) (hc : ¬ cellsB w l) (hs : ∀ m p,Γ' m = some p → ((ρ m).blk = some l → ∀ fz pm,objAt fz pm ρ m p (w.putObj l o)) ∧ ((ρ m).blk ≠ some l → Γ m = some p) ∧ (Γ m).isSome = true ∧ Kn m ∧ p.ok Kn) :
  St bor W ρ Kn Γ' (w.putObj l o) := by
 have hsome : ∀ n,(Γ' n).isSome = true → (Γ n).isSome = true := fun n hn => by
  obtain ⟨p,hp⟩ := Option.isSome_iff_exists.1 hn
  exact (hs n p hp).2.2.1
 have hHI : ∀ b,HI Γ' b → HI Γ b := fun b ⟨m,S,h1,h2⟩ => by
  refine ⟨m,S,(hs m _ h1).2.1 fun e => ?_,h2⟩
  have := (hs m _ h1).1 e (fun _ => True) (fun _ => True)
  rw [show (ρ m).blk = Option.none from this] at e; cases e
 have hfz : ∀ b,fzB ρ Γ w b → fzB ρ Γ' (w.putObj l o) b ∧ (w.putObj l o).heap[b]? = w.heap[b]? := fun b hb => by
  have hne : b ≠ l := by rintro rfl; exact hc hb.1
  have e : (w.putObj l o).heap[b]? = w.heap[b]? := World.putObj_heap_other hne
  refine ⟨⟨hb.1.same e,?_⟩,e⟩
  rintro (⟨m,h1,h2⟩ | ⟨m,S,h1,h2⟩)
  ·exact hb.2 (.inl ⟨m,hsome m h1,h2⟩)
  ·exact hb.2 (.inr (hHI b ⟨m,S,h1,h2⟩))
 refine ⟨⟨h.fr.os,h.fr.tape,h.fr.output,by rw [World.putObj_size]; exact h.fr.size,fun k hk hn => ?_,h.fr.drw⟩,fun n p hp => ?_,fun n p hp => (hs n p hp).2.2.2,fun n m b hn hm => h.injH n m b (hsome n hn) (hsome m hm),fun n b hn => h.ownH n b (hsome n hn),fun b hh => ?_,fun n p hp => ?_⟩
 rotate_right
 ·by_cases e : (ρ n).blk = some l
  ·obtain ⟨p0,hp0⟩ := Option.isSome_iff_exists.1 (hs n p hp).2.2.1
   rcases h.noe n p0 hp0 with ⟨g,rfl⟩ | he
   ·rw [(h.at_ n _ hp0).1] at e; cases e
   ·exact .inr he
  ·exact h.noe n p ((hs n p hp).2.1 e)
 rotate_right
 ·obtain ⟨h3,h4⟩ := h.hid b (hHI b hh)
  exact ⟨by rw [World.putObj_size]; exact h3,fun ⟨n,h5,h6⟩ => h4 ⟨n,hsome n h5,h6⟩⟩
 ·rw [World.putObj_heap_other (by rintro rfl; exact hl.elim (fun h => by omega) hn)]
  exact h.fr.block k hk hn
 ·obtain ⟨h1,h2,_,h4,h5⟩ := hs n p hp
  by_cases e : (ρ n).blk = some l
  ·exact h1 e _ _
  ·exact objAt_keep (Kn := Kn) (h.at_ n p (h2 e)) (fun _ _ => rfl) h4 h5 hfz (fun _ _ h => h) fun b hb => World.putObj_heap_other (by rintro rfl; exact (h.hasC n _ (by rw [h2 e]; rfl) hb).elim e hc)
end

def markD (D:Nat) : Deferred := { target := .collected D,args := #[] }
structure AtD (bor : Bor) (W : World) (ds : List Nat) (st : AS) (ρ : Env) (a : Act) (w : World) : Prop where
 nd : ds.Nodup
 dd : ∀ D ∈ ds,W.heap.size ≤ D ∧ w.heap[D]? = some (.deferred (some []))
 at' : AtS bor W (ds.map markD) st ρ a w
def AtM (bor : Bor) (W : World) (st : AS) (ρ : Env) (a : Act) (w : World) : Prop := ∃ ds,AtD bor W ds st ρ a w
section
variable {bor : Bor} {W : World} {ds : List Nat} {st : AS} {ρ : Env} {a : Act} {w : World}
theorem AtD.base (h : AtD bor W ds st ρ a w) : AtS (lb bor W ρ (liveAt st.heap) w) w (ds.map markD) st ρ a w :=
 ⟨h.at'.tmps,h.at'.size,h.at'.defers,h.at'.kn,h.at'.st.rebase fun m o ho => ⟨liveAt_lt ho,(h.at'.st.kn m o ho).2⟩⟩
theorem AtD.back {st' : AS} {ρ' : Env} {a' : Act} {w' : World} (h : AtD bor W ds st ρ a w) (h' : AtS (lb bor W ρ (liveAt st.heap) w) w (ds.map markD) st' ρ' a' w') : AtD bor W ds st' ρ' a' w' := by
 refine ⟨h.nd,fun D hD => ⟨(h.dd D hD).1,?_⟩,⟨h'.tmps,h'.size,h'.defers,h'.kn,h.at'.st.unbase h'.st⟩⟩
 have h1 := (h.dd D hD).2
 rw [h'.st.fr.block D (Array.getElem?_eq_some_iff.1 h1).1 (lb_kind h.at'.st h1)]
 exact h1
theorem AtM.weak (h : AtM bor W st ρ a w) {st' : AS} (hw : Weak st st') : ∃ ρ',AtM bor W st' ρ' a w := by
 obtain ⟨ds,h⟩ := h
 obtain ⟨ρ',h'⟩ := h.at'.weak hw
 exact ⟨ρ',ds,h.nd,h.dd,h'⟩
theorem AtM.eval (h : AtM bor W st ρ a w) (x : Operand) (hx : evalE st.tmps x ≠ .dead) : a.eval x = (evalE st.tmps x).conc ρ := by
 obtain ⟨ds,h⟩ := h
 exact h.at'.eval x hx
end

def Post (bor : Bor) (W : World) (K : Exit → AS → Prop) : Exit → Act → World → Prop :=
 fun e a w => ∃ st ρ,K e st ∧ AtM bor W st ρ a w

def LpOk (P : Program) (ctx : Ctx) : Code → Prop
 | .seq a b => LpOk P ctx a ∧ LpOk P ctx b
 | .cond _ a b => LpOk P ctx a ∧ LpOk P ctx b
 | .loop c => LpOk P ctx c
 | .rangeFunc _ _ a b => LpOk P ctx a ∧ LpOk P ctx b
 | .block id c => match lookN ctx.lp id with
  | none => LpOk P ctx c
  | some sp => ∀ bor W ro n,XOk bor W ctx.X → (ro = none ∨ noRF c = true) → ∀ st K,sp st K → ∀ ρ a w,AtM bor W st ρ a w → (Code.block id c).wpIn (fw ro) n P (Post bor W K) a w
 | _ => True

section
variable {P : Program} {ctx : Ctx} {bor : Bor} {W : World}

theorem block_ok {ro : Option Nat} {n id : Nat} {c : Code} {K : Exit → AS → Prop} {a : Act} {w : World} (h : c.wpIn (fw ro) n P (Post bor W (wrapB id K)) a w) : (Code.block id c).wpIn (fw ro) n P (Post bor W K) a w := by
 refine wpIn_block (wpIn_mono h ?_)
 rintro e a' w' ⟨st',ρ',hk,hat'⟩
 cases e with
 | exit id' =>
  simp only [Exit.inBlock]
  simp only [wrapB] at hk
  split at hk
  ·rename_i e; rw [if_pos e]; exact ⟨st',ρ',hk,hat'⟩
  ·rename_i e; rw [if_neg e]; exact ⟨st',ρ',hk,hat'⟩
 | _ => exact ⟨st',ρ',hk,hat'⟩

def orWeak (K : Exit → AS → Prop) (e : Exit) (st : AS) : Prop := ∃ st',Weak st st' ∧ K e st'
theorem post_weak {K : Exit → AS → Prop} {e : Exit} {a : Act} {w : World} (h : Post bor W (orWeak K) e a w) : Post bor W K e a w := by
 obtain ⟨st,ρ,⟨st',hw,hk⟩,hat⟩ := h
 obtain ⟨ρ',hat'⟩ := hat.weak hw
 exact ⟨st',ρ',hk,hat'⟩

theorem isRdy_spec {o : Option AObj} {r : Loop} {K : Prop} (h : isRdy o r K) : o = some (.loop r .ready none) ∧ K := by
 unfold isRdy at h
 split at h
 ·obtain ⟨rfl,h⟩ := h; exact ⟨rfl,h⟩
 ·exact h.elim
theorem isBusy_spec {o : Option AObj} {r : Loop} {K : Prop} (h : isBusy o r K) : o = some (.loop r .busy none) ∧ K := by
 unfold isBusy at h
 split at h
 ·obtain ⟨rfl,h⟩ := h; exact ⟨rfl,h⟩
 ·exact h.elim
theorem setPs_length : ∀ (ts : List Nat) (l vs : List AV),(setPs l ts vs).length = l.length
 | [],l,vs => by cases vs <;> rfl
 | t :: ts,l,[] => rfl
 | t :: ts,l,v :: vs => by simp [setPs,setPs_length ts]
theorem setPs_spec (ρ : Env) : ∀ (ts : List Nat) (l vs : List AV) (tm : Array Value),tm.size = l.length → (∀ t,nthD l t ≠ .dead → tm.getD t undef = (nthD l t).conc ρ) →
  ((ts.zip (vs.map (AV.conc ρ))).foldl (fun (t : Array Value) p => t.setIfInBounds p.1 p.2) tm).size = l.length ∧
  ∀ t,nthD (setPs l ts vs) t ≠ .dead → ((ts.zip (vs.map (AV.conc ρ))).foldl (fun (t : Array Value) p => t.setIfInBounds p.1 p.2) tm).getD t undef = (nthD (setPs l ts vs) t).conc ρ
 | [],l,vs,tm,hs,h => by cases vs <;> exact ⟨hs,h⟩
 | t :: ts,l,[],tm,hs,h => ⟨hs,h⟩
 | t :: ts,l,v :: vs,tm,hs,h => by
  simp only [setPs,List.map_cons,List.zip_cons_cons,List.foldl_cons]
  have := setPs_spec ρ ts (l.set t v) vs (tm.setIfInBounds t (v.conc ρ)) (by simp [hs]) (fun u hu => by
   rw [nthD_set] at hu ⊢
   simp only [Array.getD_eq_getD_getElem?,Array.getElem?_setIfInBounds]
   by_cases e : t = u
   ·subst e
    by_cases h2 : t < l.length
    ·simp [hs,h2]
    ·have h0 := h t (by simpa [h2] using hu)
     simp only [h2,and_false,if_false]
     rw [← h0]
     simp [hs,h2,Array.getD_eq_getD_getElem?]
   ·have h0 := h u (by simpa [Ne.symm e] using hu)
    rw [if_neg e,if_neg (by rintro ⟨rfl,_⟩; exact e rfl),← h0,Array.getD_eq_getD_getElem?])
  simpa using this
theorem setPs_ok {Kn : Nat → Prop} : ∀ (ts : List Nat) (l vs : List AV),(∀ t,(nthD l t).ok Kn) → (∀ v ∈ vs,v.ok Kn) → ∀ t,(nthD (setPs l ts vs) t).ok Kn
 | [],l,vs,h,_ => by cases vs <;> exact h
 | t :: ts,l,[],h,_ => h
 | t :: ts,l,v :: vs,h,hv => setPs_ok ts (l.set t v) vs (fun u => by
   rw [nthD_set]; split
   ·exact hv v (by simp)
   ·exact h u) fun x hx => hv x (by simp [hx])
theorem foldl_arr (ps : Array Nat) (vs : List Value) (tm : Array Value) : (ps.zip vs.toArray).foldl (fun (t : Array Value) (p : Nat × Value) => t.setIfInBounds p.1 p.2) tm = (ps.toList.zip vs).foldl (fun t p => t.setIfInBounds p.1 p.2) tm := by
 rw [← Array.foldl_toList]; simp

end
end Go.Ev
