/- Functions that write rows which they are handed. -/
import Derived.Test.YtleemdeodmdnkaaEvR
noncomputable section
set_option linter.unusedSectionVars false
set_option linter.unusedVariables false
set_option linter.unusedSimpArgs false
namespace Go.Ev
open Go.RowKit

inductive WPar
 | val (p : Par)
 | row (t : Ty)
 | ptr (t : Ty) (e : TypeId)
 | pair (a b : WPar)
@[reducible] def WPar.ty : WPar → Ty
 | .val p => p.ty
 | .row t => .sl t
 | .ptr t _ => t
 | .pair a b => .prod a.ty b.ty
@[reducible] def WPar.out : WPar → Ty
 | .val _ => .bool
 | .row t => .sl t
 | .ptr t _ => t
 | .pair a b => .prod a.out b.out
structure WRec where
 n : Nat
 rk : Nat
 m : Nat
 a : AObj
 b : AObj
 c : AObj
 d : AObj
structure FnW where
 p : WPar
 r : Par
 pre : p.ty.T → Prop
 f : p.ty.T → r.ty.T × p.out.T
def wwr (R : List WRec) : List (Nat × AObj) := R.map fun r => (r.n,r.d)
theorem St.beginV {bor : Bor} {W : World} {ρ : Env} {Kn : Nat → Prop} {Γ : HP} {w : World} (h : St bor W ρ Kn Γ w) {os : List AObj} {xs : List Loc} {R : List WRec} (hl : xs.length = os.length)
  (hR : ∀ q ∈ R,Γ q.n = some q.b ∧ ((∀ S,q.a ≠ .hide S) ∧ q.a.ok (· < os.length)) ∧ ((∃ m,q.a = .set m) ∨ (ρ q.n).ents = []))
  (hA : ∀ q ∈ R,xs.getD q.m {} = ρ q.n → ∀ fz pm,objAt fz pm (fun n => xs.getD n {}) q.m q.a w)
  (hn : ∀ q ∈ R,∀ q' ∈ R,q.n = q'.n → q.m = q'.m)
  (hx : ∀ i o,os[i]? = some o → ∃ y,xs[i]? = some y ∧ (goodRowO (fun b => cellsB w b ∧ ∀ q ∈ R,¬ (ρ q.n).has b) w o y ∨ ∃ q ∈ R,q.m = i ∧ o = q.a ∧ y = ρ q.n)) :
  St { wr := fun b => ∃ q ∈ R,(ρ q.n).has b } w (fun n => xs.getD n {}) (· < (os ++ [AObj.pin (fun n => xs.getD n {}) os.length]).length) (liveAt (os ++ [AObj.pin (fun n => xs.getD n {}) os.length])) w := by
 obtain ⟨ρ0,hρ0⟩ : ∃ ρ0 : Env,ρ0 = fun n => xs.getD n {} := ⟨_,rfl⟩
 rw [← hρ0]
 have hget : ∀ i y,xs[i]? = some y → ρ0 i = y := fun i y hy => by rw [hρ0]; simp [hy]
 have hpin : (ρ0 os.length).blk = Option.none ∧ (ρ0 os.length).ents = [] := by rw [hρ0]; simp [List.getElem?_eq_none (show xs.length ≤ os.length by omega)]
 have hcase : ∀ n o,liveAt (os ++ [AObj.pin ρ0 os.length]) n = some o → (n < os.length ∧ (goodRowO (fun b => cellsB w b ∧ ∀ q ∈ R,¬ (ρ q.n).has b) w o (ρ0 n) ∨ ∃ q ∈ R,q.m = n ∧ o = q.a ∧ ρ0 n = ρ q.n)) ∨ (n = os.length ∧ o = .pin ρ0 os.length) := fun n o ho => by
  have h1 := liveAt_some ho
  rcases Nat.lt_or_ge n os.length with h2 | h2
  ·rw [List.getElem?_append_left h2] at h1
   obtain ⟨y,h3,h4⟩ := hx n o h1
   rw [hget n y h3]
   exact .inl ⟨h2,h4⟩
  ·rw [List.getElem?_append_right h2] at h1
   have : n - os.length = 0 := by
    rcases Nat.eq_zero_or_pos (n - os.length) with h3 | h3
    ·exact h3
    ·rw [List.getElem?_eq_none (by simp; omega)] at h1; cases h1
   rw [this] at h1
   simp only [List.getElem?_cons_zero,Option.some.injEq] at h1
   exact .inr ⟨by omega,h1.symm⟩
 have hblk : ∀ n b,(liveAt (os ++ [AObj.pin ρ0 os.length]) n).isSome = true → (ρ0 n).has b → ∃ q ∈ R,q.m = n ∧ ρ0 n = ρ q.n ∧ (ρ q.n).has b := fun n b hn' hb => by
  obtain ⟨o,ho⟩ := Option.isSome_iff_exists.1 hn'
  rcases hcase n o ho with ⟨_,h1 | ⟨q,h1,h2,_,h3⟩⟩ | ⟨rfl,_⟩
  ·obtain ⟨u,l,rfl⟩ := goodRowO_row h1
   exact (noHas h1.2.1 hb).elim
  ·exact ⟨q,h1,h2,h3,by rw [← h3]; exact hb⟩
  ·exact (noHas hpin hb).elim
 have hnoHI : ∀ b,¬ HI (liveAt (os ++ [AObj.pin ρ0 os.length])) b := fun b ⟨m,S,h1,_⟩ => by
  rcases hcase m _ h1 with ⟨_,h2 | ⟨q,hq,_,e,_⟩⟩ | ⟨_,e⟩
  ·obtain ⟨u,l,e⟩ := goodRowO_row h2; cases e
  ·exact (hR q hq).2.1.1 S e.symm
  ·cases e
 have hfz : ∀ b,(cellsB w b ∧ ∀ q ∈ R,¬ (ρ q.n).has b) → fzB ρ0 (liveAt (os ++ [AObj.pin ρ0 os.length])) w b := fun b hb => ⟨hb.1,by
  rintro (⟨m,h1,h2⟩ | h1)
  ·obtain ⟨q,h3,_,_,h4⟩ := hblk m b h1 h2
   exact hb.2 q h3 h4
  ·exact hnoHI b h1⟩
 refine ⟨Fr.refl _ _,fun n o ho => ?_,fun n o ho => ?_,fun n m b hn1 hm1 hb1 hb2 => ?_,fun n b hn1 hb1 => ?_,fun b hb => absurd hb (hnoHI b),fun n o ho => ?_⟩
 rotate_right
 ·rcases hcase n o ho with ⟨_,h1 | ⟨q,h1,h2,h3,h4⟩⟩ | ⟨rfl,rfl⟩
  ·obtain ⟨u,l,rfl⟩ := goodRowO_row h1
   exact .inr h1.2.1.2
  ·rw [h4,h3]
   exact (hR q h1).2.2
  ·exact .inr hpin.2
 ·rcases hcase n o ho with ⟨_,h1 | ⟨q,h1,h2,h3,h4⟩⟩ | ⟨rfl,rfl⟩
  ·obtain ⟨u,l,rfl⟩ := goodRowO_row h1
   obtain ⟨_,g1,g2,g3,g4,vals,g5,g6⟩ := h1
   obtain ⟨e1,e2⟩ := subOf_vals g5
   refine ⟨g2,g3,g4,subOf vals,fun i v hv => ?_,fun q u' l' hq => ?_,fun _ => g1.1,fun h => absurd rfl h⟩
   ·rw [e1] at hv
    obtain ⟨a,k1,k2,k3⟩ := g6 i v hv
    exact ⟨a,k1,k2,fun _ => hfz _ k3⟩
   ·exact (e2 q u' l' hq).weak fun b hb => ⟨hfz b hb,fun h => by cases h⟩
  ·subst h3
   subst h2
   have e := hA q h1 (by rw [hρ0] at h4; exact h4)
   rw [← hρ0] at e
   exact e _ _
  ·exact ⟨hpin.1,fun m _ => rfl⟩
 ·rcases hcase n o ho with ⟨h0,h1 | ⟨q,h1,h2,h3,h4⟩⟩ | ⟨rfl,rfl⟩
  ·obtain ⟨u,l,rfl⟩ := goodRowO_row h1
   exact ⟨by simp; omega,trivial⟩
  ·subst h3
   exact ⟨by simp; omega,AObj.ok_mono (fun m hm => by simp; omega) _ (hR q h1).2.1.2⟩
  ·exact ⟨by simp,fun m hm => by simp; omega⟩
 ·obtain ⟨q,q1,q2,_,q3⟩ := hblk n b hn1 hb1
  obtain ⟨q',q1',q2',_,q3'⟩ := hblk m b hm1 hb2
  have := h.injH q.n q'.n b (by rw [(hR q q1).1]; rfl) (by rw [(hR q' q1').1]; rfl) q3 q3'
  rw [← q2,← q2']
  exact hn q q1 q' q1' this
 ·obtain ⟨q,q1,_,_,q3⟩ := hblk n b hn1 hb1
  exact .inr ⟨q,q1,q3⟩

theorem lastW_wwr {R : List WRec} {m : Nat} {o : AObj} (h : lastW (wwr R) m = some o) : ∃ q ∈ R,q.n = m ∧ o = q.d := by
 induction R with
 | nil => cases h
 | cons q r ih =>
  simp only [wwr,List.map_cons,lastW] at h
  split at h
  ·rename_i p hp
   cases h
   obtain ⟨q',h1,h2⟩ := ih hp
   exact ⟨q',by simp [h1],h2⟩
  ·split at h
   ·rename_i e; cases h; exact ⟨q,by simp,e,rfl⟩
   ·cases h
theorem lastW_mem {R : List WRec} {q : WRec} (h : q ∈ R) : ∃ o,lastW (wwr R) q.n = some o := by
 induction R with
 | nil => cases h
 | cons p r ih =>
  simp only [wwr,List.map_cons,lastW]
  rcases List.mem_cons.1 h with rfl | h
  ·cases e : lastW (List.map (fun r => (r.n,r.d)) r) q.n with
   | some o => exact ⟨o,rfl⟩
   | none => exact ⟨q.d,by simp⟩
  ·obtain ⟨o,ho⟩ := ih h
   have ho : lastW (List.map (fun r => (r.n,r.d)) r) q.n = some o := ho
   rw [ho]; exact ⟨o,rfl⟩
theorem St.growV {bor : Bor} {W : World} {ρ ρ1 : Env} {Kn : Nat → Prop} {Γ : HP} {w w' : World} {nm : Nat} {os : List AObj} {v : AV} {tc : List Nat} {R : List WRec} (h : St bor W ρ Kn Γ w) (hn : ∀ i,i < os.length → ¬ Kn (nm + i)) (hrow : ∀ o ∈ os,∃ u,∃ l : List u.T,o = .row u l 2)
  (hR : ∀ q ∈ R,Γ q.n = some q.b ∧ ((∀ S,q.d ≠ .hide S) ∧ q.d.ok Kn ∧ live q.d = some q.d ∧ live q.c = some q.c) ∧ ((∃ m,q.d = .set m) ∨ (ρ q.n).ents = []))
  (hA : ∀ (i:Nat) (q : WRec),R[i]? = some q → ∀ ρ' : Env,(∀ m,Kn m → ρ' m = ρ m) → objAt (fzB ρ1 (liveAt (os ++ R.map WRec.c)) w') (pmB { wr := fun b => ∃ q ∈ R,(ρ q.n).has b } w) ρ1 (os.length + i) q.c w' → ∀ fz pm,objAt fz pm ρ' q.n q.d w')
  (h1 : St { wr := fun b => ∃ q ∈ R,(ρ q.n).has b } w ρ1 (· < (os ++ R.map WRec.c).length) (liveAt (os ++ R.map WRec.c)) w')
  (h2 : ∀ (i:Nat) (q : WRec),R[i]? = some q → ρ1 (os.length + i) = ρ q.n) :
  ∃ ρ',(∀ m,Kn m → ρ' m = ρ m) ∧ (∀ n,n < os.length → ρ' (n + nm) = ρ1 n) ∧ St bor W ρ' (knR Kn nm { val := v,fresh := os,writes := wwr R,touch := tc }) (appH { val := v,fresh := os,writes := wwr R,touch := tc } nm Γ) w' := by
 let ρ' : Env := fun m => if nm ≤ m ∧ m < nm + os.length then ρ1 (m - nm) else ρ m
 have hold : ∀ m,Kn m → ρ' m = ρ m := fun m hm => by
  simp only [ρ']
  rw [if_neg]
  rintro ⟨h2,h3⟩
  exact hn (m - nm) (by omega) (by rw [show nm + (m - nm) = m by omega]; exact hm)
 have hnew : ∀ n,n < os.length → ρ' (n + nm) = ρ1 n := fun n hn => by
  simp only [ρ']
  rw [if_pos (by omega),show n + nm - nm = n by omega]
 have hosl : ∀ n,n < os.length → liveAt (os ++ R.map WRec.c) n = liveAt os n := fun n hn => by
  unfold liveAt; rw [List.getElem?_append_left hn]
 have hRl : ∀ q ∈ R,∃ i,R[i]? = some q ∧ liveAt (os ++ R.map WRec.c) (os.length + i) = some q.c := fun q hq => by
  obtain ⟨i,hi⟩ := List.mem_iff_getElem?.1 hq
  refine ⟨i,hi,?_⟩
  unfold liveAt
  rw [List.getElem?_append_right (by omega),Nat.add_sub_cancel_left,List.getElem?_map,hi]; exact (hR q hq).2.1.2.2.2
 have hkn : ∀ q ∈ R,Kn q.n := fun q hq => (h.kn q.n _ (hR q hq).1).1
 obtain ⟨r,hr⟩ : ∃ r : Rec,r = { val := v,fresh := os,writes := wwr R,touch := tc } := ⟨_,rfl⟩
 rw [← hr]
 have hΓ : ∀ m o,appH r nm Γ m = some o → (∃ n,m = n + nm ∧ n < os.length ∧ liveAt os n = some o ∧ ∃ u,∃ l : List u.T,o = .row u l 2) ∨ (∃ q ∈ R,m = q.n ∧ o = q.d) ∨ (Γ m = some o ∧ Kn m ∧ ∀ q ∈ R,q.n ≠ m) := by
  intro m o ho
  rw [hr] at ho
  simp only [appH] at ho
  split at ho
  ·rename_i hc
   have hlt : m - nm < os.length := by omega
   refine .inl ⟨m - nm,by omega,hlt,by rw [live_liveAt]; exact ho,?_⟩
   rw [List.getElem?_eq_getElem hlt] at ho
   obtain ⟨u,l,e⟩ := hrow _ (List.getElem_mem hlt)
   rw [e] at ho
   simp only [live,Option.some.injEq] at ho
   exact ⟨u,l,ho.symm⟩
  ·split at ho
   ·rename_i p hp
    obtain ⟨q,q1,q2,rfl⟩ := lastW_wwr hp
    rw [(hR q q1).2.1.2.2.1,Option.some.injEq] at ho
    exact .inr (.inl ⟨q,q1,q2.symm,ho.symm⟩)
   ·rename_i hp
    refine .inr (.inr ⟨ho,(h.kn m o ho).1,fun q hq e => ?_⟩)
    obtain ⟨p,hp'⟩ := lastW_mem hq
    rw [e,hp] at hp'; cases hp'
 have hsome : ∀ m,(∃ n,m = n + nm ∧ n < os.length) ∨ ((appH r nm Γ m).isSome = true → (Γ m).isSome = true ∧ Kn m) := fun m => by
  rcases Decidable.em (nm ≤ m ∧ m < nm + os.length) with hc | hc
  ·exact .inl ⟨m - nm,by omega,by omega⟩
  ·refine .inr fun hs => ?_
   obtain ⟨o,ho⟩ := Option.isSome_iff_exists.1 hs
   rcases hΓ m o ho with ⟨n,e,hlt,_⟩ | ⟨q,q1,rfl,_⟩ | ⟨g,k,_⟩
   ·exact absurd ⟨by omega,by omega⟩ hc
   ·exact ⟨by rw [(hR q q1).1]; rfl,hkn q q1⟩
   ·exact ⟨by rw [g]; rfl,k⟩
 have hf1 : ∀ b,b < w.heap.size → (∀ q ∈ R,¬ (ρ q.n).has b) → w'.heap[b]? = w.heap[b]? := fun b hb hq => h1.fr.block b hb fun ⟨q,q1,q2⟩ => hq q q1 q2
 have hnb : ∀ n b,n < os.length → (liveAt os n).isSome = true → (ρ1 n).has b → w.heap.size ≤ b := fun n b hlt hs hb => by
  rcases h1.ownH n b (by rw [hosl n hlt]; exact hs) hb with h3 | ⟨q,q1,q2⟩
  ·exact h3
  ·exfalso
   obtain ⟨i,hi,hlv⟩ := hRl q q1
   have := h1.injH n (os.length + i) b (by rw [hosl n hlt]; exact hs) (by rw [hlv]; rfl) hb (by rw [h2 i q hi]; exact q2)
   omega
 have hob : ∀ m o b,Γ m = some o → (ρ m).has b → b < w.heap.size := fun m o b ho hb => h.lt m b (by rw [ho]; rfl) hb
 have hLOb : ∀ b,LOb ρ' (appH r nm Γ) b → (w.heap.size ≤ b ∧ ∃ n,n < os.length ∧ (liveAt os n).isSome = true ∧ (ρ1 n).has b) ∨ (b < w.heap.size ∧ LOb ρ Γ b) := by
  rintro b ⟨m,h3,h4⟩
  obtain ⟨o,ho⟩ := Option.isSome_iff_exists.1 h3
  rcases hΓ m o ho with ⟨n,rfl,hn1,hp,_⟩ | ⟨q,q1,rfl,_⟩ | ⟨hg,hk,_⟩
  ·rw [hnew n hn1] at h4
   exact .inl ⟨hnb n b hn1 (by rw [hp]; rfl) h4,n,hn1,by rw [hp]; rfl,h4⟩
  ·rw [hold _ (hkn q q1)] at h4
   exact .inr ⟨hob _ _ b (hR q q1).1 h4,q.n,by rw [(hR q q1).1]; rfl,h4⟩
  ·rw [hold m hk] at h4
   exact .inr ⟨hob m o b hg h4,m,by rw [hg]; rfl,h4⟩
 have hHI : ∀ b,HI (appH r nm Γ) b → HI Γ b := fun b ⟨m,S,h3,h4⟩ => by
  rcases hΓ m _ h3 with ⟨n,_,_,_,u,l,e⟩ | ⟨q,hq,_,e⟩ | ⟨hg,hk,_⟩
  ·cases e
  ·exact absurd e.symm ((hR q hq).2.1.1 S)
  ·exact ⟨m,S,hg,h4⟩
 have hnw : ∀ b,fzB ρ Γ w b → ∀ q ∈ R,¬ (ρ q.n).has b := fun b hb q hq e => hb.2 (.inl ⟨q.n,by rw [(hR q hq).1]; rfl,e⟩)
 have hsz := h.fr.size
 have hsz1 := h1.fr.size
 have hfz : ∀ b,fzB ρ Γ w b → fzB ρ' (appH r nm Γ) w' b ∧ w'.heap[b]? = w.heap[b]? := fun b hb => by
  have hlt := hb.1.lt
  have e := hf1 b hlt (hnw b hb)
  refine ⟨⟨hb.1.same e,?_⟩,e⟩
  rintro (hl | hl)
  ·rcases hLOb b hl with ⟨h3,_⟩ | ⟨_,h3⟩
   ·omega
   ·exact hb.2 (.inl h3)
  ·exact hb.2 (.inr (hHI b hl))
 have hfz1 : ∀ b,fzB ρ1 (liveAt (os ++ R.map WRec.c)) w' b → pmB { wr := fun b => ∃ q ∈ R,(ρ q.n).has b } w b → fzB ρ' (appH r nm Γ) w' b ∧ pmB bor W b := fun b hb hp => by
  have hge : w.heap.size ≤ b := by
   rcases hp with h3 | ⟨q,q1,q2⟩ | h3
   ·exact h3
   ·exfalso
    obtain ⟨i,hi,hlv⟩ := hRl q q1
    exact hb.2 (.inl ⟨os.length + i,by rw [hlv]; rfl,by rw [h2 i q hi]; exact q2⟩)
   ·exact h3.elim
  refine ⟨⟨hb.1,?_⟩,.inl (by omega)⟩
  rintro (hl | hl)
  ·rcases hLOb b hl with ⟨_,n,n1,n2,n3⟩ | ⟨h3,_⟩
   ·exact hb.2 (.inl ⟨n,by rw [hosl n n1]; exact n2,n3⟩)
   ·omega
  ·have := (h.hid b (hHI b hl)).1
   omega
 have hkn1 : ∀ m : Nat,m < os.length → knR Kn nm r (m + nm) := fun m hm => .inr (by rw [hr]; simp only []; omega)
 have hbor : ∀ q ∈ R,∀ b,(ρ q.n).has b → W.heap.size ≤ b ∨ bor b := fun q hq b hb => h.ownH q.n b (by rw [(hR q hq).1]; rfl) hb
 refine ⟨ρ',hold,hnew,⟨?_,fun m o ho => ?_,fun m o ho => ?_,fun m m' b hm hm' hb1 hb2 => ?_,fun m b hm hb => ?_,fun b hh => ?_,fun m o ho => ?_⟩⟩
 rotate_right
 ·rcases hΓ m o ho with ⟨n,rfl,hn1,hp,_⟩ | ⟨q,q1,rfl,rfl⟩ | ⟨hg,hk,_⟩
  ·rw [hnew n hn1]; exact h1.noe n o (by rw [hosl n hn1]; exact hp)
  ·rw [hold _ (hkn q q1)]
   exact (hR q q1).2.2
  ·rw [hold m hk]; exact h.noe m o hg
 rotate_right
 ·obtain ⟨h3,h4⟩ := h.hid b (hHI b hh)
  refine ⟨by omega,fun h5 => ?_⟩
  rcases hLOb b h5 with ⟨h6,_⟩ | ⟨_,h6⟩
  ·omega
  ·exact h4 h6
 ·refine ⟨h1.fr.os.trans h.fr.os,h1.fr.tape.trans h.fr.tape,h1.fr.output.trans h.fr.output,Nat.le_trans hsz hsz1,fun k hk hnb' => ?_,Nat.le_trans h.fr.drw h1.fr.drw⟩
  rw [h1.fr.block k (by omega) fun ⟨q,q1,q2⟩ => ?_]
  ·exact h.fr.block k hk hnb'
  ·rcases hbor q q1 k q2 with h3 | h3
   ·omega
   ·exact hnb' h3
 ·rcases hΓ m o ho with ⟨n,rfl,hn1,hp,u,l,rfl⟩ | ⟨q,q1,rfl,rfl⟩ | ⟨hg,hk,hne⟩
  ·obtain ⟨g1,g2,g3,sub,g4,g5,g6,g7⟩ := h1.at_ n _ (by rw [hosl n hn1]; exact hp)
   rw [objAt,hnew n hn1]
   exact ⟨g1,g2,g3,sub,fun i x hi => by
    obtain ⟨a,e1,e2,_⟩ := g4 i x hi
    exact ⟨a,e1,e2,fun h => by cases h⟩,fun q u' l' hq => (g5 q u' l' hq).weak fun b hb => by
     obtain ⟨e1,e2⟩ := hfz1 b hb.1 (hb.2 rfl).1
     exact ⟨e1,fun _ => ⟨e2,(hb.2 rfl).2⟩⟩,g6,g7⟩
  ·obtain ⟨i,hi,hlv⟩ := hRl q q1
   exact hA i q hi ρ' hold (h1.at_ _ _ hlv) _ _
  ·refine objAt_keep (Kn := Kn) (h.at_ m o hg) hold hk (h.kn m o hg).2 hfz (fun _ _ h => h) fun b hb => hf1 b (hob m o b hg hb) fun q hq e => ?_
   exact hne q hq (h.injH q.n m b (by rw [(hR q hq).1]; rfl) (by rw [hg]; rfl) e hb)
 ·rcases hΓ m o ho with ⟨n,rfl,hn1,hp,u,l,rfl⟩ | ⟨q,q1,rfl,rfl⟩ | ⟨hg,hk,_⟩
  ·exact ⟨hkn1 n hn1,trivial⟩
  ·exact ⟨.inl (hkn q q1),AObj.ok_mono (fun _ => .inl) _ (hR q q1).2.1.2.1⟩
  ·exact ⟨.inl hk,AObj.ok_mono (fun _ => .inl) o (h.kn m o hg).2⟩
 ·have hcl : ∀ m b,(appH r nm Γ m).isSome = true → (ρ' m).has b → (∃ n,m = n + nm ∧ n < os.length ∧ (liveAt os n).isSome = true ∧ (ρ1 n).has b ∧ w.heap.size ≤ b) ∨ ((Γ m).isSome = true ∧ (ρ m).has b ∧ b < w.heap.size) := fun m b hm hb => by
   obtain ⟨o,ho⟩ := Option.isSome_iff_exists.1 hm
   rcases hΓ m o ho with ⟨n,rfl,hn1,hp,_⟩ | ⟨q,q1,rfl,_⟩ | ⟨hg,hk,_⟩
   ·rw [hnew n hn1] at hb
    exact .inl ⟨n,rfl,hn1,by rw [hp]; rfl,hb,hnb n b hn1 (by rw [hp]; rfl) hb⟩
   ·rw [hold _ (hkn q q1)] at hb
    exact .inr ⟨by rw [(hR q q1).1]; rfl,hb,hob _ _ b (hR q q1).1 hb⟩
   ·rw [hold m hk] at hb
    exact .inr ⟨by rw [hg]; rfl,hb,hob m o b hg hb⟩
  rcases hcl m b hm hb1 with ⟨n,rfl,n1,n2,n3,n4⟩ | ⟨n1,n2,n3⟩
  ·rcases hcl m' b hm' hb2 with ⟨n',rfl,n1',n2',n3',n4'⟩ | ⟨n1',n2',n3'⟩
   ·rw [h1.injH n n' b (by rw [hosl n n1]; exact n2) (by rw [hosl n' n1']; exact n2') n3 n3']
   ·omega
  ·rcases hcl m' b hm' hb2 with ⟨n',rfl,n1',n2',n3',n4'⟩ | ⟨n1',n2',n3'⟩
   ·omega
   ·exact h.injH m m' b n1 n1' n2 n2'
 ·obtain ⟨o,ho⟩ := Option.isSome_iff_exists.1 hm
  rcases hΓ m o ho with ⟨n,rfl,hn1,hp,_⟩ | ⟨q,q1,rfl,_⟩ | ⟨hg,hk,_⟩
  ·rw [hnew n hn1] at hb
   have := hnb n b hn1 (by rw [hp]; rfl) hb
   exact .inl (by omega)
  ·rw [hold _ (hkn q q1)] at hb
   exact hbor q q1 b hb
  ·rw [hold m hk] at hb
   exact h.ownH m b (by rw [hg]; rfl) hb
end Go.Ev
