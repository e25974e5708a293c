/- A function that calls itself through a variable, and makes a row longer which another variable holds. -/
import Derived.Test.YtaipcbdilkcdbaaEvT
noncomputable section
set_option linter.unusedSectionVars false
set_option linter.unusedVariables false
set_option linter.unusedSimpArgs false
namespace Go.Ev
open Go.RowKit

structure OPar where
 tb : Ty
 tv : Ty
 f : FuncId
 eT : TypeId
 eF : TypeId
 eG : TypeId
@[reducible] def OPar.ty (d : OPar) : Ty := .prod (.sl (.int .i64)) (.prod (.sl d.tv) (.sl d.tb))
structure FnO where
 p : OPar
 pre : p.ty.T → Prop
 f : p.ty.T → List p.tb.T
def clG (f : FuncId) (a b c:Nat) : Cell := .clo (.func f) [] [.loc a 0,.loc b 0,.loc c 0]
def argsO (d : OPar) (x : d.ty.T) : List AV := [.v (.one (.full 0)),.v (.one (.ptr 1 0)),.v (.one (.ptr 3 0)),.v (.one (.ptr 5 0))]
def heapO (d : OPar) (x : d.ty.T) (ρ : Env) : List AObj := [.row (.int .i64) x.1 0,.cells [.full 2] d.eT,.row d.tb x.2.2 2,.cells [.full 4] d.eF,.row d.tv x.2.1 0,.cells [clG d.f 1 3 5] d.eG,.pin ρ 6]
def slotE (hp : HP) (t : Ty) : Cell → Option (List t.T × List Nat)
 | .full r => match hp r with
  | some (.row u l rk) => if rk = 2 then (match castL u t l with
   | some l' => some (l',[r])
   | none => none) else none
  | _ => none
 | .raw (.slice none 0 0) => some ([],[])
 | _ => none
def isSelf (c : Cell) (f : FuncId) (a b d:Nat) : Bool := match c with
 | .clo (.func g) [] [.loc a' 0,.loc b' 0,.loc d' 0] => decide (g = f) && decide (a' = a) && decide (b' = b) && decide (d' = d)
 | _ => false
theorem isSelf_spec {c : Cell} {f : FuncId} {a b d : Nat} (h : isSelf c f a b d = true) : c = clG f a b d := by
 unfold isSelf at h
 split at h
 ·simp only [Bool.and_eq_true,decide_eq_true_eq] at h
  obtain ⟨⟨⟨rfl,rfl⟩,rfl⟩,rfl⟩ := h
  rfl
 ·cases h
def fnSpecO (s : FnO) : Spec := fun _ args hp nm k => match args with
 | [a,.v (.one (.ptr nT 0)),.v (.one (.ptr nF 0)),.v (.one (.ptr nG 0))] => match decP hp (.one (.sl (.int .i64))) [a],hp nT,hp nF,hp nG with
  | some (pl,[],tc1,b1),some (.cells [cT] eT),some (.cells [cF] eF),some (.cells [cG] eG) => match slotE hp s.p.tb cT,decP hp (.one (.sl s.p.tv)) [.v (.one cF)] with
   | some (l,rr),some (L,[],tc2,b2) => if decide (eT = s.p.eT) && decide (eF = s.p.eF) && decide (eG = s.p.eG) && isSelf cG s.p.f nT nF nG && nodupL (nT :: nF :: nG :: rr) && disN (tc1 ++ tc2) (nT :: nF :: nG :: rr) then
     ob (b1 && b2) (s.pre (pl,(L,l)) ∧ ∀ y,y = s.f (pl,(L,l)) → k { val := und,fresh := [.row s.p.tb y 2],writes := (nT,.cells [.full nm] s.p.eT) :: rr.map fun r => (r,.gone),touch := (nT :: nF :: nG :: rr) ++ (tc1 ++ tc2) }) else False
   | _,_ => False
  | _,_,_,_ => False
 | _ => False
def retO (d : OPar) (ρ : Env) (Q : List d.tb.T → Prop) (v : AV) (st : AS) : Prop := match v with
 | .tup [] => match liveAt st.heap 1,liveAt st.heap 3,liveAt st.heap 5 with
  | some (.cells [.full m] eT),some (.cells [.full 4] eF),some (.cells [cG] eG) => if decide (eT = d.eT) && decide (eF = d.eF) && decide (eG = d.eG) && isSelf cG d.f 1 3 5 then (match liveAt st.heap m with
   | some (.row u l rk) => if rk = 2 then (match castL u d.tb l with
    | some z => isPin (liveAt st.heap 6) ρ 6 (Q z)
    | none => False) else False
   | _ => False) else False
  | _,_,_ => False
 | _ => False
theorem retO_spec {d : OPar} {ρ : Env} {Q : List d.tb.T → Prop} {v : AV} {st : AS} (h : retO d ρ Q v st) : v = und ∧ ∃ m z,liveAt st.heap 1 = some (.cells [.full m] d.eT) ∧ liveAt st.heap 3 = some (.cells [.full 4] d.eF) ∧ liveAt st.heap 5 = some (.cells [clG d.f 1 3 5] d.eG) ∧ liveAt st.heap m = some (.row d.tb z 2) ∧ liveAt st.heap 6 = some (.pin ρ 6) ∧ Q z := by
 unfold retO at h
 split at h
 rotate_left
 ·exact h.elim
 split at h
 rotate_left
 ·exact h.elim
 rename_i m eT eF cG eG h1 h2 h3
 split at h
 rotate_left
 ·exact h.elim
 rename_i hc
 simp only [Bool.and_eq_true,decide_eq_true_eq] at hc
 obtain ⟨⟨⟨rfl,rfl⟩,rfl⟩,hs⟩ := hc
 split at h
 rotate_left
 ·exact h.elim
 rename_i u l rk hm
 split at h
 rotate_left
 ·exact h.elim
 rename_i hrk
 subst hrk
 split at h
 rotate_left
 ·exact h.elim
 rename_i z hz
 obtain ⟨e1,e2⟩ := castL_eq hz
 subst e1
 dsimp only at e2
 subst e2
 obtain ⟨hp,hQ⟩ := isPin_spec h
 exact ⟨rfl,m,_,h1,h2,by rw [h3,isSelf_spec hs],hm,hp,hQ⟩

def wrO (ρ : Env) (Wn : List Nat) : Nat → Prop := fun b => ∃ n ∈ Wn,(ρ n).blk = some b
def envO (y0 yT yR yF y4 yG : Loc) : Env := fun i => match i with
 | 0 => y0
 | 1 => yT
 | 2 => yR
 | 3 => yF
 | 4 => y4
 | 5 => yG
 | _ => {}
theorem heapO_at {d : OPar} {x : d.ty.T} {ρ : Env} {n : Nat} {o : AObj} (h : liveAt (heapO d x ρ) n = some o) :
  (n = 0 ∧ o = .row (.int .i64) x.1 0) ∨ (n = 1 ∧ o = .cells [.full 2] d.eT) ∨ (n = 2 ∧ o = .row d.tb x.2.2 2) ∨ (n = 3 ∧ o = .cells [.full 4] d.eF) ∨ (n = 4 ∧ o = .row d.tv x.2.1 0) ∨ (n = 5 ∧ o = .cells [clG d.f 1 3 5] d.eG) ∨ (n = 6 ∧ o = .pin ρ 6) := by
 have h := liveAt_some h
 match n,h with
 | 0,h => exact .inl ⟨rfl,by cases h; rfl⟩
 | 1,h => exact .inr (.inl ⟨rfl,by cases h; rfl⟩)
 | 2,h => exact .inr (.inr (.inl ⟨rfl,by cases h; rfl⟩))
 | 3,h => exact .inr (.inr (.inr (.inl ⟨rfl,by cases h; rfl⟩)))
 | 4,h => exact .inr (.inr (.inr (.inr (.inl ⟨rfl,by cases h; rfl⟩))))
 | 5,h => exact .inr (.inr (.inr (.inr (.inr (.inl ⟨rfl,by cases h; rfl⟩)))))
 | 6,h => exact .inr (.inr (.inr (.inr (.inr (.inr ⟨rfl,by cases h; rfl⟩)))))
 | n + 7,h => simp [heapO] at h
section
variable {bor : Bor} {W : World} {ρ : Env} {Kn : Nat → Prop} {Γ : HP} {w : World}
theorem goodRowO_at {ok fz pm : Nat → Prop} {ρ0 : Env} {n : Nat} {o : AObj} (h1 : goodRowO ok w o (ρ0 n)) (hok : ∀ b,ok b → fz b) : objAt fz pm ρ0 n o w := by
 obtain ⟨u,l,rfl⟩ := goodRowO_row h1
 obtain ⟨_,g1,g2,g3,g4,vals,g5,g6⟩ := h1
 obtain ⟨e1,e2⟩ := subOf_vals g5
 refine ⟨g2,g3,g4,subOf vals,fun i v hv => ?_,fun q u' l' hq => ?_,fun _ => g1,fun h => absurd rfl h⟩
 ·rw [e1] at hv
  obtain ⟨a,k1,k2,k3⟩ := g6 i v hv
  exact ⟨a,k1,k2,fun _ => hok _ k3⟩
 ·exact (e2 q u' l' hq).weak fun b hb => ⟨hok b hb,fun h => by cases h⟩
theorem St.beginS {d : OPar} {x : d.ty.T} {nT nF nG : Nat} {rr : List Nat} {cT cF : Cell} {y0 y4 yR : Loc} (h : St bor W ρ Kn Γ w)
  (hT : Γ nT = some (.cells [cT] d.eT)) (hF : Γ nF = some (.cells [cF] d.eF)) (hG : Γ nG = some (.cells [clG d.f nT nF nG] d.eG)) (hr : ∀ r ∈ rr,(Γ r).isSome = true) (hnd : (nT :: nF :: nG :: rr).Nodup)
  (h0 : goodRowO (fun b => cellsB w b ∧ ¬ wrO ρ (nT :: nF :: nG :: rr) b) w (.row (.int .i64) x.1 0) y0) (h4 : goodRowO (fun b => cellsB w b ∧ ¬ wrO ρ (nT :: nF :: nG :: rr) b) w (.row d.tv x.2.1 0) y4)
  (hcF : cF.conc ρ = .slice y4.base y4.len y4.cap) (hcT : cT.conc ρ = .slice yR.base yR.len yR.cap)
  (hrow : objAt (fzB ρ Γ w) (pmB bor W) (fun _ => yR) 2 (.row d.tb x.2.2 2) w) (hyb : ∀ b,yR.blk = some b → ∃ r ∈ rr,(ρ r).blk = some b) :
  St { wr := wrO ρ (nT :: nF :: nG :: rr),nw := fun b => fzB ρ Γ w b ∧ pmB bor W b } w (envO y0 (ρ nT) yR (ρ nF) y4 (ρ nG)) (· < 7) (liveAt (heapO d x (envO y0 (ρ nT) yR (ρ nF) y4 (ρ nG)))) w := by
 obtain ⟨ρ0,hρ0⟩ : ∃ ρ0,ρ0 = envO y0 (ρ nT) yR (ρ nF) y4 (ρ nG) := ⟨_,rfl⟩
 rw [← hρ0]
 have e0 : ρ0 0 = y0 := by rw [hρ0]; rfl
 have e1 : ρ0 1 = ρ nT := by rw [hρ0]; rfl
 have e2 : ρ0 2 = yR := by rw [hρ0]; rfl
 have e3 : ρ0 3 = ρ nF := by rw [hρ0]; rfl
 have e4 : ρ0 4 = y4 := by rw [hρ0]; rfl
 have e5 : ρ0 5 = ρ nG := by rw [hρ0]; rfl
 have e6 : (ρ0 6).blk = Option.none := by rw [hρ0]; rfl
 have hWl : ∀ n ∈ (nT :: nF :: nG :: rr),(Γ n).isSome = true := fun n hn => by
  simp only [List.mem_cons] at hn
  rcases hn with rfl | rfl | rfl | hn
  ·rw [hT]; rfl
  ·rw [hF]; rfl
  ·rw [hG]; rfl
  ·exact hr n hn
 have hblk : ∀ n b,(liveAt (heapO d x ρ0) n).isSome = true → (ρ0 n).blk = some b → (n = 1 ∧ (ρ nT).blk = some b) ∨ (n = 2 ∧ ∃ r ∈ rr,(ρ r).blk = some b) ∨ (n = 3 ∧ (ρ nF).blk = some b) ∨ (n = 5 ∧ (ρ nG).blk = some b) := fun n b hs hb => by
  obtain ⟨o,ho⟩ := Option.isSome_iff_exists.1 hs
  rcases heapO_at ho with ⟨rfl,_⟩ | ⟨rfl,_⟩ | ⟨rfl,_⟩ | ⟨rfl,_⟩ | ⟨rfl,_⟩ | ⟨rfl,_⟩ | ⟨rfl,_⟩
  ·rw [e0,h0.2.1] at hb; cases hb
  ·rw [e1] at hb; exact .inl ⟨rfl,hb⟩
  ·rw [e2] at hb; exact .inr (.inl ⟨rfl,hyb b hb⟩)
  ·rw [e3] at hb; exact .inr (.inr (.inl ⟨rfl,hb⟩))
  ·rw [e4,h4.2.1] at hb; cases hb
  ·rw [e5] at hb; exact .inr (.inr (.inr ⟨rfl,hb⟩))
  ·rw [e6] at hb; cases hb
 have hwr : ∀ n b,(liveAt (heapO d x ρ0) n).isSome = true → (ρ0 n).blk = some b → wrO ρ (nT :: nF :: nG :: rr) b := fun n b hs hb => by
  rcases hblk n b hs hb with ⟨_,k⟩ | ⟨_,r,k1,k2⟩ | ⟨_,k⟩ | ⟨_,k⟩
  ·exact ⟨nT,by simp,k⟩
  ·exact ⟨r,by simp [k1],k2⟩
  ·exact ⟨nF,by simp,k⟩
  ·exact ⟨nG,by simp,k⟩
 have hnoHI : ∀ b,¬ HI (liveAt (heapO d x ρ0)) b := fun b ⟨m,S,k,_⟩ => by
  rcases heapO_at k with ⟨_,e⟩ | ⟨_,e⟩ | ⟨_,e⟩ | ⟨_,e⟩ | ⟨_,e⟩ | ⟨_,e⟩ | ⟨_,e⟩ <;> cases e
 have hfz0 : ∀ b,(cellsB w b ∧ ¬ wrO ρ (nT :: nF :: nG :: rr) b) → fzB ρ0 (liveAt (heapO d x ρ0)) w b := fun b hb => ⟨hb.1,by
  rintro (⟨m,k1,k2⟩ | k)
  ·exact hb.2 (hwr m b k1 k2)
  ·exact hnoHI b k⟩
 have hfz : ∀ b,fzB ρ Γ w b → fzB ρ0 (liveAt (heapO d x ρ0)) w b := fun b hb => hfz0 b ⟨hb.1,fun ⟨n,k1,k2⟩ => hb.2 (.inl ⟨n,hWl n k1,k2⟩)⟩
 have cell1 : ∀ {n m : Nat} {c c' : Cell} {e : TypeId},Γ n = some (.cells [c] e) → ρ0 m = ρ n → c'.conc ρ0 = c.conc ρ → objAt (fzB ρ0 (liveAt (heapO d x ρ0)) w) (pmB { wr := wrO ρ (nT :: nF :: nG :: rr),nw := fun b => fzB ρ Γ w b ∧ pmB bor W b } w) ρ0 m (.cells [c'] e) w := fun {n m c c' e} hn hm hc => by
  obtain ⟨b,b1,b2⟩ := h.at_ n _ hn
  exact ⟨b,by rw [hm]; exact b1,by rw [b2]; simp [hc]⟩
 simp only [List.nodup_cons,List.mem_cons,not_or] at hnd
 obtain ⟨⟨d1,d2,d3⟩,⟨d4,d5⟩,d6,_⟩ := hnd
 refine ⟨Fr.refl _ _,fun n o ho => ?_,fun n o ho => ?_,fun n m b hn1 hm1 hb1 hb2 => ?_,fun n b hn1 hb1 => .inr (hwr n b hn1 hb1),fun b hb => absurd hb (hnoHI b)⟩
 ·rcases heapO_at ho with ⟨rfl,rfl⟩ | ⟨rfl,rfl⟩ | ⟨rfl,rfl⟩ | ⟨rfl,rfl⟩ | ⟨rfl,rfl⟩ | ⟨rfl,rfl⟩ | ⟨rfl,rfl⟩
  ·exact goodRowO_at (by rw [e0]; exact h0) hfz0
  ·exact cell1 hT e1 (by rw [hcT]; simp [Cell.conc,e2])
  ·obtain ⟨g1,g2,g3,sub,g4,g5,g6,g7⟩ := hrow
   rw [objAt,e2]
   exact ⟨g1,g2,g3,sub,fun i v hv => by
    obtain ⟨a,k1,k2,_⟩ := g4 i v hv
    exact ⟨a,k1,k2,fun h => by cases h⟩,fun q u' l' hq => (g5 q u' l' hq).weak fun b hb => ⟨hfz b hb.1,fun _ => .inr (.inr ⟨hb.1,hb.2 rfl⟩)⟩,fun h => (by cases h),g7⟩
  ·exact cell1 hF e3 (by rw [hcF]; simp [Cell.conc,e4])
  ·exact goodRowO_at (by rw [e4]; exact h4) hfz0
  ·exact cell1 hG e5 (by simp [clG,Cell.conc,Ref.conc,addrOf,e1,e3,e5])
  ·exact ⟨e6,fun m _ => rfl⟩
 ·rcases heapO_at ho with ⟨rfl,rfl⟩ | ⟨rfl,rfl⟩ | ⟨rfl,rfl⟩ | ⟨rfl,rfl⟩ | ⟨rfl,rfl⟩ | ⟨rfl,rfl⟩ | ⟨rfl,rfl⟩
  ·exact ⟨by decide,trivial⟩
  ·exact ⟨by decide,fun c hc => by simp only [List.mem_singleton] at hc; subst hc; show 2 < 7; decide⟩
  ·exact ⟨by decide,trivial⟩
  ·exact ⟨by decide,fun c hc => by simp only [List.mem_singleton] at hc; subst hc; show 4 < 7; decide⟩
  ·exact ⟨by decide,trivial⟩
  ·refine ⟨by decide,fun c hc => ?_⟩
   simp only [List.mem_singleton] at hc
   subst hc
   intro r hr
   simp only [List.mem_cons,List.not_mem_nil,or_false] at hr
   rcases hr with rfl | rfl | rfl
   ·show 1 < 7; decide
   ·show 3 < 7; decide
   ·show 5 < 7; decide
  ·exact ⟨by decide,fun m hm => by omega⟩
 ·have inj : ∀ n m,(Γ n).isSome = true → (Γ m).isSome = true → (ρ n).blk = some b → (ρ m).blk = some b → n = m := fun n m k1 k2 k3 k4 => h.inj n m b k1 k2 k3 k4
  have kT : (Γ nT).isSome = true := hWl nT (by simp)
  have kF : (Γ nF).isSome = true := hWl nF (by simp)
  have kG : (Γ nG).isSome = true := hWl nG (by simp)
  have hmem : ∀ n r,r ∈ rr → (Γ n).isSome = true → (ρ n).blk = some b → (ρ r).blk = some b → n ∈ rr := fun n r hr' hn k k' => by
   have := inj n r hn (hr r hr') k k'
   rw [this]; exact hr'
  rcases hblk n b hn1 hb1 with ⟨rfl,k⟩ | ⟨rfl,r,k1,k⟩ | ⟨rfl,k⟩ | ⟨rfl,k⟩
  ·rcases hblk m b hm1 hb2 with ⟨rfl,k'⟩ | ⟨rfl,r',k1',k'⟩ | ⟨rfl,k'⟩ | ⟨rfl,k'⟩
   ·rfl
   ·exact absurd (hmem nT r' k1' kT k k') d3
   ·exact absurd (inj _ _ kT kF k k') d1
   ·exact absurd (inj _ _ kT kG k k') d2
  ·rcases hblk m b hm1 hb2 with ⟨rfl,k'⟩ | ⟨rfl,r',k1',k'⟩ | ⟨rfl,k'⟩ | ⟨rfl,k'⟩
   ·exact absurd (hmem nT r k1 kT k' k) d3
   ·rfl
   ·exact absurd (hmem nF r k1 kF k' k) d5
   ·exact absurd (hmem nG r k1 kG k' k) d6
  ·rcases hblk m b hm1 hb2 with ⟨rfl,k'⟩ | ⟨rfl,r',k1',k'⟩ | ⟨rfl,k'⟩ | ⟨rfl,k'⟩
   ·exact absurd (inj _ _ kT kF k' k) d1
   ·exact absurd (hmem nF r' k1' kF k k') d5
   ·rfl
   ·exact absurd (inj _ _ kF kG k k') d4
  ·rcases hblk m b hm1 hb2 with ⟨rfl,k'⟩ | ⟨rfl,r',k1',k'⟩ | ⟨rfl,k'⟩ | ⟨rfl,k'⟩
   ·exact absurd (inj _ _ kT kG k' k) d2
   ·exact absurd (hmem nG r' k1' kG k k') d6
   ·exact absurd (inj _ _ kF kG k' k) d4
   ·rfl
theorem lastW_gones (x:Nat) : ∀ (rr : List Nat),lastW (rr.map fun r => (r,AObj.gone)) x = if x ∈ rr then some .gone else Option.none
 | [] => rfl
 | r :: rr => by
  simp only [List.map_cons,lastW,lastW_gones x rr,List.mem_cons]
  by_cases h : x ∈ rr
  ·simp [h]
  ·by_cases e : r = x
   ·subst e; simp [h]
   ·simp [h,e,Ne.symm e]
theorem appH_slot {nT nm : Nat} {rr : List Nat} {o c : AObj} (ho : live (some o) = some o) (hc : live (some c) = some c) (hnT : nT ∉ rr) {v : AV} {tc : List Nat} {x : Nat} {p : AObj}
  (h : appH { val := v,fresh := [o],writes := (nT,c) :: rr.map fun r => (r,AObj.gone),touch := tc } nm Γ x = some p) : (x = nm ∧ p = o) ∨ (x ≠ nm ∧ x = nT ∧ p = c) ∨ (x ≠ nm ∧ x ≠ nT ∧ x ∉ rr ∧ Γ x = some p) := by
 simp only [appH,List.length_singleton] at h
 split at h
 ·have : x = nm := by omega
  subst this
  rw [Nat.sub_self] at h
  rw [show ([o] : List AObj)[0]? = some o from rfl,ho] at h
  cases h
  exact .inl ⟨rfl,rfl⟩
 ·have hx : x ≠ nm := by omega
  simp only [lastW,lastW_gones] at h
  by_cases hm : x ∈ rr
  ·rw [if_pos hm] at h; cases h
  ·rw [if_neg hm] at h
   by_cases e : nT = x
   ·subst e
    simp only [if_true] at h
    rw [hc] at h
    cases h
    exact .inr (.inl ⟨hx,rfl,rfl⟩)
   ·simp only [if_neg e] at h
    exact .inr (.inr ⟨hx,fun q => e q.symm,hm,h⟩)
theorem St.endS {d : OPar} {nT nF nG : Nat} {rr : List Nat} {cT cF : Cell} {ρ1 : Env} {Kn1 : Nat → Prop} {Γ1 : HP} {w' : World} {nm m : Nat} {z : List d.tb.T} {tc : List Nat} (h : St bor W ρ Kn Γ w)
  (hT : Γ nT = some (.cells [cT] d.eT)) (hF : Γ nF = some (.cells [cF] d.eF)) (hG : Γ nG = some (.cells [clG d.f nT nF nG] d.eG)) (hr : ∀ r ∈ rr,(Γ r).isSome = true) (hnd : (nT :: nF :: nG :: rr).Nodup) (hn : ¬ Kn nm)
  (h1 : St { wr := wrO ρ (nT :: nF :: nG :: rr),nw := fun b => fzB ρ Γ w b ∧ pmB bor W b } w ρ1 Kn1 Γ1 w')
  (k1 : Γ1 1 = some (.cells [.full m] d.eT)) (k3 : Γ1 3 = some (.cells [.full 4] d.eF)) (k5 : Γ1 5 = some (.cells [clG d.f 1 3 5] d.eG)) (km : Γ1 m = some (.row d.tb z 2))
  (e1 : ρ1 1 = ρ nT) (e3 : ρ1 3 = ρ nF) (e5 : ρ1 5 = ρ nG) (e4 : Cell.conc ρ1 (.full 4) = cF.conc ρ) :
  ∃ ρ',(∀ m,Kn m → ρ' m = ρ m) ∧ St bor W ρ' (knR Kn nm { val := und,fresh := [.row d.tb z 2],writes := (nT,.cells [.full nm] d.eT) :: rr.map fun r => (r,AObj.gone),touch := tc }) (appH { val := und,fresh := [.row d.tb z 2],writes := (nT,.cells [.full nm] d.eT) :: rr.map fun r => (r,AObj.gone),touch := tc } nm Γ) w' := by
 obtain ⟨r,hrec⟩ : ∃ r : Rec,r = { val := und,fresh := [.row d.tb z 2],writes := (nT,.cells [.full nm] d.eT) :: rr.map fun r => (r,AObj.gone),touch := tc } := ⟨_,rfl⟩
 rw [← hrec]
 have hnd' := hnd
 simp only [List.nodup_cons,List.mem_cons,not_or] at hnd
 obtain ⟨⟨d1,d2,d3⟩,⟨d4,d5⟩,d6,_⟩ := hnd
 have hWl : ∀ n ∈ (nT :: nF :: nG :: rr),(Γ n).isSome = true := fun n hn => by
  simp only [List.mem_cons] at hn
  rcases hn with rfl | rfl | rfl | hn
  ·rw [hT]; rfl
  ·rw [hF]; rfl
  ·rw [hG]; rfl
  ·exact hr n hn
 have hkn : ∀ n,(Γ n).isSome = true → Kn n := fun n hs => by obtain ⟨o,ho⟩ := Option.isSome_iff_exists.1 hs; exact (h.kn n o ho).1
 have hnm : ∀ n,(Γ n).isSome = true → n ≠ nm := fun n hs e => hn (e ▸ hkn n hs)
 have hold : ∀ x,Kn x → updE ρ nm (ρ1 m) x = ρ x := updE_old hn
 have hself : updE ρ nm (ρ1 m) nm = ρ1 m := by simp [updE]
 have hΓ : ∀ x p,appH r nm Γ x = some p → (x = nm ∧ p = .row d.tb z 2) ∨ (x ≠ nm ∧ x = nT ∧ p = .cells [.full nm] d.eT) ∨ (x ≠ nm ∧ x ≠ nT ∧ x ∉ rr ∧ Γ x = some p) := fun x p hp => by
  rw [hrec] at hp
  exact appH_slot rfl rfl d3 hp
 have hsz := h.fr.size
 have hsz1 := h1.fr.size
 have hlt : ∀ n o b,Γ n = some o → (ρ n).blk = some b → b < w.heap.size := fun n o b ho hb => objAt_lt (h.at_ n o ho) hb
 have hwlt : ∀ b,wrO ρ (nT :: nF :: nG :: rr) b → b < w.heap.size ∧ (W.heap.size ≤ b ∨ bor b) := fun b ⟨n,n1,n2⟩ => by
  obtain ⟨o,ho⟩ := Option.isSome_iff_exists.1 (hWl n n1)
  exact ⟨hlt n o b ho n2,h.own n b (hWl n n1) n2⟩
 have hfw : ∀ b,fzB ρ Γ w b → ¬ wrO ρ (nT :: nF :: nG :: rr) b := fun b hb ⟨n,n1,n2⟩ => hb.2 (.inl ⟨n,hWl n n1,n2⟩)
 have hun : ∀ b,b < w.heap.size → ¬ wrO ρ (nT :: nF :: nG :: rr) b → w'.heap[b]? = w.heap[b]? := fun b hb hq => h1.fr.block b hb hq
 have hmb : ∀ b,(ρ1 m).blk = some b → w.heap.size ≤ b ∨ ∃ q ∈ rr,(ρ q).blk = some b := fun b hb => by
  rcases h1.own m b (by rw [km]; rfl) hb with h2 | ⟨n,n1,n2⟩
  ·exact .inl h2
  ·simp only [List.mem_cons] at n1
   rcases n1 with rfl | rfl | rfl | n1
   ·have := h1.inj m 1 b (by rw [km]; rfl) (by rw [k1]; rfl) hb (by rw [e1]; exact n2)
    rw [this,k1] at km; cases km
   ·have := h1.inj m 3 b (by rw [km]; rfl) (by rw [k3]; rfl) hb (by rw [e3]; exact n2)
    rw [this,k3] at km; cases km
   ·have := h1.inj m 5 b (by rw [km]; rfl) (by rw [k5]; rfl) hb (by rw [e5]; exact n2)
    rw [this,k5] at km; cases km
   ·exact .inr ⟨n,n1,n2⟩
 have hlo : ∀ x b,(appH r nm Γ x).isSome = true → (updE ρ nm (ρ1 m) x).blk = some b → (x = nm ∧ (ρ1 m).blk = some b) ∨ (x ≠ nm ∧ x ∉ rr ∧ (Γ x).isSome = true ∧ (ρ x).blk = some b) := fun x b hs hb => by
  obtain ⟨p,hp⟩ := Option.isSome_iff_exists.1 hs
  rcases hΓ x p hp with ⟨rfl,_⟩ | ⟨h2,rfl,_⟩ | ⟨h2,_,h3,h4⟩
  ·rw [hself] at hb; exact .inl ⟨rfl,hb⟩
  ·rw [hold _ (hkn _ (hWl _ (by simp)))] at hb
   exact .inr ⟨h2,d3,hWl _ (by simp),hb⟩
  ·have hs' : (Γ x).isSome = true := by rw [h4]; rfl
   rw [hold _ (hkn _ hs')] at hb
   exact .inr ⟨h2,h3,hs',hb⟩
 have hHI : ∀ b,HI (appH r nm Γ) b → HI Γ b := fun b ⟨x,S,h2,h3⟩ => by
  rcases hΓ x _ h2 with ⟨_,e⟩ | ⟨_,_,e⟩ | ⟨_,_,_,e⟩
  ·cases e
  ·cases e
  ·exact ⟨x,S,e,h3⟩
 have hfz : ∀ b,fzB ρ Γ w b → fzB (updE ρ nm (ρ1 m)) (appH r nm Γ) w' b ∧ w'.heap[b]? = w.heap[b]? := fun b hb => by
  have e := hun b hb.1.lt (hfw b hb)
  refine ⟨⟨hb.1.same e,?_⟩,e⟩
  rintro (⟨x,h2,h3⟩ | h2)
  ·rcases hlo x b h2 h3 with ⟨_,h4⟩ | ⟨_,_,h4,h5⟩
   ·rcases hmb b h4 with h5 | ⟨q,h5,h6⟩
    ·have := hb.1.lt; omega
    ·exact hb.2 (.inl ⟨q,hr q h5,h6⟩)
   ·exact hb.2 (.inl ⟨x,h4,h5⟩)
  ·exact hb.2 (.inr (hHI b h2))
 have hnest : ∀ b,fzB ρ1 Γ1 w' b → pmB { wr := wrO ρ (nT :: nF :: nG :: rr),nw := fun b => fzB ρ Γ w b ∧ pmB bor W b } w b → fzB (updE ρ nm (ρ1 m)) (appH r nm Γ) w' b ∧ pmB bor W b := fun b hb hp => by
  rcases hp with hp | hp | hp
  ·refine ⟨⟨hb.1,?_⟩,.inl (by omega)⟩
   rintro (⟨x,h2,h3⟩ | h2)
   ·rcases hlo x b h2 h3 with ⟨_,h4⟩ | ⟨_,_,h4,h5⟩
    ·exact hb.2 (.inl ⟨m,by rw [km]; rfl,h4⟩)
    ·obtain ⟨o,ho⟩ := Option.isSome_iff_exists.1 h4
     have := hlt x o b ho h5; omega
   ·have := (h.hid b (hHI b h2)).1; omega
  ·have hp' : wrO ρ (nT :: nF :: nG :: rr) b := hp
   obtain ⟨hl,ho⟩ := hwlt b hp'
   obtain ⟨n,n1,n2⟩ := hp'
   refine ⟨⟨hb.1,?_⟩,ho.imp_right .inl⟩
   simp only [List.mem_cons] at n1
   have hin : n ∈ rr := by
    rcases n1 with rfl | rfl | rfl | n1
    ·exact absurd (.inl ⟨1,by rw [k1]; rfl,by rw [e1]; exact n2⟩) hb.2
    ·exact absurd (.inl ⟨3,by rw [k3]; rfl,by rw [e3]; exact n2⟩) hb.2
    ·exact absurd (.inl ⟨5,by rw [k5]; rfl,by rw [e5]; exact n2⟩) hb.2
    ·exact n1
   rintro (⟨x,h2,h3⟩ | h2)
   ·rcases hlo x b h2 h3 with ⟨_,h4⟩ | ⟨_,h4,h5,h6⟩
    ·exact hb.2 (.inl ⟨m,by rw [km]; rfl,h4⟩)
    ·have := h.inj n x b (hr n hin) h5 n2 h6
     exact h4 (this ▸ hin)
   ·exact (h.hid b (hHI b h2)).2 ⟨n,hr n hin,n2⟩
  ·have hp' : fzB ρ Γ w b ∧ pmB bor W b := hp
   exact ⟨(hfz b hp'.1).1,hp'.2⟩
 have cell1 : ∀ {n q : Nat} {c c' : Cell} {e : TypeId},(Γ n).isSome = true → Γ1 q = some (.cells [c] e) → ρ1 q = ρ n → c'.conc (updE ρ nm (ρ1 m)) = c.conc ρ1 → objAt (fzB (updE ρ nm (ρ1 m)) (appH r nm Γ) w') (pmB bor W) (updE ρ nm (ρ1 m)) n (.cells [c'] e) w' := fun {n q c c' e} hs hq hρ hc => by
  obtain ⟨b,b1,b2⟩ := h1.at_ q _ hq
  exact ⟨b,by rw [hold n (hkn n hs),← hρ]; exact b1,by rw [b2]; simp [hc]⟩
 have kr : knR Kn nm r = knN Kn nm := by
  rw [hrec]
  funext x
  simp only [knR,knN,List.length_singleton]
  congr 1
  apply propext
  omega
 rw [kr]
 refine ⟨updE ρ nm (ρ1 m),hold,⟨?_,fun x p hp => ?_,fun x p hp => ?_,fun x y b hx hy hb1 hb2 => ?_,fun x b hx hb => ?_,fun b hh => ?_⟩⟩
 ·refine ⟨h1.fr.os.trans h.fr.os,h1.fr.tape.trans h.fr.tape,h1.fr.output.trans h.fr.output,Nat.le_trans hsz hsz1,fun k hk hnb => ?_⟩
  rw [hun k (by omega) fun hq => (hwlt k hq).2.elim (fun h => by omega) hnb]
  exact h.fr.block k hk hnb
 ·rcases hΓ x p hp with ⟨rfl,rfl⟩ | ⟨h2,rfl,rfl⟩ | ⟨h2,h3,h4,h5⟩
  ·obtain ⟨g1,g2,g3,sub,g4,g5,g6,g7⟩ := h1.at_ m _ km
   rw [objAt,hself]
   exact ⟨g1,g2,g3,sub,fun i v hv => by
    obtain ⟨a,q1,q2,_⟩ := g4 i v hv
    exact ⟨a,q1,q2,fun h => by cases h⟩,fun q u' l' hq => (g5 q u' l' hq).weak fun b hb => by
     obtain ⟨q1,q2⟩ := hnest b hb.1 (hb.2 rfl)
     exact ⟨q1,fun _ => q2⟩,fun h => (by cases h),g7⟩
  ·exact cell1 (hWl _ (by simp)) k1 e1 (by simp [Cell.conc,hself])
  ·by_cases eF : x = nF
   ·subst eF
    rw [hF] at h5
    cases h5
    refine cell1 (hWl _ (by simp)) k3 e3 ?_
    rw [e4]
    exact Cell.conc_congr hold cF ((h.kn x _ hF).2 cF (by simp))
   ·by_cases eG : x = nG
    ·subst eG
     rw [hG] at h5
     cases h5
     refine cell1 (hWl _ (by simp)) k5 e5 ?_
     simp [clG,Cell.conc,Ref.conc,addrOf,e1,e3,e5,hold _ (hkn nT (hWl nT (by simp))),hold _ (hkn nF (hWl nF (by simp))),hold _ (hkn x (hWl x (by simp)))]
    ·have hk := h.kn x p h5
     refine objAt_keep (h.at_ x p h5) hold hk.1 hk.2 hfz (fun _ _ h => h) fun b hb => hun b (hlt x p b h5 hb) ?_
     rintro ⟨n,n1,n2⟩
     have := h.inj x n b (by rw [h5]; rfl) (hWl n n1) hb n2
     subst this
     simp only [List.mem_cons] at n1
     rcases n1 with e | e | e | e
     ·exact h3 e
     ·exact eF e
     ·exact eG e
     ·exact h4 e
 ·rcases hΓ x p hp with ⟨rfl,rfl⟩ | ⟨h2,rfl,rfl⟩ | ⟨h2,h3,h4,h5⟩
  ·exact ⟨.inr rfl,trivial⟩
  ·exact ⟨.inl (hkn _ (hWl _ (by simp))),fun c hc => by simp only [List.mem_singleton] at hc; subst hc; exact .inr rfl⟩
  ·exact ⟨.inl (h.kn x p h5).1,AObj.ok_mono (fun _ => .inl) p (h.kn x p h5).2⟩
 ·rcases hlo x b hx hb1 with ⟨rfl,h2⟩ | ⟨h2,h3,h4,h5⟩
  ·rcases hlo y b hy hb2 with ⟨rfl,_⟩ | ⟨q2,q3,q4,q5⟩
   ·rfl
   ·rcases hmb b h2 with h6 | ⟨q,h6,h7⟩
    ·obtain ⟨o,ho⟩ := Option.isSome_iff_exists.1 q4
     have := hlt y o b ho q5; omega
    ·have := h.inj q y b (hr q h6) q4 h7 q5
     exact absurd (this ▸ h6) q3
  ·rcases hlo y b hy hb2 with ⟨rfl,q2⟩ | ⟨q2,q3,q4,q5⟩
   ·rcases hmb b q2 with h6 | ⟨q,h6,h7⟩
    ·obtain ⟨o,ho⟩ := Option.isSome_iff_exists.1 h4
     have := hlt x o b ho h5; omega
    ·have := h.inj q x b (hr q h6) h4 h7 h5
     exact absurd (this ▸ h6) h3
   ·exact h.inj x y b h4 q4 h5 q5
 ·rcases hlo x b hx hb with ⟨rfl,h2⟩ | ⟨_,_,h4,h5⟩
  ·rcases hmb b h2 with h6 | ⟨q,h6,h7⟩
   ·exact .inl (by omega)
   ·exact h.own q b (hr q h6) h7
  ·exact h.own x b h4 h5
 ·obtain ⟨h2,h3⟩ := h.hid b (hHI b hh)
  refine ⟨by omega,?_⟩
  rintro ⟨x,q1,q2⟩
  rcases hlo x b q1 q2 with ⟨_,h4⟩ | ⟨_,_,h4,h5⟩
  ·rcases hmb b h4 with h6 | ⟨q,h6,h7⟩
   ·omega
   ·exact h3 ⟨q,hr q h6,h7⟩
  ·exact h3 ⟨x,h4,h5⟩
theorem slotE_spec {hp : HP} {t : Ty} {c : Cell} {l : List t.T} {rr : List Nat} (h : slotE hp t c = some (l,rr)) : (∀ r ∈ rr,(hp r).isSome = true) ∧
  ∀ {bor W ρ Kn Γ w},St bor W ρ Kn Γ w → (∀ r ∈ rr,Γ r = hp r) → ∃ y : Loc,c.conc ρ = .slice y.base y.len y.cap ∧ objAt (fzB ρ Γ w) (pmB bor W) (fun _ => y) 2 (.row t l 2) w ∧ ∀ b,y.blk = some b → ∃ r ∈ rr,(ρ r).blk = some b := by
 unfold slotE at h
 split at h
 ·rename_i r
  split at h <;> try (cases h; done)
  rename_i u l0 rk hr
  split at h <;> try (cases h; done)
  rename_i hrk
  subst hrk
  split at h <;> try (cases h; done)
  rename_i l' hc
  cases h
  obtain ⟨e1,e2⟩ := castL_eq hc
  subst e1
  dsimp only at e2
  subst e2
  refine ⟨fun q hq => by simp only [List.mem_singleton] at hq; subst hq; rw [hr]; rfl,fun {bor W ρ Kn Γ w} hst hΓ => ⟨ρ r,rfl,?_,fun b hb => ⟨r,by simp,hb⟩⟩⟩
  exact hst.at_ r _ (by rw [hΓ r (by simp),hr])
 ·cases h
  refine ⟨fun r hr => (by cases hr),fun {bor W ρ Kn Γ w} hst hΓ => ⟨{ es := t.size },rfl,?_,fun b hb => (by cases hb)⟩⟩
  exact ⟨rfl,rfl,Nat.le_refl _,fun _ => (Option.none,0),fun i v hv => by simp [rowComps,valsFrom] at hv,fun q u l' hq => by simp [rowComps] at hq,fun h => (by cases h),fun _ => .inl ⟨rfl,rfl,rfl,rfl⟩⟩
 ·cases h
theorem rowO_spec {hp : HP} {t : Ty} {a : AV} {l : List t.T} {tc : List Nat} (h : decP hp (.one (.sl t)) [a] = some (l,[],tc,true)) {bor : Bor} {W : World} {ρ : Env} {Kn : Nat → Prop} {Γ : HP} {w : World}
  (ht : ∀ m ∈ tc,Γ m = hp m) (hst : St bor W ρ Kn Γ w) {ok : Nat → Prop} (hok : OkFor ok ρ Γ w tc) : ∃ y : Loc,goodRowO ok w (.row t l 0) y ∧ a.conc ρ = .slice y.base y.len y.cap := by
 obtain ⟨as,e,hs⟩ := decP_specO (.one (.sl t)) _ _ _ _ h
 obtain ⟨xs,h1,h2⟩ := hs bor W ρ Kn Γ w ht hst ok hok 0
 match xs,h1 with
 | [y],h1 =>
  refine ⟨y,h1.1,?_⟩
  have h3 := h2 (fun _ => y) fun i x hi => by
   match i,hi with
   | 0,hi => cases hi; rfl
  rw [List.append_nil] at e
  subst e
  simp only [List.map_cons,List.map_nil] at h3
  have h4 := (List.cons.inj h3).1
  rw [h4]; rfl
end
section
variable {P : Program} {tt : List (Nat × TI)} {specs : List (Nat × Spec)}
theorem SpecOk.fnO (hT : TOk P tt) (hS : SpecsOk P specs) (hm : P.follows .mixedOrders = true) {f : FuncId} {fn : Func} (hf : P.funcs[f]? = some fn) (hn : nodupB (ids (bodyOf fn)) = true) {s : FnO}
  (h : ∀ x,s.pre x → ∀ ρ0,∃ lp its,ItsOk P noX its ∧ LpsOk P noX (bodyOf fn) lp ∧ fnE ⟨tt,specs,noX,lp,[],its⟩ fn (argsO s.p x) (heapO s.p x ρ0) (retO s.p ρ0 (· = s.f x))) : SpecOk P f (fnSpecO s) := by
 intro X args hp nm k hs
 unfold fnSpecO at hs
 split at hs
 rotate_left
 ·exact hs.elim
 rename_i a nT nF nG
 split at hs
 rotate_left
 ·exact hs.elim
 rename_i pl tc1 b1 cT eT cF eF cG eG hd1 hT1 hF1 hG1
 split at hs
 rotate_left
 ·exact hs.elim
 rename_i l rr L tc2 b2 hsl hd2
 split at hs
 rotate_left
 ·exact hs.elim
 rename_i hc
 simp only [Bool.and_eq_true,decide_eq_true_eq] at hc
 obtain ⟨⟨⟨⟨⟨rfl,rfl⟩,rfl⟩,hself⟩,hnd⟩,hdj⟩ := hc
 have hcG := isSelf_spec hself
 subst hcG
 have hnd := nodupL_spec hnd
 have hdj := disN_spec hdj
 obtain ⟨hb,hpre,hk⟩ := ob_spec hs
 rw [Bool.and_eq_true] at hb
 obtain ⟨rfl,rfl⟩ := hb
 have hk := hk _ rfl
 obtain ⟨hrs,hslot⟩ := slotE_spec hsl
 refine ⟨_,⟨fun p hp' => ?_,?_⟩,hk⟩
 ·rcases List.mem_cons.1 hp' with rfl | hp'
  ·rw [hT1]; exact fun h => by cases h
  ·obtain ⟨q,hq,rfl⟩ := List.mem_map.1 hp'
   have := hrs q hq
   intro h
   dsimp only at h
   rw [h] at this; cases this
 intro bor W ρ Kn Γ w _ _ ht hfr hst
 have hin : ∀ n ∈ (nT :: nF :: nG :: rr),Γ n = hp n := fun n hn => ht n (List.mem_append.2 (.inl hn))
 have hΓT : Γ nT = some (.cells [cT] s.p.eT) := by rw [hin nT (by simp)]; exact hT1
 have hΓF : Γ nF = some (.cells [cF] s.p.eF) := by rw [hin nF (by simp)]; exact hF1
 have hΓG : Γ nG = some (.cells [clG s.p.f nT nF nG] s.p.eG) := by rw [hin nG (by simp)]; exact hG1
 have hrr : ∀ r ∈ rr,(Γ r).isSome = true := fun r hr => by rw [hin r (by simp [hr])]; exact hrs r hr
 have hWl : ∀ n ∈ (nT :: nF :: nG :: rr),(Γ n).isSome = true := fun n hn => by
  simp only [List.mem_cons] at hn
  rcases hn with rfl | rfl | rfl | hn
  ·rw [hΓT]; rfl
  ·rw [hΓF]; rfl
  ·rw [hΓG]; rfl
  ·exact hrr n hn
 have hok : OkFor (fun b => cellsB w b ∧ ¬ wrO ρ (nT :: nF :: nG :: rr) b) ρ Γ w (tc1 ++ tc2) := by
  refine ⟨fun b hb => ⟨hb.1,fun ⟨n,n1,n2⟩ => hb.2 (.inl ⟨n,hWl n n1,n2⟩)⟩,fun m hm hs b hb hc => ⟨hc,fun ⟨n,n1,n2⟩ => ?_⟩⟩
  have := hst.inj m n b hs (hWl n n1) hb n2
  exact hdj m hm (this ▸ n1)
 obtain ⟨y0,g0,c0⟩ := rowO_spec hd1 (fun m hm => ht m (List.mem_append.2 (.inr (List.mem_append.2 (.inl hm))))) hst (hok.sub fun m hm => List.mem_append.2 (.inl hm))
 obtain ⟨y4,g4,c4⟩ := rowO_spec hd2 (fun m hm => ht m (List.mem_append.2 (.inr (List.mem_append.2 (.inr hm))))) hst (hok.sub fun m hm => List.mem_append.2 (.inr hm))
 obtain ⟨yR,cR,gR,bR⟩ := hslot hst fun r hr => hin r (by simp [hr])
 have hb := St.beginS (x := ((pl,(L,l)) : s.p.ty.T)) hst hΓT hΓF hΓG hrr hnd g0 g4 c4 cR gR bR
 obtain ⟨ρ0,hρ0⟩ : ∃ ρ0,ρ0 = envO y0 (ρ nT) yR (ρ nF) y4 (ρ nG) := ⟨_,rfl⟩
 rw [← hρ0] at hb
 obtain ⟨lp,its,hi,hl,hfn⟩ := h _ hpre ρ0
 have key := calls_of_fnE (ctx := ⟨tt,specs,noX,lp,[],its⟩) hT ⟨hS,YsOk.nil P,hi⟩ (noX.ok _ w) hm hf (fun c hc => by
  have : bodyOf fn = c := by unfold bodyOf; rw [hc]
  subst this
  exact lpOk_of (nodupB_spec hn) hl) hfn (fun y hy => by
   simp only [argsO,List.mem_cons,List.not_mem_nil,or_false] at hy
   rcases hy with rfl | rfl | rfl | rfl
   ·show 0 < 7; decide
   ·show 1 < 7; decide
   ·show 3 < 7; decide
   ·show 5 < 7; decide) hb
 have ea : (argsO s.p ((pl,(L,l)) : s.p.ty.T)).map (AV.conc ρ0) = [a,.v (.one (.ptr nT 0)),.v (.one (.ptr nF 0)),.v (.one (.ptr nG 0))].map (AV.conc ρ) := by
  have c0 : a.conc ρ = .slice y0.base y0.len y0.cap := c0
  simp only [argsO,List.map_cons,List.map_nil,AV.conc,A0.conc,Cell.conc,addrOf,hρ0,envO] at c0 ⊢
  rw [c0]
 rw [ea] at key
 refine key.mono ?_
 rintro e w' ⟨st,ρ1,v,rfl,hv,hR,hst1⟩
 obtain ⟨rfl,m,z,k1,k3,k5,km,hpin,hz⟩ := retO_spec hR
 have hpe := (hst1.at_ _ _ hpin).2
 have e1 : ρ1 1 = ρ nT := by rw [hpe 1 (by decide),hρ0]; rfl
 have e3 : ρ1 3 = ρ nF := by rw [hpe 3 (by decide),hρ0]; rfl
 have e5 : ρ1 5 = ρ nG := by rw [hpe 5 (by decide),hρ0]; rfl
 have e4 : Cell.conc ρ1 (.full 4) = cF.conc ρ := by
  have c4 : cF.conc ρ = .slice y4.base y4.len y4.cap := c4
  rw [c4]
  simp only [Cell.conc,hpe 4 (by decide),hρ0,envO]
 subst hz
 obtain ⟨ρ',r1,r2⟩ := St.endS (nm := nm) (tc := (nT :: nF :: nG :: rr) ++ (tc1 ++ tc2)) hst hΓT hΓF hΓG hrr hnd (hfr 0 (by simp)) hst1 k1 k3 k5 km e1 e3 e5 e4
 exact ⟨ρ',rfl,r1,und_ok _,r2⟩
theorem SpecOk.trO (s : FnO) {i : Bool} (t : s.p.ty.T → Tr (List s.p.tb.T) i) (hT : TOk P tt) (hS : SpecsOk P specs) (hm : P.follows .mixedOrders = true) {n : FuncId} {fn : Func} (hk : (P.funcs[n]?,nodupB (ids (bodyOf fn))) = (some fn,true))
  {its : List (Nat × ISpec)} {lp : s.p.ty.T → List (Nat × LSpec)} (hits : ItsOk P noX its) (hl : ∀ x,LpsOk P noX (bodyOf fn) (lp x)) (he : ∀ x,(s.pre x,s.f x) = (Tr.pI i (t x).pre,(t x).val))
  (h : ∀ x r0 Q,fnE ⟨tt,specs,noX,lp x,[],its⟩ fn (argsO s.p x) (heapO s.p x r0) (retO s.p r0 Q) = (t x).wp Q [.env r0]) : SpecOk P n (fnSpecO s) := by
 simp only [Prod.mk.injEq] at hk
 refine SpecOk.fnO hT hS hm hk.1 hk.2 fun x hx r0 => ⟨lp x,its,hits,hl x,?_⟩
 have e := he x
 simp only [Prod.mk.injEq] at e
 rw [h]
 exact Tr.wp_of _ _ _ (by rw [← e.1]; exact hx) e.2.symm
end
namespace Tr
variable {τ : Type}
abbrev fnO {i : Bool} (s : FnO) (x : s.p.ty.T) (k : List s.p.tb.T → Tr τ i) : Tr τ true := .call (s.pre x) (s.f x) k
end Tr

def newC (hp : HP) : Cell → Bool
 | .full n => match hp n with
  | some (.row _ _ rk) => rk != 0
  | some (.alias m _ _) => match hp m with
   | some (.row _ _ rk) => rk != 0
   | _ => false
  | _ => false
 | .sl n _ _ _ => match hp n with
  | some (.cells _ _) => true
  | _ => false
 | .raw (.slice none _ _) => true
 | _ => false
def newR (hp : HP) : (p : Par) → List A0 → Option (p.ty.T × List A0)
 | .one t,l => match l with
  | .one c :: r => if t.flat || newC hp c then (match decT hp t [c] with
   | some (y,[],_) => if t.shallow then some (y,r) else none
   | _ => none) else none
  | _ => none
 | .agg t,l => match l with
  | .agg cs :: r => if t.flat then (match decT hp t cs with
   | some (y,[],_) => some (y,r)
   | _ => none) else none
  | _ => none
 | .pair a b,l => match newR hp a l with
  | some (x,r) => match newR hp b r with
   | some (y,r') => some ((x,y),r')
   | none => none
  | none => none
 | .none,l => some (false,l)
 | _,_ => none
def retN (r : Par) (Q : r.ty.T → Prop) (v : AV) (st : AS) : Prop := match partsV v with
 | some l => match newR (liveAt st.heap) r l with
  | some (y,[]) => Q y
  | _ => False
 | none => False
def fnSpecN (s : FnS) : Spec := fun _ args hp nm k => match decP hp s.p args with
 | some (x,[],tc,b) => ob b (s.pre x ∧ ∀ y,y = s.f x → k { val := resV (encP 0 nm s.r y).1,fresh := (encP 0 nm s.r y).2,touch := tc })
 | _ => False
theorem encC_flat (nm:Nat) : ∀ (cs : List Comp),(∀ c ∈ cs,∃ v,c = .flat v) → (encC 0 nm cs).2 = []
 | [],_ => rfl
 | c :: r,h => by
  obtain ⟨v,rfl⟩ := h c (by simp)
  simp only [encC]
  exact encC_flat nm r fun c hc => h c (by simp [hc])
theorem one_cell {t : Ty} (h : t.flat = false) (hs : t.size = 1) : ∃ u,t = .sl u := by
 cases t with
 | sl u => exact ⟨u,rfl⟩
 | prod a b => have := a.size_pos; have := b.size_pos; simp [Ty.size] at hs; omega
 | int k => cases h
 | bool => cases h
 | str => cases h
theorem newC_base {W w : World} {ρ : Env} {Kn : Nat → Prop} {h : List AObj} (hst : St noB W ρ Kn (liveAt h) w) {c : Cell} (hc : newC (liveAt h) c = true) {a : Option Addr} {n m : Nat} (he : c.conc ρ = .slice a n m) (hn : n ≠ 0) : ∀ ad,a = some ad → W.heap.size ≤ ad.block := by
 have own : ∀ n b,(liveAt h n).isSome = true → (ρ n).blk = some b → W.heap.size ≤ b := fun n b h1 h2 => (hst.own n b h1 h2).elim id fun h => h.elim
 unfold newC at hc
 split at hc
 ·rename_i q
  simp only [Cell.conc,Value.slice.injEq] at he
  obtain ⟨e1,e2,_⟩ := he
  split at hc
  ·rename_i u l rk hq
   obtain ⟨g1,g2,g3,sub,g4,g5,g6,g7⟩ := hst.at_ q _ hq
   rcases g7 (by simpa using hc) with ⟨_,h0,_,_⟩ | ⟨b,rest,e,hb,hbase,_⟩
   ·rw [h0] at g1; simp at g1; omega
   ·intro ad had
    rw [← e1,hbase] at had
    cases had
    exact own q b (by rw [hq]; rfl) hb
  ·rename_i mm s q' hq
   split at hc
   ·rename_i u l rk hm
    obtain ⟨g1,g2,g3,g4,g5⟩ := hst.at_ q _ hq
    obtain ⟨k1,k2,k3,sub,k4,k5,k6,k7⟩ := hst.at_ mm _ hm
    intro ad had
    rw [← e1,g5 (by omega)] at had
    rcases k7 (by simpa using hc) with ⟨_,_,_,h0⟩ | ⟨b,rest,e,hb,hbase,_⟩
    ·rw [h0] at had; cases had
    ·rw [hbase] at had
     simp only [Option.map_some,Option.some.injEq] at had
     subst had
     rw [add_block]
     exact own mm b (by rw [hm]; rfl) hb
   ·cases hc
  ·cases hc
 ·rename_i q off len cap
  simp only [Cell.conc,Value.slice.injEq] at he
  obtain ⟨e1,_,_⟩ := he
  split at hc
  ·rename_i cs e hq
   intro ad had
   rw [← e1] at had
   unfold addrOf at had
   cases hb : (ρ q).blk with
   | none => rw [hb] at had; cases had
   | some b =>
    rw [hb] at had
    cases had
    exact own q b (by rw [hq]; rfl) hb
  ·cases hc
 ·simp only [Cell.conc,Value.slice.injEq] at he
  obtain ⟨e1,_⟩ := he
  intro ad had
  rw [← e1] at had; cases had
 ·cases hc
theorem newR_spec {h : List AObj} : ∀ (p : Par) (l : List A0) (y : p.ty.T) (r : List A0),newR (liveAt h) p l = some (y,r) →
  ∃ ys,l = ys ++ r ∧ ∀ W ρ Kn w,St noB W ρ Kn (liveAt h) w → ∀ nm,∃ xs,All2 (goodRowO (fun b => cellsB w b ∧ W.heap.size ≤ b) w) (encP 0 nm p y).2 xs ∧
   ∀ ρ1 : Env,(∀ i x,xs[i]? = some x → ρ1 (nm + i) = x) → ys.map (A0.conc ρ) = (encP 0 nm p y).1.map (A0.conc ρ1)
 | .one t,l,y,r,hd => by
  simp only [newR] at hd
  split at hd <;> try (cases hd; done)
  rename_i c r1
  split at hd <;> try (cases hd; done)
  rename_i hc
  split at hd <;> try (cases hd; done)
  rename_i x tc h1
  split at hd <;> try (cases hd; done)
  rename_i hsh
  cases hd
  obtain ⟨ys,e,hl,hs⟩ := decT_specO _ t _ _ _ _ h1
  rw [List.append_nil] at e
  subst e
  refine ⟨[_],rfl,fun W ρ Kn w hst nm => ?_⟩
  have hok : OkFor (fun b => cellsB w b) ρ (liveAt h) w tc := ⟨fun b hb => hb.1,fun m _ _ b _ hc => hc⟩
  have htop := hs noB W ρ Kn _ w (fun _ _ => rfl) hst _ hok
  by_cases hf : t.flat = true
  ·obtain ⟨xs,g1,g2⟩ := encC_startO (ok := fun b => cellsB w b) _ _ nm htop
   have e2 : (encC 0 nm (t.comps y)).2 = [] := encC_flat nm _ fun c hc => flat_comps hf hc
   have exs : xs = [] := by rw [e2] at g1; match xs,g1 with | [],_ => rfl
   subst exs
   refine ⟨[],by show All2 _ (encC 0 nm (t.comps y)).2 []; rw [e2]; trivial,fun ρ1 hr => ?_⟩
   have := g2 ρ1 hr
   simp only [encP,List.map_cons,List.map_nil]
   simp only [List.map_cons,List.map_nil] at this
   obtain ⟨c',hc',e⟩ : ∃ c',(encC 0 nm (t.comps y)).1 = [c'] ∧ c'.conc ρ1 = c.conc ρ := by
    match hm : (encC 0 nm (t.comps y)).1,this with
    | [c'],h => simp only [List.map_cons,List.map_nil,List.cons.injEq,and_true] at h; exact ⟨c',rfl,h⟩
    | [],h => simp at h
    | _ :: _ :: _,h => simp at h
   rw [hc']
   simp only [encA,A0.conc,e]
  ·have hf : t.flat = false := by simpa using hf
   rw [hf,Bool.false_or] at hc
   obtain ⟨u,rfl⟩ := one_cell hf (by simpa using hl.symm)
   simp only [Ty.comps,List.map_cons,List.map_nil] at htop
   obtain ⟨a,cp,e1,e2,vals,e3,e4⟩ := htop.1
   have huf : u.flat = true := hsh
   refine ⟨[{ base := a,len := y.length,cap := cp,es := u.size }],⟨⟨rfl,rfl,rfl,rfl,e2,vals,?_,?_⟩,trivial⟩,fun ρ1 hr => ?_⟩
   ·have : ∀ (cs : List Comp) (vs : List Value),(∀ c ∈ cs,∃ v,c = .flat v) → All2 (NestC w fun b => cellsB w b) cs vs → All2 (NestC w fun b => cellsB w b ∧ W.heap.size ≤ b) cs vs := by
     intro cs
     induction cs with
     | nil => intro vs _ h; cases vs <;> exact h
     | cons c r ih =>
      intro vs hz h
      obtain ⟨v,rfl⟩ := hz c (by simp)
      match vs,h with
      | v' :: vs,h => exact ⟨h.1,ih vs (fun c hc => hz c (by simp [hc])) h.2⟩
    exact this _ _ (fun c hc => by
     obtain ⟨x2,_,h2⟩ := List.mem_flatMap.1 hc
     exact flat_comps huf h2) e3
   ·intro i v hv
    obtain ⟨ad,k1,k2,k3⟩ := e4 i v hv
    refine ⟨ad,k1,k2,k3,newC_base hst hc e1 ?_ ad k1⟩
    intro h0
    have hl3 := e3.length
    have h5 := (List.getElem?_eq_some_iff.1 hv).1
    rw [List.length_eq_zero_iff.1 h0] at hl3
    simp [rowComps] at hl3
    omega
   ·have h0 := hr 0 _ rfl
    rw [Nat.add_zero] at h0
    show [Cell.conc ρ c] = [Cell.conc ρ1 (.full nm)]
    rw [e1]
    simp only [Cell.conc,h0]
 | .agg t,l,y,r,hd => by
  simp only [newR] at hd
  split at hd <;> try (cases hd; done)
  rename_i cs r1
  split at hd <;> try (cases hd; done)
  rename_i hf
  split at hd <;> try (cases hd; done)
  rename_i x tc h1
  cases hd
  obtain ⟨ys,e,hl,hs⟩ := decT_specO _ t _ _ _ _ h1
  rw [List.append_nil] at e
  subst e
  refine ⟨[_],rfl,fun W ρ Kn w hst nm => ?_⟩
  have hok : OkFor (fun b => cellsB w b) ρ (liveAt h) w tc := ⟨fun b hb => hb.1,fun m _ _ b _ hc => hc⟩
  obtain ⟨xs,g1,g2⟩ := encC_startO (ok := fun b => cellsB w b) _ _ nm (hs noB W ρ Kn _ w (fun _ _ => rfl) hst _ hok)
  have e2 : (encC 0 nm (t.comps y)).2 = [] := encC_flat nm _ fun c hc => flat_comps hf hc
  have exs : xs = [] := by rw [e2] at g1; match xs,g1 with | [],_ => rfl
  subst exs
  refine ⟨[],by show All2 _ (encC 0 nm (t.comps y)).2 []; rw [e2]; trivial,fun ρ1 hr => ?_⟩
  have := g2 ρ1 hr
  simp only [encP,encA,List.map_cons,List.map_nil,A0.conc,this]
 | .ptr t,l,y,r,hd => by simp [newR] at hd
 | .clo f p,l,y,r,hd => by simp [newR] at hd
 | .mv f agg t,l,y,r,hd => by simp [newR] at hd
 | .pair a b,l,y,r,hd => by
  simp only [newR] at hd
  split at hd <;> try (cases hd; done)
  rename_i x1 r1 h1
  split at hd <;> try (cases hd; done)
  rename_i x2 r2 h2
  cases hd
  obtain ⟨ys,e1,k1⟩ := newR_spec a _ _ _ h1
  obtain ⟨zs,e2,k2⟩ := newR_spec b _ _ _ h2
  refine ⟨ys ++ zs,by rw [e1,e2]; simp,fun W ρ Kn w hst nm => ?_⟩
  obtain ⟨xs,g1,g2⟩ := k1 W ρ Kn w hst nm
  obtain ⟨us,g3,g4⟩ := k2 W ρ Kn w hst (nm + (encP 0 nm a x1).2.length)
  refine ⟨xs ++ us,g1.append g3,fun ρ1 hr => ?_⟩
  have hl := g1.length
  simp only [encP,List.map_append]
  rw [g2 ρ1 fun i x hi => hr i x (by rw [List.getElem?_append_left (List.getElem?_eq_some_iff.1 hi).1]; exact hi),g4 ρ1 fun i x hi => by
   have := hr (xs.length + i) x (by rw [List.getElem?_append_right (by omega)]; simpa using hi)
   rwa [← hl,← Nat.add_assoc] at this]
 | .none,l,y,r,hd => by
  simp only [newR,Option.some.injEq,Prod.mk.injEq] at hd
  obtain ⟨rfl,rfl⟩ := hd
  exact ⟨[],rfl,fun W ρ Kn w hst nm => ⟨[],trivial,fun _ _ => rfl⟩⟩
section
variable {P : Program} {tt : List (Nat × TI)} {specs : List (Nat × Spec)}
theorem SpecOk.fnN (hT : TOk P tt) (hS : SpecsOk P specs) (hm : P.follows .mixedOrders = true) {f : FuncId} {fn : Func} (hf : P.funcs[f]? = some fn) (hn : nodupB (ids (bodyOf fn)) = true) {s : FnS}
  (h : ∀ x,s.pre x → ∃ lp its,ItsOk P noX its ∧ LpsOk P noX (bodyOf fn) lp ∧ fnE ⟨tt,specs,noX,lp,[],its⟩ fn (argsE s.p x) (heapE s.p x) (retN s.r (· = s.f x))) : SpecOk P f (fnSpecN s) := by
 intro X args hp nm k hs
 unfold fnSpecN at hs
 split at hs
 rotate_left
 ·exact hs.elim
 rename_i x tc b hd
 obtain ⟨rfl,hpre,hk⟩ := ob_spec hs
 have hk := hk _ rfl
 obtain ⟨as,e,hargs⟩ := decP_spec s.p _ _ _ _ hd
 rw [List.append_nil] at e
 subst e
 refine ⟨_,⟨fun p hp' => absurd hp' (by simp),?_⟩,hk⟩
 intro bor W ρ Kn Γ w _ _ ht hfr hst
 obtain ⟨xs,hg,hc⟩ := hargs bor W ρ Kn Γ w ht hst 0
 have hb := St.begin hg
 obtain ⟨lp,its,hi,hl,hfn⟩ := h x hpre
 have hcs := hc (fun n => xs.getD n {}) fun i y hy => by simp [hy]
 have key := calls_of_fnE (ctx := ⟨tt,specs,noX,lp,[],its⟩) hT ⟨hS,YsOk.nil P,hi⟩ (noX.ok noB w) hm hf (fun c hc => by
  have : bodyOf fn = c := by unfold bodyOf; rw [hc]
  subst this
  exact lpOk_of (nodupB_spec hn) hl) hfn (fun y hy => by
   obtain ⟨a,ha,rfl⟩ := List.mem_map.1 hy
   exact A0.ok_mono (fun m hm => by simpa [heapE] using hm.2) a (encP_ok 0 s.p x 0 a ha)) hb
 have ea : (argsE s.p x).map (AV.conc fun n => xs.getD n {}) = args.map (AV.conc ρ) := by
  rw [hcs]; simp [argsE,AV.conc,Function.comp_def]
 rw [ea] at key
 refine key.mono ?_
 rintro e w' ⟨st,ρ1,v,rfl,hv,hR,hst1⟩
 unfold retN at hR
 split at hR
 rotate_left
 ·exact hR.elim
 rename_i l hpl
 split at hR
 rotate_left
 ·exact hR.elim
 rename_i y hdr
 have hR : y = s.f x := hR
 subst hR
 obtain ⟨ys,e1,hdec⟩ := newR_spec s.r _ _ _ hdr
 rw [List.append_nil] at e1
 subst e1
 obtain ⟨us,hgu,hcu⟩ := hdec w ρ1 _ w' hst1 nm
 obtain ⟨ρ',r1,r2,r3⟩ := (hst.called hst1.fr).addRows (v := resV (encP 0 nm s.r (s.f x)).1) (tc := tc) (G := []) (nm := nm) hfr hgu (fun b hb => by
  refine ⟨hb.1,fun h1 => ?_,fun m _ h2 h3 => ?_⟩
  ·have := (hst.hid b h1).1
   have := hb.2
   omega
  ·obtain ⟨o,ho⟩ := Option.isSome_iff_exists.1 h2
   have := objAt_lt (hst.at_ m o ho) h3
   have := hb.2
   omega)
 refine ⟨ρ',?_,r1,?_,r3⟩
 ·congr 1
  rw [← partsV_res hpl]
  exact resV_conc (hcu ρ' r2)
 ·exact resV_ok fun c hc => A0.ok_mono (fun m hm => .inr (by simpa using hm)) c (encP_ok 0 s.r (s.f x) nm c hc)
theorem SpecOk.trN (s : FnS) {i : Bool} (t : s.p.ty.T → Tr s.r.ty.T i) (hT : TOk P tt) (hS : SpecsOk P specs) (hm : P.follows .mixedOrders = true) {n : FuncId} {fn : Func} (hk : (P.funcs[n]?,nodupB (ids (bodyOf fn))) = (some fn,true))
  {its : List (Nat × ISpec)} {lp : s.p.ty.T → List (Nat × LSpec)} (hits : ItsOk P noX its) (hl : ∀ x,LpsOk P noX (bodyOf fn) (lp x)) (he : ∀ x,(s.pre x,s.f x) = (Tr.pI i (t x).pre,(t x).val))
  (h : ∀ x Q,fnE ⟨tt,specs,noX,lp x,[],its⟩ fn (argsE s.p x) (heapE s.p x) (retN s.r Q) = (t x).wp Q []) : SpecOk P n (fnSpecN s) := by
 simp only [Prod.mk.injEq] at hk
 refine SpecOk.fnN hT hS hm hk.1 hk.2 fun x hx => ⟨lp x,its,hits,hl x,?_⟩
 have e := he x
 simp only [Prod.mk.injEq] at e
 rw [h]
 exact Tr.wp_of _ _ _ (by rw [← e.1]; exact hx) e.2.symm
end
end Go.Ev
