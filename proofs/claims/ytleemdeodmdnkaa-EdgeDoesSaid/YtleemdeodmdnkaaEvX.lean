/- Contracts of functions that write rows which they are handed. -/
import Derived.Test.YtleemdeodmdnkaaEvS
import Derived.Sort.Grow
import Derived.Lib.SlicesCompact
noncomputable section
set_option linter.unusedSectionVars false
set_option linter.unusedVariables false
set_option linter.unusedSimpArgs false
namespace Go.Ev
open Go.RowKit

theorem disN_spec : ∀ {a b : List Nat},disN a b = true → ∀ m ∈ a,m ∉ b
 | [],_,_,_,hm => by cases hm
 | x :: r,b,h,m,hm => by
  simp only [disN,Bool.and_eq_true,Bool.not_eq_true'] at h
  rcases List.mem_cons.1 hm with rfl | hm
  ·exact fun e => Bool.eq_false_iff.1 h.1 (memN_iff.2 e)
  ·exact disN_spec h.2 m hm
theorem resV_key {π : List Src} {l0 l : List A0} {v : AV} (hl : partsV v = some l) (h1 : renAs π l0 = some l) : renV π (resV l0) = some v := by
 cases v with
 | v a =>
  simp only [partsV,Option.some.injEq] at hl
  subst hl
  match l0,h1 with
  | [],h1 => simp [renAs] at h1
  | [c],h1 =>
   simp only [renAs] at h1
   split at h1
   ·rename_i q m k1 k2
    simp only [Option.some.injEq,List.cons.injEq] at h1
    obtain ⟨rfl,_⟩ := h1
    simp only [resV,renV,k1]
   ·cases h1
  | _ :: _ :: _,h1 =>
   simp only [renAs] at h1
   split at h1
   ·rename_i k1 k2
    split at k2
    ·cases k2; simp at h1
    ·cases k2
   ·cases h1
 | tup l' =>
  simp only [partsV] at hl
  split at hl
  ·cases hl
  ·rename_i hne
   cases hl
   match l0,h1 with
   | [],h1 => simp only [resV,renV,h1]
   | [c],h1 =>
    simp only [renAs] at h1
    split at h1
    ·rename_i q m k1 k2
     cases k2
     cases h1
     exact absurd rfl (hne q)
    ·cases h1
   | _ :: _ :: _,h1 => simp only [resV,renV,h1]
 | dead => simp [partsV] at hl
theorem tmpsR_one {π : List Src} {u v : AV} (key : renV π u = some v) : tmpsR π [v] [u] := by
 cases u with
 | v a => exact ⟨key,trivial⟩
 | tup l => exact ⟨key,trivial⟩
 | dead => simp [renV] at key
section
variable {P : Program} {tt : List (Nat × TI)} {specs : List (Nat × Spec)}
end
namespace Tr
variable {τ : Type}
end Tr
end Go.Ev

namespace Go.Ev
open Go.RowKit

structure OPar where
 tb : Ty
 tv : Ty
 f : FuncId
 eT : TypeId
 eF : TypeId
 eG : TypeId
@[reducible] def OPar.ty (d : OPar) : Ty := .prod (.sl (.int .i64)) (.prod (.sl d.tv) (.sl d.tb))
structure FnO where
 p : OPar
 pre : p.ty.T → Prop
 f : p.ty.T → List p.tb.T
section
variable {bor : Bor} {W : World} {ρ : Env} {Kn : Nat → Prop} {Γ : HP} {w : World}
end
section
variable {P : Program} {tt : List (Nat × TI)} {specs : List (Nat × Spec)}
end
namespace Tr
variable {τ : Type}
end Tr

section
variable {P : Program} {tt : List (Nat × TI)} {specs : List (Nat × Spec)}
end
end Go.Ev

namespace Go.Ev
open Go.RowKit
structure GPar where
 ka : Bool
 k : Ty
 u : Ty
structure FnG where
 p : Par
 r : GPar
 pre : p.ty.T → Prop
 f : p.ty.T → List (r.k.T × List r.u.T)
def castG (k' u' k u : Ty) (l : List (k'.T × List u'.T)) : Option (List (k.T × List u.T)) := castL (.prod k' (.sl u')) (.prod k (.sl u)) l
def fnSpecG (s : FnG) : Spec := fun _ args hp nm k => match decP hp s.p args with
 | some (x,[],tc,b) => ob b (s.pre x ∧ ∀ y,y = s.f x → k { val := .v (.one (.mp nm)),fresh := [.grp s.r.ka s.r.k s.r.u y (nm + 1) none,.set nm],touch := tc })
 | _ => False
def setOf (o : Option AObj) (n:Nat) : Bool := match o with
 | some (.set m) => Nat.beq m n
 | _ => false
theorem setOf_spec {o : Option AObj} {n : Nat} (h : setOf o n = true) : o = some (.set n) := by
 unfold setOf at h
 split at h
 ·rw [Nat.eq_of_beq_eq_true h]
 ·cases h
def retG (r : GPar) (Q : List (r.k.T × List r.u.T) → Prop) (v : AV) (st : AS) : Prop := match v with
 | .v (.one (.mp n)) => match liveAt st.heap n with
  | some (.grp ka k u l c none) => if ka = r.ka ∧ setOf (liveAt st.heap c) n = true then (match castG k u r.k r.u l with
   | some l' => Q l'
   | none => False) else False
  | _ => False
 | _ => False
theorem St.growG {bor : Bor} {W : World} {ρ ρ1 : Env} {Kn Kn1 : Nat → Prop} {Γ Γ1 : HP} {w w' : World} {nm n c : Nat} {ka : Bool} {k u : Ty} {l : List (k.T × List u.T)} {v : AV} {tc : List Nat} (h : St bor W ρ Kn Γ w) (hn0 : ¬ Kn nm) (hn1 : ¬ Kn (nm + 1))
  (h1 : St noB w ρ1 Kn1 Γ1 w') (hg : Γ1 n = some (.grp ka k u l c Option.none)) (hc : Γ1 c = some (.set n)) :
  ∃ ρ',(∀ m,Kn m → ρ' m = ρ m) ∧ ρ' nm = ρ1 n ∧ St bor W ρ' (knR Kn nm { val := v,fresh := [.grp ka k u l (nm + 1) Option.none,.set nm],touch := tc }) (appH { val := v,fresh := [.grp ka k u l (nm + 1) Option.none,.set nm],touch := tc } nm Γ) w' := by
 let ρ' : Env := fun m => if m = nm then ρ1 n else if m = nm + 1 then ρ1 c else ρ m
 have hnc : n ≠ c := by rintro rfl; rw [hg] at hc; cases hc
 have r0 : ρ' nm = ρ1 n := by simp [ρ']
 have r1 : ρ' (nm + 1) = ρ1 c := by simp [ρ']
 have hold : ∀ m,Kn m → ρ' m = ρ m := fun m hm => by
  have a1 : m ≠ nm := by rintro rfl; exact hn0 hm
  have a2 : m ≠ nm + 1 := by rintro rfl; exact hn1 hm
  simp [ρ',a1,a2]
 obtain ⟨r,hr⟩ : ∃ r : Rec,r = { val := v,fresh := [.grp ka k u l (nm + 1) Option.none,.set nm],touch := tc } := ⟨_,rfl⟩
 rw [← hr]
 have hΓ : ∀ m o,appH r nm Γ m = some o → (m = nm ∧ o = .grp ka k u l (nm + 1) Option.none) ∨ (m = nm + 1 ∧ o = .set nm) ∨ (m ≠ nm ∧ m ≠ nm + 1 ∧ Γ m = some o ∧ Kn m) := by
  intro m o ho
  rw [hr] at ho
  simp only [appH,lastW,List.length_cons,List.length_nil] at ho
  by_cases e0 : m = nm
  ·subst e0
   rw [if_pos (by omega)] at ho
   simp only [Nat.sub_self,List.getElem?_cons_zero,live,Option.some.injEq] at ho
   exact .inl ⟨rfl,ho.symm⟩
  ·by_cases e1 : m = nm + 1
   ·subst e1
    rw [if_pos (by omega)] at ho
    simp only [show nm + 1 - nm = 1 by omega,List.getElem?_cons_succ,List.getElem?_cons_zero,live,Option.some.injEq] at ho
    exact .inr (.inl ⟨rfl,ho.symm⟩)
   ·rw [if_neg (by omega)] at ho
    exact .inr (.inr ⟨e0,e1,ho,(h.kn m o ho).1⟩)
 have kK : ∀ m,knR Kn nm r m ↔ Kn m ∨ m = nm ∨ m = nm + 1 := fun m => by
  rw [hr]
  simp only [knR,List.length_cons,List.length_nil]
  constructor
  ·rintro (h | h)
   ·exact .inl h
   ·exact .inr (by omega)
  ·rintro (h | h)
   ·exact .inl h
   ·exact .inr (by omega)
 have hgs : (Γ1 n).isSome = true := by rw [hg]; rfl
 have hcs : (Γ1 c).isSome = true := by rw [hc]; rfl
 have hf1 : ∀ b,b < w.heap.size → w'.heap[b]? = w.heap[b]? := fun b hb => h1.fr.block b hb id
 have hnb : ∀ m b,(Γ1 m).isSome = true → (ρ1 m).has b → w.heap.size ≤ b := fun m b hs hb => (h1.ownH m b hs hb).elim id fun e => e.elim
 have hob : ∀ m o b,Γ m = some o → (ρ m).has b → b < w.heap.size := fun m o b ho hb => h.lt m b (by rw [ho]; rfl) hb
 have who : ∀ m b,(appH r nm Γ m).isSome = true → (ρ' m).has b → (m = nm ∧ (ρ1 n).has b ∧ w.heap.size ≤ b) ∨ (m = nm + 1 ∧ (ρ1 c).has b ∧ w.heap.size ≤ b) ∨ ((Γ m).isSome = true ∧ (ρ m).has b ∧ b < w.heap.size) := fun m b hm hb => by
  obtain ⟨o,ho⟩ := Option.isSome_iff_exists.1 hm
  rcases hΓ m o ho with ⟨rfl,_⟩ | ⟨rfl,_⟩ | ⟨_,_,h3,h4⟩
  ·rw [r0] at hb; exact .inl ⟨rfl,hb,hnb _ b hgs hb⟩
  ·rw [r1] at hb; exact .inr (.inl ⟨rfl,hb,hnb _ b hcs hb⟩)
  ·rw [hold m h4] at hb; exact .inr (.inr ⟨by rw [h3]; rfl,hb,hob m o b h3 hb⟩)
 have hHI : ∀ b,HI (appH r nm Γ) b → HI Γ b := fun b ⟨m,S,h2,h3⟩ => by
  rcases hΓ m _ h2 with ⟨_,e⟩ | ⟨_,e⟩ | ⟨_,_,e,_⟩
  ·cases e
  ·cases e
  ·exact ⟨m,S,e,h3⟩
 have hsz := h.fr.size
 have hsz1 := h1.fr.size
 have hfz : ∀ b,fzB ρ Γ w b → fzB ρ' (appH r nm Γ) w' b ∧ w'.heap[b]? = w.heap[b]? := fun b hb => by
  have hlt := hb.1.lt
  refine ⟨⟨hb.1.same (hf1 b hlt),?_⟩,hf1 b hlt⟩
  rintro (⟨m,h2,h3⟩ | h2)
  ·rcases who m b h2 h3 with ⟨_,_,h4⟩ | ⟨_,_,h4⟩ | ⟨h4,h5,_⟩
   ·omega
   ·omega
   ·exact hb.2 (.inl ⟨m,h4,h5⟩)
  ·exact hb.2 (.inr (hHI b h2))
 refine ⟨ρ',hold,r0,⟨h.fr.trans h1.fr.of_none,fun m o ho => ?_,fun m o ho => ?_,fun m m' b hm hm' hb1 hb2 => ?_,fun m b hm hb => ?_,fun b hh => ?_,fun m o ho => ?_⟩⟩
 ·rcases hΓ m o ho with ⟨rfl,rfl⟩ | ⟨rfl,rfl⟩ | ⟨_,_,h3,h4⟩
  ·have := h1.at_ n _ hg
   rw [objAt] at this ⊢
   rw [r0,r1]; exact this
  ·have := h1.at_ c _ hc
   rw [objAt] at this ⊢
   rw [r1]; exact this
  ·exact objAt_keep (Kn := Kn) (h.at_ m o h3) hold h4 (h.kn m o h3).2 hfz (fun _ _ h => h) fun b hb => hf1 b (hob m o b h3 hb)
 ·rcases hΓ m o ho with ⟨rfl,rfl⟩ | ⟨rfl,rfl⟩ | ⟨_,_,h3,h4⟩
  ·exact ⟨(kK _).2 (.inr (.inl rfl)),(kK _).2 (.inr (.inr rfl))⟩
  ·exact ⟨(kK _).2 (.inr (.inr rfl)),(kK _).2 (.inr (.inl rfl))⟩
  ·exact ⟨(kK _).2 (.inl h4),AObj.ok_mono (fun y hy => (kK y).2 (.inl hy)) o (h.kn m o h3).2⟩
 ·rcases who m b hm hb1 with ⟨e,h2,h3⟩ | ⟨e,h2,h3⟩ | ⟨h2,h3,h4⟩
  ·rcases who m' b hm' hb2 with ⟨e',h2',h3'⟩ | ⟨e',h2',h3'⟩ | ⟨h2',h3',h4'⟩
   ·rw [e,e']
   ·exact absurd (h1.injH n c b hgs hcs h2 h2') hnc
   ·omega
  ·rcases who m' b hm' hb2 with ⟨e',h2',h3'⟩ | ⟨e',h2',h3'⟩ | ⟨h2',h3',h4'⟩
   ·exact absurd (h1.injH n c b hgs hcs h2' h2) hnc
   ·rw [e,e']
   ·omega
  ·rcases who m' b hm' hb2 with ⟨e',h2',h3'⟩ | ⟨e',h2',h3'⟩ | ⟨h2',h3',h4'⟩
   ·omega
   ·omega
   ·exact h.injH m m' b h2 h2' h3 h3'
 ·rcases who m b hm hb with ⟨e,h2,h3⟩ | ⟨e,h2,h3⟩ | ⟨h2,h3,h4⟩
  ·exact .inl (by omega)
  ·exact .inl (by omega)
  ·exact h.ownH m b h2 h3
 ·obtain ⟨h2,h3⟩ := h.hid b (hHI b hh)
  refine ⟨by omega,?_⟩
  rintro ⟨m,h4,h5⟩
  rcases who m b h4 h5 with ⟨_,_,h6⟩ | ⟨_,_,h6⟩ | ⟨h6,h7,_⟩
  ·omega
  ·omega
  ·exact h3 ⟨m,h6,h7⟩
 ·rcases hΓ m o ho with ⟨rfl,rfl⟩ | ⟨rfl,rfl⟩ | ⟨_,_,h3,h4⟩
  ·rw [r0]
   exact .inr ((h1.noe n _ hg).elim (fun ⟨_,e⟩ => by cases e) id)
  ·exact .inl ⟨_,rfl⟩
  ·rw [hold m h4]; exact h.noe m o h3
section
variable {P : Program} {tt : List (Nat × TI)} {specs : List (Nat × Spec)}
theorem SpecOk.fnG (hT : TOk P tt) (hS : SpecsOk P specs) (hm : P.follows .mixedOrders = true) {f : FuncId} {fn : Func} (hf : P.funcs[f]? = some fn) (hn : nodupB (ids (bodyOf fn)) = true) {s : FnG}
  (h : ∀ x,s.pre x → ∃ lp its,ItsOk P noX its ∧ LpsOk P noX (bodyOf fn) lp ∧ fnE ⟨tt,specs,noX,lp,[],its⟩ fn (argsE s.p x) (heapE s.p x) (retG s.r (· = s.f x))) : SpecOk P f (fnSpecG s) := by
 intro X args hp nm k hs
 unfold fnSpecG at hs
 split at hs
 rotate_left
 ·exact hs.elim
 rename_i x tc b hd
 obtain ⟨rfl,hpre,hk⟩ := ob_spec hs
 have hk := hk _ rfl
 obtain ⟨as,e,hargs⟩ := decP_spec s.p _ _ _ _ hd
 rw [List.append_nil] at e
 subst e
 refine ⟨_,⟨fun p hp' => absurd hp' (by simp),?_⟩,hk⟩
 intro bor W ρ Kn Γ w _ _ ht hfr hst
 obtain ⟨xs,hg,hc⟩ := hargs bor W ρ Kn Γ w ht hst 0
 have hb := St.begin hg
 obtain ⟨lp,its,hi,hl,hfn⟩ := h x hpre
 have hcs := hc (fun n => xs.getD n {}) fun i y hy => by simp [hy]
 have key := calls_of_fnE (ctx := ⟨tt,specs,noX,lp,[],its⟩) hT ⟨hS,YsOk.nil P,hi⟩ (noX.ok noB w) hm hf (fun c hc => by
  have : bodyOf fn = c := by unfold bodyOf; rw [hc]
  subst this
  exact lpOk_of (nodupB_spec hn) hl) hfn (fun y hy => by
   obtain ⟨a,ha,rfl⟩ := List.mem_map.1 hy
   exact A0.ok_mono (fun m hm => by simpa [heapE] using hm.2) a (encP_ok 0 s.p x 0 a ha)) hb
 have ea : (argsE s.p x).map (AV.conc fun n => xs.getD n {}) = args.map (AV.conc ρ) := by
  rw [hcs]; simp [argsE,AV.conc,Function.comp_def]
 rw [ea] at key
 refine key.mono ?_
 rintro e w' ⟨st,ρ1,v,rfl,hv,hR,hst1⟩
 unfold retG at hR
 split at hR <;> try (exact hR.elim)
 rename_i n
 split at hR <;> try (exact hR.elim)
 rename_i ka k0 u0 l c hgn
 split at hR <;> try (exact hR.elim)
 rename_i hkc
 obtain ⟨rfl,hcc⟩ := hkc
 have hcc := setOf_spec hcc
 split at hR <;> try (exact hR.elim)
 rename_i l' hcl
 unfold castG at hcl
 obtain ⟨e1,e2⟩ := castL_eq hcl
 have hR : l' = s.f x := hR
 obtain ⟨p,⟨ka,k1,u1⟩,pre,f0⟩ := s
 cases e1
 dsimp only at e2
 have e2 : l = l' := e2
 subst e2
 have hR : l = f0 x := hR
 obtain ⟨ρ',r1,r2,r3⟩ := St.growG (v := .v (.one (.mp nm))) (tc := tc) (nm := nm) hst (by simpa using hfr 0 (by simp)) (hfr 1 (by simp)) hst1 hgn hcc
 refine ⟨ρ',?_,r1,.inr (by simp),?_⟩
 ·simp only [AV.conc,A0.conc,Cell.conc,r2]
 ·dsimp only
  rw [← hR]; exact r3
theorem SpecOk.trG (s : FnG) {i : Bool} (t : s.p.ty.T → Tr (List (s.r.k.T × List s.r.u.T)) i) (hT : TOk P tt) (hS : SpecsOk P specs) (hm : P.follows .mixedOrders = true) {n : FuncId} {fn : Func} (hk : (P.funcs[n]?,nodupB (ids (bodyOf fn))) = (some fn,true))
  {its : List (Nat × ISpec)} {lp : s.p.ty.T → List (Nat × LSpec)} (hits : ItsOk P noX its) (hl : ∀ x,LpsOk P noX (bodyOf fn) (lp x)) (he : ∀ x,(s.pre x,s.f x) = (Tr.pI i (t x).pre,(t x).val))
  (h : ∀ x Q,fnE ⟨tt,specs,noX,lp x,[],its⟩ fn (argsE s.p x) (heapE s.p x) (retG s.r Q) = (t x).wp Q []) : SpecOk P n (fnSpecG s) := by
 simp only [Prod.mk.injEq] at hk
 refine SpecOk.fnG hT hS hm hk.1 hk.2 fun x hx => ⟨lp x,its,hits,hl x,?_⟩
 have e := he x
 simp only [Prod.mk.injEq] at e
 rw [h]
 exact Tr.wp_of _ _ _ (by rw [← e.1]; exact hx) e.2.symm
end
namespace Tr
variable {τ : Type}
abbrev fnG {i : Bool} (s : FnG) (x : s.p.ty.T) (k : List (s.r.k.T × List s.r.u.T) → Tr τ i) : Tr τ true := .call (s.pre x) (s.f x) k
end Tr
end Go.Ev

namespace Go.Ev
open Go.RowKit
inductive VPar
 | ty (t : Ty)
 | rp (u : Ty)
 | ref (v : VPar)
 | pair (a b : VPar)
@[reducible] def VPar.ty' : VPar → Ty
 | .ty t => t
 | .rp u => u
 | .ref v => v.ty'
 | .pair a b => .prod a.ty' b.ty'
inductive QPar
 | arg (p : Par)
 | var (v : VPar)
 | pair (a b : QPar)
 | clo (f : FuncId) (a : QPar)
 | mv (f : FuncId) (v : VPar)
@[reducible] def QPar.ty : QPar → Ty
 | .arg p => p.ty
 | .var v => v.ty'
 | .pair a b => .prod a.ty b.ty
 | .clo _ a => a.ty
 | .mv _ v => v.ty'
def QPar.cap : QPar → Bool
 | .arg p => p.cap
 | .var _ => true
 | .pair a b => a.cap && b.cap
 | _ => false
structure FnQ where
 p : QPar
 r : Par
 pre : p.ty.T → Prop
 f : p.ty.T → r.ty.T
section
variable {P : Program} {tt : List (Nat × TI)} {specs : List (Nat × Spec)}
end
namespace Tr
variable {τ : Type}
end Tr
end Go.Ev

namespace Go.Ev
open Go.RowKit
abbrev tI : Ty := .int .i64
def sortZ (l : List Int) : List Int := l.mergeSort fun x y => decide (x ≤ y)
def compZ (l : List Int) : List Int := Lib.compact l
def sortSpec : Spec := fun _ args hp nm k => match args with
 | [.v (.one (.full n))] => match hp n with
  | some (.row (.int .i64) l rk) => if rk = 0 ∨ rk = 3 then False else ob (decide (l.length < 1099511627776)) (True ∧ ∀ l',l' = sortZ l → k { val := und,writes := [(n,.row (.int .i64) l' rk)],touch := [n] })
  | _ => False
 | _ => False
def compSpec : Spec := fun _ args hp nm k => match args with
 | [.v (.one (.full n))] => match hp n with
  | some (.row (.int .i64) l rk) => if rk = 0 ∨ rk = 3 then False else ob (decide (l.length < 1099511627776)) (True ∧ ∀ l',l' = compZ l → k { val := .v (.one (.full nm)),fresh := [.row (.int .i64) l' rk],writes := [(n,.gone)],touch := [n] })
  | _ => False
 | _ => False
abbrev encZ : Int → Value := Value.int .i64
theorem flatZ (l : List Int) : flatVals tI l = l.map encZ := by
 induction l with
 | nil => rfl
 | cons x r ih =>
  have : flatVals tI (x :: r) = encZ x :: flatVals tI r := rfl
  rw [this,ih]; rfl
theorem putRow_heap {w : World} {b : Nat} {xs ys : List Int} {rest : List Value} {e : TypeId} {fr : Nat × Nat} (h : w.heap[b]? = some (.cells (xs.map encZ ++ rest).toArray e fr)) (hl : ys.length = xs.length) :
  (Sort.putRow encZ w b 0 ys.toArray).heap[b]? = some (.cells (ys.map encZ ++ rest).toArray e fr) := by
 unfold Sort.putRow Sort.mapBlock
 simp only [Array.getElem?_modify,if_true,h,Option.map_some,Sort.onCells,Option.some.injEq,Obj.cells.injEq,and_true]
 unfold Sort.putCells
 apply Array.ext_getElem?
 intro k
 rw [Array.getElem?_mapIdx]
 simp only [List.getElem?_toArray,Nat.zero_le,true_and,Nat.zero_add,List.size_toArray,Nat.sub_zero]
 by_cases hk : k < ys.length
 ·rw [List.getElem?_append_left (by simpa using hl ▸ hk),List.getElem?_append_left (by simpa using hk)]
  have hkx : k < xs.length := hl ▸ hk
  simp only [List.getElem?_map,List.getElem?_eq_getElem hk,List.getElem?_eq_getElem hkx,Option.map_some,if_pos hk]
  rw [getElem!_pos ys.toArray k (by simpa using hk)]
  simp
 ·rw [List.getElem?_append_right (by simpa using by omega),List.getElem?_append_right (by simpa using by omega)]
  simp only [List.length_map,hl]
  have hk' : ¬ k < xs.length := hl ▸ hk
  cases rest[k - xs.length]? <;> simp [hk']
theorem putRow_heap_ne {w : World} {b b' : Nat} {d : Array Int} (h : b' ≠ b) : (Sort.putRow encZ w b 0 d).heap[b']? = w.heap[b']? := by
 unfold Sort.putRow Sort.mapBlock
 simp only [Array.getElem?_modify]
 rw [if_neg (Ne.symm h)]
theorem holdsZ {w : World} {b : Nat} {xs : List Int} {rest : List Value} {e : TypeId} (h : w.heap[b]? = some (.cells (xs.map encZ ++ rest).toArray e (0,0))) : Sort.Holds encZ w b 0 xs.toArray := by
 intro j hj
 have hj : j < xs.length := by simpa using hj
 refine ⟨?_,by simp [World.frozen?,h]⟩
 rw [Nat.zero_add,cell_of_heap h,List.getElem?_append_left (by simpa using hj),List.getElem?_map,List.getElem?_eq_getElem hj,getElem!_pos xs.toArray j (by simpa using hj)]
 simp
theorem grow_heap {w : World} {os : Array Obj} {b : Nat} (h : b < w.heap.size) : (Sort.grow w os).heap[b]? = w.heap[b]? := by
 unfold Sort.grow
 exact Array.getElem?_append_left h

theorem compact_le (l : List Int) : (Lib.compact l).length ≤ l.length := by
 unfold Lib.compact Lib.compactUpTo
 rw [List.length_map]
 exact Nat.le_trans (List.length_filter_le _ _) (by simp)

section
variable {P : Program} {f : FuncId}
theorem rowZ {bor : Bor} {W w : World} {ρ : Env} {Kn : Nat → Prop} {Γ : HP} {n rk : Nat} {l : List Int} (hst : St bor W ρ Kn Γ w) (hΓ : Γ n = some (.row tI l rk)) (hrk : rk ≠ 0) (hrk3 : rk ≠ 3) :
  (ρ n).len = l.length ∧ (ρ n).es = 1 ∧ l.length ≤ (ρ n).cap ∧ (((ρ n).blk = none ∧ l = [] ∧ (ρ n).cap = 0 ∧ (ρ n).base = none) ∨
   ∃ b rest e,(ρ n).blk = some b ∧ (ρ n).base = some ⟨b,0,none⟩ ∧ w.heap[b]? = some (.cells (l.map encZ ++ rest).toArray e (0,0)) ∧ (ρ n).cap = l.length + rest.length ∧ (ρ n).cap ≤ 9223372036854775807) := by
 obtain ⟨o1,o2,o3,sub,m1,m2,m3,m4⟩ := hst.at_ n _ hΓ
 refine ⟨o1,o2,o3,?_⟩
 rcases (m4 hrk).old hrk3 with h | ⟨b,rest,e,h1,h2,h3,h4,h5⟩
 ·exact .inl h
 ·rw [valsFrom_flat (u := tI) rfl,flatZ] at h3 h4
  refine .inr ⟨b,rest,e,h1,h2,h3,?_,h5⟩
  have : (ρ n).cap * 1 = _ := h4
  rw [Nat.mul_one,List.length_append,List.length_map] at this
  exact this
theorem objZ {fz pm : Nat → Prop} {ρ : Env} {n b rk : Nat} {w : World} {l : List Int} {rest : List Value} {e : TypeId} (hrk : rk ≠ 0) (h1 : (ρ n).len = l.length) (h2 : (ρ n).es = 1) (h3 : (ρ n).blk = some b) (h4 : (ρ n).base = some ⟨b,0,none⟩)
  (h5 : w.heap[b]? = some (.cells (l.map encZ ++ rest).toArray e (0,0))) (h6 : (ρ n).cap = l.length + rest.length) (h7 : (ρ n).cap ≤ 9223372036854775807) : objAt fz pm ρ n (.row tI l rk) w := by
 refine ⟨h1,h2,by omega,fun _ => (none,0),fun i v hv => ⟨_,h4,?_,fun e => absurd e hrk⟩,fun q u' l' hq => ?_,fun e => absurd e hrk,fun _ => OwnAt.new (.inr ⟨b,rest,e,h3,h4,?_,?_,h7⟩)⟩
 ·rw [valsFrom_flat (u := tI) rfl,flatZ] at hv
  have e1 : (⟨b,0,none⟩ : Addr).add i = ⟨b,i,none⟩ := by unfold Addr.add; split <;> simp_all
  rw [e1,cell_of_heap h5,List.getElem?_append_left (List.getElem?_eq_some_iff.1 hv).1]; exact hv
 ·obtain ⟨v,hv⟩ := flat_row (t := tI) rfl (List.mem_of_getElem? hq)
  cases hv
 ·rw [valsFrom_flat (u := tI) rfl,flatZ]; exact h5
 ·rw [valsFrom_flat (u := tI) rfl,flatZ]
  show (ρ n).cap * 1 = _
  rw [h6]; simp
theorem Fr.putZ {bor : Bor} {W w : World} {b m : Nat} {d : Array Int} (h : Fr bor W w) (hb : W.heap.size ≤ b ∨ bor b) : Fr bor W (Sort.putRow encZ (Sort.ahead w m) b 0 d) :=
 ⟨h.os,h.tape,h.output,by rw [Sort.size_putRow]; exact h.size,fun k hk hn => by
  rw [putRow_heap_ne (by rintro rfl; exact hb.elim (by omega) hn)]; exact h.block k hk hn,Nat.le_trans h.drw (Nat.le_add_right _ _)⟩
theorem Fr.growZ {bor : Bor} {W w : World} {os : Array Obj} (h : Fr bor W w) : Fr bor W (Sort.grow w os) :=
 ⟨h.os,h.tape,h.output,by have := h.size; simp only [Sort.grow,Array.size_append]; omega,fun k hk hn => by rw [grow_heap (by have := h.size; omega)]; exact h.block k hk hn,h.drw⟩
theorem sortSpec_ok (hS : ∀ (blk off cap : Nat) (zs : List Int) (w : World), Sort.Holds encZ w blk off zs.toArray → blk < w.heap.size → zs.length < 4611686018427387904 →
      Calls P f #[.slice (some ⟨blk, off, none⟩) zs.length cap] w fun e w' => e = .returned (.tuple #[]) ∧ ∃ n os, w' = Sort.grow (Sort.putRow encZ (Sort.ahead w n) blk off (zs.mergeSort fun x y => decide (x ≤ y)).toArray) os)
    (hN : ∀ (p : Option Addr) (cap : Nat) (w : World), Calls P f #[.slice p 0 cap] w fun e w' => e = .returned (.tuple #[]) ∧ w' = w) : SpecOk P f sortSpec := by
  intro X args hp nm k hs
  unfold sortSpec at hs
  split at hs <;> try (exact hs.elim)
  rename_i n
  split at hs <;> try (exact hs.elim)
  rename_i l rk he
  split at hs <;> try (exact hs.elim)
  rename_i hrk
  obtain ⟨hrk, hrk3⟩ := not_or.1 hrk
  obtain ⟨hlen, _, hk⟩ := ob_spec hs
  have hlen := of_decide_eq_true hlen
  refine ⟨_, ⟨fun p hp' => ?_, ?_⟩, hk _ rfl⟩
  · simp only [List.mem_singleton] at hp'; subst hp'; rw [he]; simp
  intro bor W ρ Kn Γ w _ hok ht hfr hst
  have hΓ : Γ n = some (.row tI l rk) := by rw [ht n (by simp), he]
  obtain ⟨z1, z2, z3, z4⟩ := rowZ hst hΓ hrk hrk3
  have eSt : knR Kn nm { val := und, writes := [(n, AObj.row (.int .i64) (sortZ l) rk)], touch := [n] } = Kn := knR_nil _ _ _ _ _
  have hl' : (sortZ l).length = l.length := List.length_mergeSort l
  have ea : ([AV.v (.one (.full n))].map (AV.conc ρ)).toArray = #[.slice (ρ n).base (ρ n).len (ρ n).cap] := rfl
  rcases z4 with ⟨_, rfl, h3, h4⟩ | ⟨b, rest, e0, h1, h2, h3, h4, h5⟩
  · rw [ea, z1]
    refine (hN _ _ w).mono ?_
    rintro e w' ⟨rfl, rfl⟩
    refine ⟨ρ, rfl, fun _ _ => rfl, und_ok _, ?_⟩
    rw [eSt, appH_write _ _ _ _ _ _ rfl]
    have e1 : sortZ [] = [] := by simp [sortZ]
    have : updH Γ n (.row (.int .i64) (sortZ []) rk) = Γ := by
      funext m; unfold updH; split
      · rename_i e2; subst e2; rw [e1]; exact hΓ.symm
      · rfl
    rw [this]; exact hst
  · rw [ea, z1, h2]
    have hb := hst.lt n b (by rw [hΓ]; rfl) (.inl h1)
    refine (hS b 0 _ l w (holdsZ h3) hb (by omega)).mono ?_
    rintro e w' ⟨rfl, m, os, rfl⟩
    refine ⟨ρ, rfl, fun _ _ => rfl, und_ok _, ?_⟩
    rw [eSt, appH_write _ _ _ _ _ _ rfl]
    have hown := hst.own n b (by rw [hΓ]; rfl) h1
    have hput : (Sort.putRow encZ (Sort.ahead w m) b 0 (sortZ l).toArray).heap[b]? = some (.cells ((sortZ l).map encZ ++ rest).toArray e0 (0, 0)) := putRow_heap (w := Sort.ahead w m) h3 hl'
    have hst1 : St bor W ρ Kn (updH Γ n (.row tI (sortZ l) rk)) (Sort.putRow encZ (Sort.ahead w m) b 0 (sortZ l).toArray) :=
      hst.writeW hΓ h1 trivial (fun _ h => by cases h) (hst.fr.putZ hown) (fun b' hb' => putRow_heap_ne hb') (by rw [Sort.size_putRow]; exact Nat.le_refl _)
        fun _ => objZ hrk (by rw [hl']; exact z1) z2 h1 h2 hput (by rw [hl']; exact h4) h5
    exact hst1.world hst1.fr.growZ fun b' hb' => grow_heap hb'
theorem moveZ {bor : Bor} {W w w' : World} {ρ : Env} {Kn : Nat → Prop} {Γ : HP} {n nm b rk : Nat} {l l' : List Int} {rest' : List Value} {e0 : TypeId} {tc : List Nat} {v : AV} (hst : St bor W ρ Kn Γ w) (hn : ¬ Kn nm) (hΓ : Γ n = some (.row tI l rk)) (hrk : rk ≠ 0)
  (h1 : (ρ n).blk = some b) (h2 : (ρ n).base = some ⟨b,0,none⟩) (h4 : (ρ n).cap = l'.length + rest'.length) (h5 : (ρ n).cap ≤ 9223372036854775807) (hf : Fr bor W w') (hne : ∀ b',b' ≠ b → w'.heap[b']? = w.heap[b']?) (hh : w'.heap[b]? = some (.cells (l'.map encZ ++ rest').toArray e0 (0,0))) :
  St bor W (updE ρ nm { ρ n with len := l'.length,es := 1,ents := [] }) (knR Kn nm { val := v,fresh := [.row (.int .i64) l' rk],writes := [(n,.gone)],touch := tc }) (appH { val := v,fresh := [.row (.int .i64) l' rk],writes := [(n,.gone)],touch := tc } nm Γ) w' := by
 rw [show knR Kn nm { val := v,fresh := [AObj.row (.int .i64) l' rk],writes := [(n,.gone)],touch := tc } = knN Kn nm by
  funext m; simp only [knR,knN,List.length_singleton]; congr 1; apply propext; omega]
 refine hst.swap (G := [n]) (o := AObj.row tI l' rk) (x := { ρ n with len := l'.length,es := 1,ents := [] }) hn hf (fun b' _ hb' => hne b' fun e => hb' (by rw [e]; exact h1)) (fun b' hb' => ⟨.inr ⟨n,by simp,by rw [hΓ]; rfl,hb'⟩,hst.own n b' (by rw [hΓ]; rfl) hb'⟩) (fun m p hp => ?_) trivial (fun _ h => by cases h) fun _ _ => ?_
 ·simp only [appH,List.length_singleton,lastW] at hp
  by_cases h6 : nm ≤ m ∧ m < nm + 1
  ·rw [if_pos h6,show m - nm = 0 by omega] at hp
   simp only [List.getElem?_cons_zero,live,Option.some.injEq] at hp
   exact .inl ⟨by omega,hp.symm⟩
  ·rw [if_neg h6] at hp
   by_cases h7 : m = n
   ·subst h7; simp [live] at hp
   ·refine .inr ⟨by omega,by simpa using h7,?_⟩
    simpa [Ne.symm h7,h7] using hp
 ·have hx : updE ρ nm { ρ n with len := l'.length,es := 1,ents := [] } nm = { ρ n with len := l'.length,es := 1,ents := [] } := by simp [updE]
  exact objZ hrk (by rw [hx]) (by rw [hx]) (by rw [hx]; exact h1) (by rw [hx]; exact h2) hh (by rw [hx]; exact h4) (by rw [hx]; exact h5)
theorem moveNil {bor : Bor} {W w : World} {ρ : Env} {Kn : Nat → Prop} {Γ : HP} {n nm rk : Nat} {tc : List Nat} {v : AV} (hst : St bor W ρ Kn Γ w) (hn : ¬ Kn nm) (hΓ : Γ n = some (.row tI [] rk)) (hrk : rk ≠ 0) (h1 : (ρ n).blk = none) (h2 : (ρ n).base = none) (h4 : (ρ n).cap = 0) :
  St bor W (updE ρ nm { ρ n with len := 0,es := 1,ents := [] }) (knR Kn nm { val := v,fresh := [.row (.int .i64) [] rk],writes := [(n,.gone)],touch := tc }) (appH { val := v,fresh := [.row (.int .i64) [] rk],writes := [(n,.gone)],touch := tc } nm Γ) w := by
 rw [show knR Kn nm { val := v,fresh := [AObj.row (.int .i64) [] rk],writes := [(n,.gone)],touch := tc } = knN Kn nm by
  funext m; simp only [knR,knN,List.length_singleton]; congr 1; apply propext; omega]
 refine hst.swap (G := [n]) (o := AObj.row tI [] rk) (x := { ρ n with len := 0,es := 1,ents := [] }) hn hst.fr (fun b' _ hb' => rfl) (fun b' hb' => by
  have : (ρ n).blk = some b' := hb'
  rw [h1] at this; cases this) (fun m p hp => ?_) trivial (fun _ h => by cases h) fun _ _ => ?_
 ·simp only [appH,List.length_singleton,lastW] at hp
  by_cases h6 : nm ≤ m ∧ m < nm + 1
  ·rw [if_pos h6,show m - nm = 0 by omega] at hp
   simp only [List.getElem?_cons_zero,live,Option.some.injEq] at hp
   exact .inl ⟨by omega,hp.symm⟩
  ·rw [if_neg h6] at hp
   by_cases h7 : m = n
   ·subst h7; simp [live] at hp
   ·refine .inr ⟨by omega,by simpa using h7,?_⟩
    simpa [Ne.symm h7,h7] using hp
 ·have hx : updE ρ nm { ρ n with len := 0,es := 1,ents := [] } nm = { ρ n with len := 0,es := 1,ents := [] } := by simp [updE]
  rw [objAt,hx]
  exact ⟨rfl,rfl,Nat.zero_le _,fun _ => (none,0),fun i v hv => by simp [rowComps,valsFrom] at hv,fun q u l' hq => by simp [rowComps] at hq,fun e => absurd e hrk,fun _ => .inl ⟨h1,rfl,h4,fun _ => h2⟩⟩
theorem compSpec_ok (hC : ∀ (blk off cap : Nat) (zs : List Int) (w : World), Sort.Holds encZ w blk off zs.toArray → zs.length ≤ 9223372036854775807 → zs.length ≤ cap →
      Calls P f #[.slice (some ⟨blk, off, none⟩) zs.length cap] w fun e w' => e = .returned (.slice (some ⟨blk, off, none⟩) (Lib.compact zs).length cap) ∧ ∃ q, w' = Sort.putRow encZ (Sort.ahead w q) blk off (Lib.compact zs ++ List.replicate (zs.length - (Lib.compact zs).length) 0).toArray)
    (hN : ∀ (a : Option Addr) (cap : Nat) (w : World), Calls P f #[.slice a 0 cap] w fun e w' => e = .returned (.slice a 0 cap) ∧ w' = w) : SpecOk P f compSpec := by
  intro X args hp nm k hs
  unfold compSpec at hs
  split at hs <;> try (exact hs.elim)
  rename_i n
  split at hs <;> try (exact hs.elim)
  rename_i l rk he
  split at hs <;> try (exact hs.elim)
  rename_i hrk
  obtain ⟨hrk, hrk3⟩ := not_or.1 hrk
  obtain ⟨hlen, _, hk⟩ := ob_spec hs
  have hlen := of_decide_eq_true hlen
  refine ⟨_, ⟨fun p hp' => ?_, ?_⟩, hk _ rfl⟩
  · simp only [List.mem_singleton] at hp'; subst hp'; rw [he]; simp
  intro bor W ρ Kn Γ w _ hok ht hfr hst
  have hn : ¬ Kn nm := by simpa using hfr 0 (by simp)
  have hΓ : Γ n = some (.row tI l rk) := by rw [ht n (by simp), he]
  obtain ⟨z1, z2, z3, z4⟩ := rowZ hst hΓ hrk hrk3
  have ea : ([AV.v (.one (.full n))].map (AV.conc ρ)).toArray = #[.slice (ρ n).base (ρ n).len (ρ n).cap] := rfl
  rcases z4 with ⟨h0, rfl, h3, h4⟩ | ⟨b, rest, e0, h1, h2, h3, h4, h5⟩
  · rw [ea, z1]
    refine (hN _ _ w).mono ?_
    rintro e w' ⟨rfl, rfl⟩
    refine ⟨_, ?_, updE_old hn, .inr (by simp), moveNil hst hn hΓ hrk h0 h4 h3⟩
    simp [AV.conc, A0.conc, Cell.conc, updE]
  · rw [ea, z1, h2]
    refine (hC b 0 _ l w (holdsZ h3) (by omega) z3).mono ?_
    rintro e w' ⟨rfl, m, rfl⟩
    have hcl := compact_le l
    have hown := hst.own n b (by rw [hΓ]; rfl) h1
    have hput : (Sort.putRow encZ (Sort.ahead w m) b 0 (Lib.compact l ++ List.replicate (l.length - (Lib.compact l).length) 0).toArray).heap[b]? = some (.cells ((compZ l).map encZ ++ (List.replicate (l.length - (Lib.compact l).length) (encZ 0) ++ rest)).toArray e0 (0, 0)) := by
      rw [putRow_heap (w := Sort.ahead w m) h3 (by simp; omega), List.map_append, List.map_replicate, List.append_assoc]; rfl
    have hcap : (ρ n).cap = (compZ l).length + (List.replicate (l.length - (Lib.compact l).length) (encZ 0) ++ rest).length := by
      rw [h4]; simp only [compZ, List.length_append, List.length_replicate]; omega
    refine ⟨_, ?_, updE_old hn, .inr (by simp), moveZ hst hn hΓ hrk h1 h2 hcap h5 (hst.fr.putZ hown) (fun b' hb' => putRow_heap_ne hb') hput⟩
    simp [AV.conc, A0.conc, Cell.conc, updE, h2, compZ]
end
end Go.Ev
