/- Proofs of printed conditions: how the parts are joined. -/
import Derived.Test.YtaipcbdilkcdbaaEvL
noncomputable section
set_option linter.unusedSectionVars false
set_option linter.unusedVariables false
set_option linter.unusedSimpArgs false
namespace Go.Ev
abbrev I2 : Type := Int × Int
abbrev I3 : Type := Int × (Int × Int)
abbrev I9 : Type := (Int × (Int × Int)) × ((Int × (Int × Int)) × (Int × (Int × Int)))
abbrev zz2 : Int × Int := ((0:Int),(0:Int))
abbrev zz3 : Int × (Int × Int) := ((0:Int),((0:Int),(0:Int)))
abbrev zz9 : (Int × (Int × Int)) × ((Int × (Int × Int)) × (Int × (Int × Int))) := (((0:Int),((0:Int),(0:Int))),(((0:Int),((0:Int),(0:Int))),((0:Int),((0:Int),(0:Int)))))
abbrev yi : Ty := .int .i64
abbrev yy3 : Ty := Ty.prod (Ty.int IntKind.i64) (Ty.prod (Ty.int IntKind.i64) (Ty.int IntKind.i64))
abbrev yy9 : Ty := Ty.prod (Ty.prod (Ty.int IntKind.i64) (Ty.prod (Ty.int IntKind.i64) (Ty.int IntKind.i64))) (Ty.prod (Ty.prod (Ty.int IntKind.i64) (Ty.prod (Ty.int IntKind.i64) (Ty.int IntKind.i64))) (Ty.prod (Ty.int IntKind.i64) (Ty.prod (Ty.int IntKind.i64) (Ty.int IntKind.i64))))
def rfOf (ps : List Nat) : Code → Option (Code × Code)
 | .seq a b => match rfOf ps a with | some q => some q | none => rfOf ps b
 | .cond _ a b => match rfOf ps a with | some q => some q | none => rfOf ps b
 | .loop c => rfOf ps c
 | .block _ c => rfOf ps c
 | .rangeFunc _ qs a b => if qs.toList = ps then some (a,b) else none
 | _ => none
def rfA (ps : List Nat) (c : Code) : Code := match rfOf ps c with | some q => q.1 | none => .skip
def rfB (ps : List Nat) (c : Code) : Code := match rfOf ps c with | some q => q.2 | none => .skip
def letV {α β : Type} (a : α) (f : α → β) : β := f a
def letP {α : Type} (a : α) (f : α → Prop) : Prop := f a
theorem cB_d {α : Type} {Q : α → Prop} {p : Prop} [Decidable p] {x y : α} {t1 t2 : Prop} (hq : Q (if p then x else y)) (h1 : p → Q x → t1) (h2 : ¬ p → Q y → t2) : cB (decide p) t1 t2 := by
 by_cases h : p
 ·rw [if_pos h] at hq; rw [decide_eq_true h]; exact h1 h hq
 ·rw [if_neg h] at hq; rw [decide_eq_false h]; exact h2 h hq
theorem cB_b {α : Type} {Q : α → Prop} {b : Bool} {x y : α} {t1 t2 : Prop} (hq : Q (if b = true then x else y)) (h1 : b = true → Q x → t1) (h2 : ¬ b = true → Q y → t2) : cB b t1 t2 := by
 cases b with
 | true => exact h1 rfl hq
 | false => exact h2 (by simp) hq
theorem ob_k {b : Bool} {t : Prop} (h : b = true) (ht : t) : ob b t := by subst h; exact ht
theorem and_t {b c : Bool} (h1 : b = true) (h2 : c = true) : (b && c) = true := by rw [h1,h2]; rfl
theorem let_k {α β : Type} {Q : β → Prop} {g : α} {F : α → β} {P t : α → Prop} (hp : letP g P) (hq : Q (letV g F)) (h : ∀ y,P y → Q (F y) → t y) : ∀ y,y = g → t y := by
 rintro y rfl; exact h _ hp hq
theorem let_0 {α β : Type} {Q : β → Prop} {g : α} {F : α → β} {t : α → Prop} (hq : Q (letV g F)) (h : ∀ y,Q (F y) → t y) : ∀ y,y = g → t y := by
 rintro y rfl; exact h _ hq
theorem ren_ok {π : List Src} {st st' : AS} (h1 : tmpsR π st.tmps st'.tmps) (h2 : heapR π st.heap π st'.heap) (h3 : nodupL (srcs π st'.heap) = true) : Weak st st' := ⟨π,h1,h2,h3⟩
theorem ren_same {π : List Src} {h : List AObj} {m : Nat} {o p : AObj} (h1 : liveAt h m = some p) (h2 : renO π o = some p) : objR π h (.same m) o := ⟨p,h1,h2⟩
theorem SpecsOk.ctxI {P : Program} {tt : List (Nat × TI)} {specs : List (Nat × Spec)} {X : Addr → Value → Prop} {lp : List (Nat × LSpec)} {its : List (Nat × ISpec)} (h : SpecsOk P specs) (hi : ItsOk P X its) : CtxOk P ⟨tt,specs,X,lp,[],its⟩ := ⟨h,YsOk.nil P,hi⟩
structure Vc (p : Prop) : Prop where
 h : p
theorem Vc.eq {p q : Prop} (e : p = q) (h : q) : Vc p := ⟨e ▸ h⟩
def topPin : List AObj → Nat → Nat → Nat
 | [],_,b => b
 | .pin _ _ :: r,i,_ => topPin r (i + 1) (i + 1)
 | _ :: r,i,b => topPin r (i + 1) b
def altL (l : List (Nat × LSpec)) : LSpec := fun st K => match lookN l (topPin st.heap 0 0) with
 | some sp => sp st K
 | none => False
def atLoop (i:Nat) (f : Loop → LSpec) : LSpec := fun st K => match st.heap[i]? with
 | some (.loop r _ _) => f r st K
 | _ => False
def atPin (i:Nat) (f : Env → LSpec) : LSpec := fun st K => match st.heap[i]? with
 | some (.pin ρ _) => f ρ st K
 | _ => False
structure CertOk (ctx : Ctx) (c : Code) (id:Nat) (sp : LSpec) : Prop where
 h : ∀ st K,sp st K → codeE ctx c st (wrapB id (orWeak K))
def certL (ctx : Ctx) (c : Code) (id:Nat) {T : Type} (sp : T → LSpec) : LSpec := fun st K => ∃ t : T,CertOk ctx c id (sp t) ∧ sp t st K
def ysE (n:Nat) (tmps : List AV) (r : Loop) (ρ0 : Env) (ps : List Nat) (co : Ctx) (fn : Func) : List (Nat × Spec) := [(n,yldG noX n tmps r ρ0 ps.toArray (codeE co (rfA ps (bodyOf fn))) (codeE co (rfB ps (bodyOf fn))))]
def LOk (ctx : Ctx) (c : Code) (id:Nat) (sp : LSpec) : Prop := ∀ st K,sp st K → Vc (codeE ctx c st (wrapB id (orWeak K)))
section
variable {ctx : Ctx} {c : Code} {id : Nat}
theorem LOk.nil : LOk ctx c id (altL []) := fun _ _ h => h.elim
theorem LOk.cons {n : Nat} {sp : LSpec} {l : List (Nat × LSpec)} (h : LOk ctx c id sp) (hl : LOk ctx c id (altL l)) : LOk ctx c id (altL ((n,sp) :: l)) := fun st K hk => by
 unfold altL lookN at hk
 by_cases e : n = topPin st.heap 0 0
 ·rw [if_pos e] at hk; exact h st K hk
 ·rw [if_neg e] at hk; exact hl st K hk
theorem LOk.atLoop {i : Nat} {f : Loop → LSpec} (h : ∀ r,LOk ctx c id (f r)) : LOk ctx c id (atLoop i f) := fun st K hk => by
 unfold Ev.atLoop at hk
 split at hk
 ·exact h _ st K hk
 ·exact hk.elim
theorem LOk.atPin {i : Nat} {f : Env → LSpec} (h : ∀ r,LOk ctx c id (f r)) : LOk ctx c id (atPin i f) := fun st K hk => by
 unfold Ev.atPin at hk
 split at hk
 ·exact h _ st K hk
 ·exact hk.elim
theorem LOk.cert {T : Type} {sp : T → LSpec} : LOk ctx c id (certL ctx c id sp) := fun st K ⟨_,h,hs⟩ => ⟨h.h st K hs⟩
theorem LOk.certOk {sp : LSpec} (h : LOk ctx c id sp) : CertOk ctx c id sp := ⟨fun st K hs => (h st K hs).h⟩
end
section
variable {P : Program} {tt : List (Nat × TI)} {specs : List (Nat × Spec)}
theorem SpecOk.fnT' (hT : TOk P tt) (hS : SpecsOk P specs) (hm : P.follows .mixedOrders = true) {n : FuncId} {fn : Func} (hf : P.funcs[n]? = some fn) (hn : nodupB (ids (bodyOf fn)) = true) (p r : Par) (pre : p.ty.T → Prop) (f : p.ty.T → r.ty.T) (hres : r.res = true)
  (h : ∀ x,pre x → ∃ lp its,ItsOk P noX its ∧ LpsOk P noX (bodyOf fn) lp ∧ Vc (fnE ⟨tt,specs,noX,lp,[],its⟩ fn (argsE p x) (heapE p x) (retE r (· = f x)))) : SpecOk P n (fnSpec ⟨p,r,pre,f⟩) :=
 SpecOk.fnT (s := ⟨p,r,pre,f⟩) hT hS hm hf hn hres fun x hx => by
  obtain ⟨lp,its,h1,h2,h3⟩ := h x hx
  exact ⟨lp,its,h1,h2,h3.h⟩
theorem LpsOk.consL (hT : TOk P tt) {X : Addr → Value → Prop} {lp : List (Nat × LSpec)} {ys : List (Nat × Spec)} {its : List (Nat × ISpec)} (hC : CtxOk P ⟨tt,specs,X,lp,ys,its⟩) (hm : P.follows .mixedOrders = true) {c b : Code} {id : Nat} {sp : LSpec} (hl : LpsOk P X c lp) (hn' : nodupB (ids c) = true) (hb : blkOf id c = some b)
  (h : LOk ⟨tt,specs,X,lp,ys,its⟩ b id sp) : LpsOk P X c ((id,sp) :: lp) := LpsOk.cons hT hC hm hl hn' hb fun st K hk => (h st K hk).h
theorem loopSp_okV {S R : Type} [Inhabited R] {ctx : Ctx} {c : Code} {id : Nat} {tm : S → AS} {step : S → S ⊕ R} {pre : S → Prop} {out : R → (Exit → AS → Prop) → Prop}
  (hr : ∀ s K KN,pre s → stepQ tm out K KN (step s) → Vc (codeE ctx c (tm s) (KB id K KN))) (st : AS) (K : Exit → AS → Prop) (h : loopSp tm step pre out st K) : Vc (codeE ctx (.loop c) st (wrapB id (orWeak K))) := ⟨loopSp_ok (fun s K KN h1 h2 => (hr s K KN h1 h2).h) st K h⟩
end
end Go.Ev
