/- Each operation does what 'opE' says; a call does what its contract says. -/
import Derived.Test.YtleemdeodmdnkaaEvE0
import Derived.Test.YtleemdeodmdnkaaEvD6
noncomputable section
set_option linter.unusedSectionVars false
set_option linter.unusedVariables false
set_option linter.unusedSimpArgs false
namespace Go.Ev
open Go.RowKit

def CallLoc (P : Program) (f : FuncId) (X : Addr → Value → Prop) (args : List AV) (hp : HP) (nm:Nat) (r : Rec) : Prop :=
 (∀ p ∈ r.writes,hp p.1 ≠ none) ∧ ∀ bor W ρ Kn Γ w,XOk bor W X → (∀ x ∈ args,x.ok Kn) → (∀ m ∈ r.touch,Γ m = hp m) → (∀ i,i < r.fresh.length → ¬ Kn (nm + i)) → St bor W ρ Kn Γ w →
  Calls P f (args.map (AV.conc ρ)).toArray w fun e w' => ∃ ρ',e = .returned (r.val.conc ρ') ∧ (∀ m,Kn m → ρ' m = ρ m) ∧ r.val.ok (knR Kn nm r) ∧ St bor W ρ' (knR Kn nm r) (appH r nm Γ) w'

def SpecOk (P : Program) (f : FuncId) (s : Spec) : Prop := ∀ X args hp nm k,s X args hp nm k → ∃ r,CallLoc P f X args hp nm r ∧ k r

def Enters (P : Program) (f : FuncId) : Prop := ∀ args w,(callFunc f args).run P w = .ok (.enter f args) w

def SpecsOk (P : Program) (specs : List (Nat × Spec)) : Prop := ∀ f s,lookN specs f = some s → Enters P f ∧ SpecOk P f s

theorem SpecsOk.nil (P : Program) : SpecsOk P [] := fun _ _ h => by cases h
theorem SpecsOk.cons {P : Program} {f : FuncId} {s : Spec} {l : List (Nat × Spec)} (he : Enters P f) (h : SpecOk P f s) (hl : SpecsOk P l) : SpecsOk P ((f,s) :: l) := by
 intro g q hg
 unfold lookN at hg
 split at hg
 ·rename_i e; subst e; cases hg; exact ⟨he,h⟩
 ·exact hl g q hg

def YldK (P : Program) (n:Nat) (X : Addr → Value → Prop) (args : List AV) (hp : HP) (nm:Nat) (k : Rec → Prop) : Prop :=
 ∀ ro m bor W ρ w,XOk bor W X → (∀ x ∈ args,x.ok (· < nm)) → St bor W ρ (· < nm) hp w →
  ∃ l f tmps assign body,(ρ n).1 = some l ∧ (Instr.yield l (args.map (AV.conc ρ)).toArray).run P w = .ok (.round l f tmps assign body) w ∧
   RoundIn (fw ro) m P l f tmps assign body w fun e w' => ∃ r ρ',k r ∧ (∀ p ∈ r.writes,hp p.1 ≠ none) ∧ e = .returned (r.val.conc ρ') ∧ (∀ m,m < nm → ρ' m = ρ m) ∧ r.val.ok (knR (· < nm) nm r) ∧ St bor W ρ' (knR (· < nm) nm r) (appH r nm hp) w'
def YsOk (P : Program) (ys : List (Nat × Spec)) : Prop := ∀ n s,lookN ys n = some s → ∀ X args hp nm k,s X args hp nm k → YldK P n X args hp nm k
def ISpecOk (P : Program) (X : Addr → Value → Prop) (f : FuncId) (isp : ISpec) : Prop := ∀ ys args heap R,isp ys args heap R → YsOk P ys → ∀ bor W ρ w,XOk bor W X → (∀ x ∈ args,x.ok (· < heap.length)) → St bor W ρ (· < heap.length) (liveAt heap) w →
 Calls P f (args.map (AV.conc ρ)).toArray w fun e w' => ∃ st ρ' v,e = .returned (v.conc ρ') ∧ v.ok (· < st.heap.length) ∧ R v st ∧ St bor W ρ' (· < st.heap.length) (liveAt st.heap) w'
def ItsOk (P : Program) (X : Addr → Value → Prop) (its : List (Nat × ISpec)) : Prop := ∀ f isp,lookN its f = some isp → Enters P f ∧ ISpecOk P X f isp
structure CtxOk (P : Program) (ctx : Ctx) : Prop where
 sp : SpecsOk P ctx.specs
 ys : YsOk P ctx.ys
 its : ItsOk P ctx.X ctx.its
structure CtxOk0 (P : Program) (ctx : Ctx) : Prop where
 sp : SpecsOk P ctx.specs
 ys : ctx.ys = []
 its : ctx.its = []
theorem YsOk.nil (P : Program) : YsOk P [] := fun _ _ h => by cases h
theorem ItsOk.nil (P : Program) (X : Addr → Value → Prop) : ItsOk P X [] := fun _ _ h => by cases h
theorem SpecsOk.ctx {P : Program} {tt : List (Nat × TI)} {specs : List (Nat × Spec)} {X : Addr → Value → Prop} {lp : List (Nat × LSpec)} (h : SpecsOk P specs) : CtxOk P ⟨tt,specs,X,lp,[],[]⟩ := ⟨h,YsOk.nil P,ItsOk.nil P X⟩

section
variable (P : Program) (X : Addr → Value → Prop)
def OpLoc (o : Oper) (ev : Operand → AV) (hp : HP) (nm:Nat) (r : Rec) : Prop :=
 (∀ p ∈ r.writes,hp p.1 ≠ none) ∧ ∀ ro n bor W ρ Kn Γ w a next Q,XOk bor W X → (∀ x ∈ o.op.operands,a.eval x = (ev x).conc ρ) → (∀ x ∈ o.op.operands,(ev x).ok Kn) → (∀ m ∈ r.touch,Γ m = hp m) →
  (∀ i,i < r.fresh.length → ¬ Kn (nm + i)) → St bor W ρ Kn Γ w →
  (∀ ρ' w',(∀ m,Kn m → ρ' m = ρ m) → r.val.ok (knR Kn nm r) → St bor W ρ' (knR Kn nm r) (appH r nm Γ) w' → next (a.put o.dst (r.val.conc ρ')) w') →
  o.wpIn (fw ro) n P a w next Q
end

section
variable {P : Program} {X : Addr → Value → Prop} {hp : HP} {nm : Nat} {k : Rec → Prop} {o : Oper} {ev : Operand → AV}

theorem OpLoc.of_sem {okv : (Nat → Prop) → Prop} {f : Env → Sem Value} {r : Rec} (hs : SemLoc P X hp nm okv f (fun ρ => r.val.conc ρ) r)
  (hok : ∀ Kn,(∀ x ∈ o.op.operands,(ev x).ok Kn) → okv Kn) (hd : ∀ c,o.op ≠ .defer c)
  (hx : ∀ (a : Act) (ρ : Env),(∀ x ∈ o.op.operands,a.eval x = (ev x).conc ρ) → execOp a.eval o = (do pure (.value (← f ρ)))) : OpLoc P X o ev hp nm r := by
 refine ⟨hs.1,?_⟩
 intro ro n bor W ρ Kn Γ w a next Q hX he hk ht hf hst hnext
 obtain ⟨ρ',w',hrun,hag,hvk,hst'⟩ := hs.2 bor W ρ Kn Γ w hX (hok Kn hk) ht hf hst
 refine ⟨fun _ _ => trivial,?_⟩
 rw [Oper.semAt_eq _ _ _ hd,hx a ρ he]
 simp only [Sem.run_bind,hrun,Result.andThen_ok,Sem.run_pure,Oper.uponIn]
 exact hnext ρ' w' hag hvk hst'

theorem OpLoc.of_unit {okv : (Nat → Prop) → Prop} {f : Env → Sem Unit} {r : Rec} (hs : SemLoc P X hp nm okv f (fun _ => ()) r) (hv : r.val = und)
  (hok : ∀ Kn,(∀ x ∈ o.op.operands,(ev x).ok Kn) → okv Kn) (hd : ∀ c,o.op ≠ .defer c)
  (hx : ∀ (a : Act) (ρ : Env),(∀ x ∈ o.op.operands,a.eval x = (ev x).conc ρ) → execOp a.eval o = (do f ρ; pure .skip)) : OpLoc P X o ev hp nm r := by
 refine ⟨hs.1,?_⟩
 intro ro n bor W ρ Kn Γ w a next Q hX he hk ht hf hst hnext
 obtain ⟨ρ',w',hrun,hag,hvk,hst'⟩ := hs.2 bor W ρ Kn Γ w hX (hok Kn hk) ht hf hst
 refine ⟨fun _ _ => trivial,?_⟩
 rw [Oper.semAt_eq _ _ _ hd,hx a ρ he]
 simp only [Sem.run_bind,hrun,Result.andThen_ok,Sem.run_pure,Oper.uponIn]
 have := hnext ρ' w' hag hvk hst'
 rw [hv] at this; exact this

theorem OpLoc.same {v : AV} {tc : List Nat} (hd : ∀ c,o.op ≠ .defer c) (hv : ∀ Kn,(∀ x ∈ o.op.operands,(ev x).ok Kn) → v.ok Kn)
  (hx : ∀ (a : Act) (ρ : Env) (Γ : HP) (bor : Bor) (W w : World) (Kn : Nat → Prop),(∀ x ∈ o.op.operands,a.eval x = (ev x).conc ρ) → (∀ m ∈ tc,Γ m = hp m) → St bor W ρ Kn Γ w → (execOp a.eval o).run P w = .ok (.value (v.conc ρ)) w) :
  OpLoc P X o ev hp nm { val := v,touch := tc } := by
 refine ⟨fun p hp => absurd hp (by simp),?_⟩
 intro ro n bor W ρ Kn Γ w a next Q hX he hk ht hf hst hnext
 refine ⟨fun _ _ => trivial,?_⟩
 rw [Oper.semAt_eq _ _ _ hd,hx a ρ Γ bor W w Kn he ht hst]
 simp only [Oper.uponIn]
 exact hnext ρ w (fun _ _ => rfl) (by rw [knR_nil]; exact hv Kn hk) (by rw [knR_nil,appH_nil]; exact hst)

theorem callsIn_fw {ro : Option Nat} {n : Nat} {f : FuncId} {args : Array Value} {w : World} {R : Ending → World → Prop} (h : Calls P f args w R) : CallsIn (fw ro) n P f args w R := by
 have := (callsIn_wide (n := n)).2 h
 exact this

theorem mapE_map (ev : Operand → AV) (l : List Operand) : mapE ev l = l.map ev := by induction l <;> simp_all [mapE]

theorem toRaw0_conc {a : A0} {v : Value} (h : toRaw0 a = some v) (ρ : Env) : a.conc ρ = v := by
 have hl : ∀ (cs : List Cell) (l : List Value),toRaw0.rawAll cs = some l → cs.map (Cell.conc ρ) = l := by
  intro cs
  induction cs with
  | nil => intro l h; simp only [toRaw0.rawAll,Option.some.injEq] at h; subst h; rfl
  | cons c r ih =>
   intro l h
   cases c <;> simp only [toRaw0.rawAll,Option.map_eq_some_iff] at h <;> try (cases h; done)
   obtain ⟨l',h1,rfl⟩ := h
   simp [Cell.conc,ih l' h1]
 cases a with
 | one c => cases c <;> simp [toRaw0] at h; subst h; rfl
 | agg cs =>
  simp only [toRaw0,Option.map_eq_some_iff] at h
  obtain ⟨l,h1,rfl⟩ := h
  simp [A0.conc,hl cs l h1]
theorem toRawL_conc (ρ : Env) : ∀ (l : List AV) (vs : List Value),toRawL l = some vs → l.map (AV.conc ρ) = vs
 | [],vs,h => by simp only [toRawL,Option.some.injEq] at h; subst h; rfl
 | x :: r,vs,h => by
  simp only [toRawL] at h
  split at h
  ·rename_i v l h1 h2
   cases h
   cases x with
   | v a => simp [AV.conc,toRaw0_conc h1,toRawL_conc ρ r l h2]
   | tup l => simp [toRaw] at h1
   | dead => simp [toRaw] at h1
  ·cases h
theorem toRef_conc {x : AV} {q : Ref} (h : toRef x = some q) (ρ : Env) : x.conc ρ = q.conc ρ ∧ ∀ Kn,x.ok Kn → q.ok Kn := by
 unfold toRef at h
 split at h <;> simp at h <;> subst h
 ·exact ⟨rfl,fun _ h => h⟩
 ·exact ⟨rfl,fun _ h => h⟩
 ·exact ⟨rfl,fun _ _ => trivial⟩
 ·exact ⟨rfl,fun _ h => h⟩
 ·exact ⟨rfl,fun _ h => h⟩
theorem toRefL_conc (ρ : Env) : ∀ (l : List AV) (qs : List Ref),toRefL l = some qs → l.map (AV.conc ρ) = qs.map (Ref.conc ρ) ∧ ∀ Kn,(∀ x ∈ l,x.ok Kn) → ∀ q ∈ qs,q.ok Kn
 | [],qs,h => by simp only [toRefL,Option.some.injEq] at h; subst h; exact ⟨rfl,fun _ _ q hq => absurd hq (by simp)⟩
 | x :: r,qs,h => by
  simp only [toRefL] at h
  split at h
  ·rename_i v l h1 h2
   cases h
   obtain ⟨e1,k1⟩ := toRef_conc h1 ρ
   obtain ⟨e2,k2⟩ := toRefL_conc ρ r l h2
   exact ⟨by simp [e1,e2],fun Kn hk q hq => by
    rcases List.mem_cons.1 hq with rfl | hq
    ·exact k1 Kn (hk x (by simp))
    ·exact k2 Kn (fun y hy => hk y (by simp [hy])) q hq⟩
  ·cases h
theorem ofRef_conc (ρ : Env) (q : Ref) : (ofRef q).conc ρ = q.conc ρ := by
 cases q with
 | ext v => exact ofV_conc v ρ
 | loc n off => rfl
 | elem n j => rfl
 | full n => rfl
 | mp n => rfl
theorem ofRef_ok {Kn : Nat → Prop} {q : Ref} (h : q.ok Kn) : (ofRef q).ok Kn := by cases q <;> first | exact ofV_ok _ _ | exact h
theorem refCell_conc (ρ : Env) (q : Ref) : (refCell q).conc ρ = q.conc ρ := by cases q <;> rfl
theorem refCell_ok {Kn : Nat → Prop} {q : Ref} (h : q.ok Kn) : (refCell q).ok Kn := by cases q <;> first | trivial | exact h
theorem recvA_conc (ρ : Env) (agg : Bool) (rs : List Ref) : (recvA agg rs).conc ρ = recvV agg (rs.map (Ref.conc ρ)) := by
 unfold recvA recvV
 cases agg with
 | true => simp only [AV.conc,A0.conc,List.map_map]; congr 2; exact List.map_congr_left fun q _ => refCell_conc ρ q
 | false => match rs with
  | [] => rfl
  | [r] => exact refCell_conc ρ r
  | _ :: _ :: _ => rfl
theorem recvA_ok {Kn : Nat → Prop} {agg : Bool} {rs : List Ref} (h : ∀ r ∈ rs,r.ok Kn) : (recvA agg rs).ok Kn := by
 unfold recvA
 cases agg with
 | true => intro c hc; obtain ⟨r,hr,rfl⟩ := List.mem_map.1 hc; exact refCell_ok (h r hr)
 | false => match rs,h with
  | [],_ => intro a ha; cases ha
  | [r],h => exact refCell_ok (h r (by simp))
  | _ :: _ :: _,_ => intro a ha; cases ha
theorem cloE_spec {q : Cell} {g : FuncId} {fs cs : List AV} (h : cloE q = some (g,fs,cs)) :
  (∀ ρ : Env,q.conc ρ = .func (.func g) (fs.map (AV.conc ρ)).toArray (cs.map (AV.conc ρ)).toArray) ∧ ∀ Kn,q.ok Kn → (∀ x ∈ fs,x.ok Kn) ∧ ∀ x ∈ cs,x.ok Kn := by
 unfold cloE at h
 split at h
 ·cases h
  rename_i first cap
  refine ⟨fun ρ => ?_,fun Kn hk => ⟨fun x hx => ?_,fun x hx => ?_⟩⟩
  ·have e1 : List.map (AV.conc ρ) (first.map ofV) = first := by rw [List.map_map]; exact (List.map_congr_left fun v _ => ofV_conc v ρ).trans (List.map_id _)
   have e2 : List.map (AV.conc ρ) (cap.map ofRef) = cap.map (Ref.conc ρ) := by rw [List.map_map]; exact List.map_congr_left fun v _ => ofRef_conc ρ v
   rw [e1,e2]; rfl
  ·obtain ⟨v,_,rfl⟩ := List.mem_map.1 hx; exact ofV_ok _ _
  ·obtain ⟨r,hr,rfl⟩ := List.mem_map.1 hx; exact ofRef_ok (hk r hr)
 ·cases h
  refine ⟨fun ρ => ?_,fun Kn hk => ⟨fun x hx => ?_,fun x hx => by cases hx⟩⟩
  ·simp only [List.map_cons,List.map_nil,recvA_conc]; rfl
  ·rw [List.mem_singleton] at hx; subst hx; exact recvA_ok hk
 ·cases h
theorem cellRef_conc {c : Cell} {r : Ref} (h : cellRef c = some r) : (∀ ρ : Env,r.conc ρ = c.conc ρ) ∧ (∀ ρ : Env,(c.conc ρ).oneCell' = true) ∧ ∀ Kn,c.ok Kn → r.ok Kn := by
 unfold cellRef at h
 split at h
 ·cases h; exact ⟨fun _ => rfl,fun _ => rfl,fun _ h => h⟩
 ·cases h; exact ⟨fun _ => rfl,fun _ => rfl,fun _ h => h⟩
 ·split at h
  ·rename_i hv
   cases h; exact ⟨fun _ => rfl,fun ρ => Cell.conc_one (c := .raw _) hv ρ,fun _ _ => trivial⟩
  ·cases h
 ·cases h; exact ⟨fun _ => rfl,fun _ => rfl,fun _ h => h⟩
 ·cases h; exact ⟨fun _ => rfl,fun _ => rfl,fun _ h => h⟩
 ·cases h
theorem cellRefs_conc : ∀ {cs : List Cell} {rs : List Ref},cellRefs cs = some rs → (∀ ρ : Env,rs.map (Ref.conc ρ) = cs.map (Cell.conc ρ)) ∧ ∀ Kn,(∀ c ∈ cs,c.ok Kn) → ∀ r ∈ rs,r.ok Kn
 | [],rs,h => by simp only [cellRefs,Option.some.injEq] at h; subst h; simp
 | c :: l,rs,h => by
  simp only [cellRefs] at h
  split at h
  ·rename_i x m h1 h2
   cases h
   obtain ⟨e1,e2⟩ := cellRefs_conc h2
   obtain ⟨e3,_,e4⟩ := cellRef_conc h1
   refine ⟨fun ρ => by simp [e1,e3],fun Kn hk r hr => ?_⟩
   rcases List.mem_cons.1 hr with rfl | hr
   ·exact e4 Kn (hk c (by simp))
   ·exact e2 Kn (fun c hc => hk c (by simp [hc])) r hr
  ·cases h
theorem recvOf_spec {v : AV} {agg : Bool} {rs : List Ref} (h : recvOf v = some (agg,rs)) : (∀ ρ : Env,recvV agg (rs.map (Ref.conc ρ)) = v.conc ρ) ∧ ∀ Kn,v.ok Kn → ∀ r ∈ rs,r.ok Kn := by
 unfold recvOf at h
 split at h
 ·split at h
  ·rename_i l hl
   cases h
   obtain ⟨e1,e2⟩ := cellRefs_conc hl
   exact ⟨fun ρ => by rw [e1]; rfl,e2⟩
  ·cases h
 ·split at h
  ·rename_i r hr
   cases h
   obtain ⟨e1,_,e2⟩ := cellRef_conc hr
   refine ⟨fun ρ => e1 ρ,fun Kn hk r hr => ?_⟩
   rw [List.mem_singleton] at hr; subst hr; exact e2 Kn hk
  ·cases h
 ·cases h
end

section
variable {P : Program} {ctx : Ctx} {hp : HP} {nm : Nat} {k : Rec → Prop} {o : Oper} {ev : Operand → AV}

theorem callE_loc (hT : TOk P ctx.tt) (hS : CtxOk0 P ctx) {c : Call} (ho : o.op = .call c) (h : callE ctx c ev hp nm k) : ∃ r,OpLoc P ctx.X o ev hp nm r ∧ k r := by
 obtain ⟨callee,args,argTypes⟩ := c
 have hd : ∀ c,o.op ≠ .defer c := fun c e => by rw [ho] at e; cases e
 have hargs : ∀ (a : Act) (ρ : Env),(∀ x ∈ o.op.operands,a.eval x = (ev x).conc ρ) → args.map a.eval = ((mapE ev args.toList).map (AV.conc ρ)).toArray := by
  intro a ρ he
  apply Array.ext'
  simp only [Array.toList_map,mapE_map,List.map_map]
  refine List.map_congr_left fun x hx => he x ?_
  rw [ho]; simp [Op.operands,Call.operands,Array.mem_toList_iff.1 hx]
 have hargk : ∀ Kn,(∀ x ∈ o.op.operands,(ev x).ok Kn) → ∀ x ∈ mapE ev args.toList,x.ok Kn := by
  intro Kn hk x hx
  rw [mapE_map] at hx
  obtain ⟨y,hy,rfl⟩ := List.mem_map.1 hx
  exact hk y (by rw [ho]; simp [Op.operands,Call.operands,Array.mem_toList_iff.1 hy])
 have enter : ∀ (g : FuncId) (s : Spec) (full : List AV) (f : Operand) (fnv : AV),callee = .value f → ev f = fnv → lookN ctx.specs g = some s → s ctx.X full hp nm k →
   (∀ Kn,(∀ x ∈ o.op.operands,(ev x).ok Kn) → ∀ x ∈ full,x.ok Kn) →
   (∀ (a : Act) (ρ : Env) (w : World),(∀ x ∈ o.op.operands,a.eval x = (ev x).conc ρ) → (execOp a.eval o).run P w = .ok (.enter g (full.map (AV.conc ρ)).toArray) w) → ∃ r,OpLoc P ctx.X o ev hp nm r ∧ k r := by
  intro g s full f fnv _ _ hg hs hfk hrun
  obtain ⟨r,hr,hkr⟩ := (hS.sp g s hg).2 ctx.X full hp nm k hs
  refine ⟨r,⟨hr.1,?_⟩,hkr⟩
  intro ro n bor W ρ Kn Γ w a next Q hX he hk ht hf hst hnext
  refine ⟨fun _ _ => trivial,?_⟩
  rw [Oper.semAt_eq _ _ _ hd,hrun a ρ w he]
  simp only [Oper.uponIn]
  refine ⟨fun h => by simp [fw] at h,callsIn_fw ?_⟩
  refine (hr.2 bor W ρ Kn Γ w hX (hfk Kn hk) ht hf hst).mono ?_
  rintro e w' ⟨ρ',rfl,hag,hvk,hst'⟩
  exact hnext ρ' w' hag hvk hst'
 unfold callE at h
 dsimp only at h
 split at h
 ·rename_i b
  obtain ⟨r,hr,hkr⟩ := builtinE_loc (P := P) (nm := nm) hT h o.type (args.map fun | .const _ => true | _ => false)
  refine ⟨r,⟨hr.1,?_⟩,hkr⟩
  intro ro n bor W ρ Kn Γ w a next Q hX he hk ht hf hst hnext
  obtain ⟨ρ',w',hrun,hag,hvk,hst'⟩ := hr.2 bor W ρ Kn Γ w hX (hargk Kn hk) ht hf hst
  refine ⟨fun _ _ => trivial,?_⟩
  rw [Oper.semAt_eq _ _ _ hd]
  have : (execOp a.eval o).run P w = .ok (.value (r.val.conc ρ')) w' := by
   simp only [execOp,ho,resolve,Sem.run_bind,Sem.run_pure,Result.andThen_ok,invoke]
   rw [hargs a ρ he]
   exact hrun
  rw [this]
  simp only [Oper.uponIn]
  exact hnext ρ' w' hag hvk hst'
 ·rename_i f
  have hfm : f ∈ o.op.operands := by rw [ho]; simp [Op.operands,Call.operands]
  split at h
  ·rename_i q hev
   split at h
   ·rename_i g fs cs hq
    obtain ⟨hqc,hqk⟩ := cloE_spec hq
    split at h
    ·rename_i s hg
     refine enter g s _ f _ rfl hev hg h ?_ ?_
     ·intro Kn hk x hx
      have hfk := hk f hfm
      rw [hev] at hfk
      obtain ⟨k1,k2⟩ := hqk Kn hfk
      rcases List.mem_append.1 hx with hx | hx
      ·rcases List.mem_append.1 hx with hx | hx
       ·exact k1 x hx
       ·exact hargk Kn hk x hx
      ·exact k2 x hx
     ·intro a ρ w he
      have hf := he f hfm
      rw [hev] at hf
      simp only [execOp,ho,resolve,Sem.run_bind,hf,AV.conc,A0.conc,hqc ρ,Deferred.ofValue,Sem.run_pure,Result.andThen_ok,invoke]
      rw [hargs a ρ he,(hS.sp g s hg).1]
      congr 2
      apply Array.ext'
      simp [List.map_append,-List.map_map]
    ·rw [hS.its] at h
     exact h.elim
   ·split at h
    ·rename_i g first cap hq
     split at h
     ·rename_i s hg
      refine enter g s _ f _ rfl hev hg h ?_ ?_
      ·intro Kn hk x hx
       rcases List.mem_append.1 hx with hx | hx
       ·rcases List.mem_append.1 hx with hx | hx
        ·obtain ⟨v,_,rfl⟩ := List.mem_map.1 hx; exact ofV_ok _ _
        ·exact hargk Kn hk x hx
       ·obtain ⟨q,hq,rfl⟩ := List.mem_map.1 hx; exact ofV_ok _ _
      ·intro a ρ w he
       have hf := he f hfm
       rw [hev] at hf
       simp only [execOp,ho,resolve,Sem.run_bind,hf,AV.conc,A0.conc,Cell.conc,Deferred.ofValue,Sem.run_pure,Result.andThen_ok,invoke]
       rw [hargs a ρ he,(hS.sp g s hg).1]
       congr 2
       apply Array.ext'
       have e1 : ∀ l : List Value,List.map (AV.conc ρ) (l.map ofV) = l := fun l => by rw [List.map_map]; exact (List.map_congr_left fun v _ => ofV_conc v ρ).trans (List.map_id _)
       simp [List.map_append,-List.map_map,e1]
     ·exact h.elim
    ·rw [hS.ys] at h
     exact h.elim
    ·exact h.elim
  ·exact h.elim
 ·exact h.elim

theorem opE_loc (hT : TOk P ctx.tt) (hS : CtxOk0 P ctx) (h : opE ctx o.op ev hp nm k) : ∃ r,OpLoc P ctx.X o ev hp nm r ∧ k r := by
 unfold opE at h
 split at h
 ·rename_i x ho
  exact ⟨_,OpLoc.same (fun c e => by rw [ho] at e; cases e) (fun Kn hk => hk x (by rw [ho]; simp [Op.operands])) fun a ρ Γ bor W w Kn he _ _ => by simp [execOp,ho,he x (by rw [ho]; simp [Op.operands])],h⟩
 ·rename_i x ho
  exact ⟨_,OpLoc.same (fun c e => by rw [ho] at e; cases e) (fun Kn hk => hk x (by rw [ho]; simp [Op.operands])) fun a ρ Γ bor W w Kn he _ _ => by simp [execOp,ho,he x (by rw [ho]; simp [Op.operands])],h⟩
 ·rename_i c x y ho
  split at h
  ·rename_i t hc
   cases t with
   | true =>
    refine ⟨_,OpLoc.same (fun c e => by rw [ho] at e; cases e) (fun Kn hk => hk x (by rw [ho]; simp [Op.operands])) fun a ρ Γ bor W w Kn he _ _ => ?_,h⟩
    have h1 := he c (by rw [ho]; simp [Op.operands])
    rw [hc] at h1
    simp [execOp,ho,h1,AV.conc,A0.conc,Cell.conc,asBool,he x (by rw [ho]; simp [Op.operands])]
   | false =>
    refine ⟨_,OpLoc.same (fun c e => by rw [ho] at e; cases e) (fun Kn hk => hk y (by rw [ho]; simp [Op.operands])) fun a ρ Γ bor W w Kn he _ _ => ?_,h⟩
    have h1 := he c (by rw [ho]; simp [Op.operands])
    rw [hc] at h1
    simp [execOp,ho,h1,AV.conc,A0.conc,Cell.conc,asBool,he y (by rw [ho]; simp [Op.operands])]
  ·exact h.elim
 ·rename_i t ho
  split at h
  ·rename_i i hi
   exact ⟨_,OpLoc.of_sem (alloc_loc hT hi) (fun _ _ => trivial) (fun c e => by rw [ho] at e; cases e) fun a ρ he => by simp [execOp,ho],h⟩
  ·exact h.elim
 ·rename_i t x ho
  split at h
  ·rename_i xs hxs
   exact ⟨_,OpLoc.of_sem (box_loc hxs (ctx := ctx)) (fun Kn hk => hk x (by rw [ho]; simp [Op.operands])) (fun c e => by rw [ho] at e; cases e) fun a ρ he => by simp [execOp,ho,he x (by rw [ho]; simp [Op.operands])],h⟩
  ·exact h.elim
 ·rename_i t parts ho
  split at h
  ·rename_i i hi
   obtain ⟨r,h1,h2⟩ := buildE_loc (nm := nm) (hp := hp) hT hi h
   refine ⟨r,OpLoc.of_sem h1 (fun Kn hk p hp => hk p.2 ?_) (fun c e => by rw [ho] at e; cases e) fun a ρ he => ?_,h2⟩
   ·rw [ho]; simp only [Op.operands,List.mem_toArray,List.mem_map]; exact ⟨p,hp,rfl⟩
   ·have : (parts.map fun (i,x) => (i,a.eval x)) = parts.map fun (i,x) => (i,(ev x).conc ρ) := Array.map_congr_left fun p hp => by
     show (p.1,a.eval p.2) = (p.1,(ev p.2).conc ρ)
     rw [he p.2 (by rw [ho]; simp only [Op.operands,List.mem_toArray,List.mem_map]; exact ⟨p,Array.mem_toList_iff.2 hp,rfl⟩)]
    simp only [execOp,ho,this]
  ·exact h.elim
 ·rename_i t len parts ho
  split at h
  ·rename_i i hi
   split at h
   ·rename_i h0
    simp only [Bool.and_eq_true,List.isEmpty_iff] at h0
    obtain ⟨r,h1,h2⟩ := makeEmpty_loc (hp := hp) hT hi h
    refine ⟨r,OpLoc.of_sem h1 (fun _ _ => trivial) (fun c e => by rw [ho] at e; cases e) fun a ρ he => ?_,h2⟩
    have e1 : len = 0 := Nat.eq_of_beq_eq_true h0.1
    have e2 : parts = #[] := by cases parts; simp_all
    subst e1; subst e2
    simp [execOp,ho]
   obtain ⟨r,h1,h2⟩ := buildSliceE_loc (hp := hp) hT hi h
   refine ⟨r,OpLoc.of_sem h1 (fun Kn hk p hp => hk p.2 ?_) (fun c e => by rw [ho] at e; cases e) fun a ρ he => ?_,h2⟩
   ·rw [ho]; simp only [Op.operands,List.mem_toArray,List.mem_map]; exact ⟨p,hp,rfl⟩
   ·have : (parts.map fun (i,x) => (i,a.eval x)) = parts.map fun (i,x) => (i,(ev x).conc ρ) := Array.map_congr_left fun p hp => by
     show (p.1,a.eval p.2) = (p.1,(ev p.2).conc ρ)
     rw [he p.2 (by rw [ho]; simp only [Op.operands,List.mem_toArray,List.mem_map]; exact ⟨p,Array.mem_toList_iff.2 hp,rfl⟩)]
    simp only [execOp,ho,this]
  ·exact h.elim
 ·rename_i t x ho
  split at h
  ·rename_i i hi
   split at h
   ·obtain ⟨r,h1,h2⟩ := dpLoadE_loc (nm := nm) hT hi h
    exact ⟨r,OpLoc.of_sem h1 (fun Kn hk => hk x (by rw [ho]; simp [Op.operands])) (fun c e => by rw [ho] at e; cases e) fun a ρ he => by simp [execOp,ho,he x (by rw [ho]; simp [Op.operands])],h2⟩
   obtain ⟨r,h1,h2⟩ := loadE_loc (nm := nm) hT hi h
   exact ⟨r,OpLoc.of_sem h1 (fun Kn hk => hk x (by rw [ho]; simp [Op.operands])) (fun c e => by rw [ho] at e; cases e) fun a ρ he => by simp [execOp,ho,he x (by rw [ho]; simp [Op.operands])],h2⟩
  ·exact h.elim
 ·rename_i t x y ho
  split at h
  ·rename_i i hi
   split at h
   ·obtain ⟨r,h1,h2,h3⟩ := dpStoreE_loc (nm := nm) hT hi h
    exact ⟨r,OpLoc.of_unit h1 h2 (fun Kn hk => ⟨hk x (by rw [ho]; simp [Op.operands]),hk y (by rw [ho]; simp [Op.operands])⟩) (fun c e => by rw [ho] at e; cases e)
     fun a ρ he => by simp [execOp,ho,he x (by rw [ho]; simp [Op.operands]),he y (by rw [ho]; simp [Op.operands])],h3⟩
   obtain ⟨r,h1,h2,h3⟩ := storeE_loc (nm := nm) hT hi h
   exact ⟨r,OpLoc.of_unit h1 h2 (fun Kn hk => ⟨hk x (by rw [ho]; simp [Op.operands]),hk y (by rw [ho]; simp [Op.operands])⟩) (fun c e => by rw [ho] at e; cases e)
    fun a ρ he => by simp [execOp,ho,he x (by rw [ho]; simp [Op.operands]),he y (by rw [ho]; simp [Op.operands])],h3⟩
  ·exact h.elim
 ·rename_i x ho
  have hxm : x ∈ o.op.operands := by rw [ho]; simp [Op.operands]
  split at h
  ·rename_i n off hx
   obtain ⟨⟨ob,hob,hblk⟩,hk⟩ := withBlk_spec h
   refine ⟨_,OpLoc.same (fun c e => by rw [ho] at e; cases e) (fun Kn hk => by have := hk x hxm; rw [hx] at this; exact this) fun a ρ Γ bor W w Kn he ht hst => ?_,hk⟩
   obtain ⟨b,hb⟩ := hblk _ _ ρ w (hst.at_ n ob (by rw [ht n (by simp),hob]))
   have h1 := he x hxm
   rw [hx,ptr_conc hb] at h1
   simp [execOp,ho,h1,ptr_conc hb]
  ·rename_i n off hx
   obtain ⟨⟨ob,hob,hblk⟩,hk⟩ := withBlk_spec h
   refine ⟨_,OpLoc.same (fun c e => by rw [ho] at e; cases e) (fun Kn hk => by have := hk x hxm; rw [hx] at this; exact this) fun a ρ Γ bor W w Kn he ht hst => ?_,hk⟩
   obtain ⟨b,hb⟩ := hblk _ _ ρ w (hst.at_ n ob (by rw [ht n (by simp),hob]))
   have h1 := he x hxm
   rw [hx,aptr_conc hb] at h1
   simp [execOp,ho,h1,aptr_conc hb]
  ·rename_i n j q hx
   split at h
   ·rename_i hrc
    obtain ⟨c,cs,hob⟩ := isRc_spec hrc
    refine ⟨_,OpLoc.same (fun c e => by rw [ho] at e; cases e) (fun Kn hk => by have := hk x hxm; rw [hx] at this; exact this) fun a ρ Γ bor W w Kn he ht hst => ?_,h⟩
    obtain ⟨b,hb⟩ := rc_base (hst.at_ n (.rc (c :: cs)) (by rw [ht n (by simp),hob]))
    have h1 := he x hxm
    rw [hx,eptr_conc hb] at h1
    simp [execOp,ho,h1,eptr_conc hb]
   obtain ⟨u,l,rk,hob,hj,hk⟩ := withRow_spec h
   refine ⟨_,OpLoc.same (fun c e => by rw [ho] at e; cases e) (fun Kn hk => by have := hk x hxm; rw [hx] at this; exact this) fun a ρ Γ bor W w Kn he ht hst => ?_,hk⟩
   obtain ⟨b,hb⟩ := (rk.2.at (hst.at_ n _ (by rw [ht n (by simp),hob]))).2.2.2 _ hj
   have h1 := he x hxm
   rw [hx,eptr_conc hb] at h1
   simp [execOp,ho,h1,eptr_conc hb]
  ·rename_i n j q hx
   obtain ⟨u,l,rk,hob,hj,hk⟩ := withRow_spec h
   refine ⟨_,OpLoc.same (fun c e => by rw [ho] at e; cases e) (fun Kn hk => by have := hk x hxm; rw [hx] at this; exact this) fun a ρ Γ bor W w Kn he ht hst => ?_,hk⟩
   obtain ⟨b,hb⟩ := (rk.2.at (hst.at_ n _ (by rw [ht n (by simp),hob]))).2.2.2 _ hj
   have h1 := he x hxm
   rw [hx,eaptr_conc hb] at h1
   simp [execOp,ho,h1,eaptr_conc hb]
  ·rename_i f first cap hx
   refine ⟨_,OpLoc.same (fun c e => by rw [ho] at e; cases e) (fun Kn hk => by have := hk x hxm; rw [hx] at this; exact this) fun a ρ Γ bor W w Kn he ht hst => ?_,h⟩
   have h1 := he x hxm
   rw [hx] at h1
   simp [execOp,ho,h1,AV.conc,A0.conc,Cell.conc]
  ·rename_i f agg rs hx
   refine ⟨_,OpLoc.same (fun c e => by rw [ho] at e; cases e) (fun Kn hk => by have := hk x hxm; rw [hx] at this; exact this) fun a ρ Γ bor W w Kn he ht hst => ?_,h⟩
   have h1 := he x hxm
   rw [hx] at h1
   simp [execOp,ho,h1,AV.conc,A0.conc,Cell.conc]
  ·rename_i b hx
   refine ⟨_,OpLoc.same (fun c e => by rw [ho] at e; cases e) (fun Kn hk => ?_) (fun a ρ Γ bor W w Kn he ht hst => ?_),h⟩
   ·trivial
   have h1 := he x hxm
   rw [hx] at h1
   simp [execOp,ho,h1,AV.conc,A0.conc,Cell.conc]
  ·rename_i f first cap hx
   refine ⟨_,OpLoc.same (fun c e => by rw [ho] at e; cases e) (fun Kn hk => ?_) (fun a ρ Γ bor W w Kn he ht hst => ?_),h⟩
   ·trivial
   have h1 := he x hxm
   rw [hx] at h1
   simp [execOp,ho,h1,AV.conc,A0.conc,Cell.conc]
  ·exact h.elim
 ·rename_i op t x y yt ho
  rw [if_neg (by simp [ndB,hS.its])] at h
  obtain ⟨r,h1,h2⟩ := binE_loc (nm := nm) (hp := hp) (P := P) (ox := x) (oy := y) hT h
  refine ⟨r,OpLoc.of_sem h1 (fun _ _ => trivial) (fun c e => by rw [ho] at e; cases e) fun a ρ he => ?_,h2⟩
  simp [execOp,ho,he x (by rw [ho]; simp [Op.operands]),he y (by rw [ho]; simp [Op.operands])]
 ·rename_i u t x ho
  have hxm : x ∈ o.op.operands := by rw [ho]; simp [Op.operands]
  split at h
  ·rename_i kk n hx
   refine ⟨_,OpLoc.same (fun c e => by rw [ho] at e; cases e) (fun Kn hk => ?_) (fun a ρ Γ bor W w Kn he ht hst => ?_),h⟩
   ·trivial
   have h1 := he x hxm
   rw [hx] at h1
   simp [execOp,ho,h1,AV.conc,A0.conc,Cell.conc,Op.unary,Op.intArith,intV]
  ·rename_i b hx
   refine ⟨_,OpLoc.same (fun c e => by rw [ho] at e; cases e) (fun Kn hk => ?_) (fun a ρ Γ bor W w Kn he ht hst => ?_),h⟩
   ·trivial
   have h1 := he x hxm
   rw [hx] at h1
   simp [execOp,ho,h1,AV.conc,A0.conc,Cell.conc,Op.unary,boolV]
  ·exact h.elim
 ·rename_i s d x ho
  have hxm : x ∈ o.op.operands := by rw [ho]; simp [Op.operands]
  split at h
  ·rename_i i0 i hi0 hi
   split at h
   ·rename_i kk k1 n hd hx
    refine ⟨_,OpLoc.same (fun c e => by rw [ho] at e; cases e) (fun Kn hk => ?_) (fun a ρ Γ bor W w Kn he ht hst => ?_),h⟩
    ·trivial
    have h1 := he x hxm
    rw [hx] at h1
    simp [execOp,ho,h1,AV.conc,A0.conc,Cell.conc,convert,hT.u hi0,hT.u hi,hd,Conv.intToInt,intV]
   ·exact h.elim
  ·exact h.elim
 ·rename_i fn first cap ho
  split at h
  ·rename_i f c hf hc
   refine ⟨_,OpLoc.same (fun c e => by rw [ho] at e; cases e) (fun Kn hk => ?_) fun a ρ Γ bor W w Kn he ht hst => ?_,h⟩
   ·refine (toRefL_conc (fun _ => {}) _ _ hc).2 Kn fun x hx => ?_
    rw [mapE_map] at hx
    obtain ⟨y,hy,rfl⟩ := List.mem_map.1 hx
    exact hk y (by rw [ho]; simp [Op.operands,Array.mem_toList_iff.1 hy])
   ·have e1 : first.map a.eval = f.toArray := by
     apply Array.ext'
     rw [← toRawL_conc ρ _ _ hf,mapE_map]
     simp only [Array.toList_map,List.map_map]
     exact List.map_congr_left fun y hy => he y (by rw [ho]; simp [Op.operands,Array.mem_toList_iff.1 hy])
    have e2 : cap.map a.eval = (c.map (Ref.conc ρ)).toArray := by
     apply Array.ext'
     rw [← (toRefL_conc ρ _ _ hc).1,mapE_map]
     simp only [Array.toList_map,List.map_map]
     exact List.map_congr_left fun y hy => he y (by rw [ho]; simp [Op.operands,Array.mem_toList_iff.1 hy])
    simp only [execOp,ho,Instr.makeFunc,e1,e2,AV.conc,A0.conc,Cell.conc]
    rfl
  ·split at h
   ·rename_i g r hfs hcs
    split at h
    ·rename_i agg rs hr
     obtain ⟨hrc,hrk⟩ := recvOf_spec hr
     have hmem : ∀ y ∈ first.toList,y ∈ o.op.operands := fun y hy => by rw [ho]; simp [Op.operands,Array.mem_toList_iff.1 hy]
     rw [mapE_map] at hfs
     obtain ⟨y,hy1⟩ : ∃ y,first.toList = [y] := by
      match hm : first.toList,hfs with
      | [y],_ => exact ⟨y,rfl⟩
     have hr1 : ev y = r := by rw [hy1] at hfs; simpa using hfs
     refine ⟨_,OpLoc.same (fun c e => by rw [ho] at e; cases e) (fun Kn hk => ?_) fun a ρ Γ bor W w Kn he ht hst => ?_,h⟩
     ·exact hrk Kn (by rw [← hr1]; exact hk y (hmem y (by rw [hy1]; simp)))
     ·have e1 : first.map a.eval = #[r.conc ρ] := by
       apply Array.ext'
       simp only [Array.toList_map,hy1,List.map_cons,List.map_nil]
       rw [he y (hmem y (by rw [hy1]; simp)),hr1]
      have e2 : cap.map a.eval = #[] := by
       apply Array.ext'
       simp [Array.toList_map,hcs]
      simp only [execOp,ho,Instr.makeFunc,e1,e2,AV.conc,A0.conc,Cell.conc,hrc ρ]
      rfl
    ·exact h.elim
   ·exact h.elim
 ·rename_i t ho
  split at h
  ·rename_i i hi
   obtain ⟨r,h1,h2⟩ : ∃ r,SemLoc P ctx.X hp nm (fun _ => True) (fun _ => Instr.makeMap t none) (fun ρ => r.val.conc ρ) r ∧ k r := by
    split at h
    ·exact makeMapG_loc h
    ·exact makeMapE_loc h
   exact ⟨r,OpLoc.of_sem h1 (fun _ _ => trivial) (fun c e => by rw [ho] at e; cases e) fun a ρ he => by simp only [execOp,ho,Option.map_none],h2⟩
  ·exact h.elim
 ·rename_i t x ix ok ho
  split at h
  ·rename_i i hi
   obtain ⟨r,h1,h2⟩ : ∃ r,SemLoc P ctx.X hp nm (fun _ => True) (fun ρ => Instr.lookup t ((ev x).conc ρ) ((ev ix).conc ρ) ok) (fun ρ => r.val.conc ρ) r ∧ k r := by
    split at h
    ·exact lookupG_loc hT hi h
    ·exact lookupE_loc hT hi h
   exact ⟨r,OpLoc.of_sem h1 (fun _ _ => trivial) (fun c e => by rw [ho] at e; cases e) fun a ρ he => by simp [execOp,ho,he x (by rw [ho]; simp [Op.operands]),he ix (by rw [ho]; simp [Op.operands])],h2⟩
  ·exact h.elim
 ·rename_i t m ix x ho
  split at h
  ·rename_i i hi
   obtain ⟨r,h1,h2,h3⟩ : ∃ r,SemLoc P ctx.X hp nm (fun _ => True) (fun ρ => Instr.mapUpdate t ((ev m).conc ρ) ((ev ix).conc ρ) ((ev x).conc ρ)) (fun _ => ()) r ∧ k r ∧ r.val = und := by
    split at h
    ·exact mapUpdateG_loc hT hi h
    ·exact mapUpdateE_loc hT hi h
   exact ⟨r,OpLoc.of_unit h1 h3 (fun _ _ => trivial) (fun c e => by rw [ho] at e; cases e) fun a ρ he => by simp [execOp,ho,he m (by rw [ho]; simp [Op.operands]),he ix (by rw [ho]; simp [Op.operands]),he x (by rw [ho]; simp [Op.operands])],h2⟩
  ·exact h.elim
 ·rename_i t m ix x ho
  split at h
  ·rename_i i hi
   obtain ⟨r,h1,h2,h3⟩ := mapUpdateE_loc (nm := nm) hT hi h
   exact ⟨r,OpLoc.of_unit h1 h3 (fun _ _ => trivial) (fun c e => by rw [ho] at e; cases e) fun a ρ he => by simp [execOp,ho,he m (by rw [ho]; simp [Op.operands]),he ix (by rw [ho]; simp [Op.operands]),he x (by rw [ho]; simp [Op.operands])],h2⟩
  ·exact h.elim
 ·rename_i t x lo hh mx ho
  split at h
  ·rename_i i hi
   obtain ⟨r,h1,h2⟩ := sliceE_loc (nm := nm) (P := P) hT hi h
   refine ⟨r,OpLoc.of_sem h1 (fun Kn hk => hk x (by rw [ho]; simp [Op.operands])) (fun c e => by rw [ho] at e; cases e) fun a ρ he => ?_,h2⟩
   have e : ∀ q : Option Operand,(∀ y,q = some y → y ∈ o.op.operands) → q.map a.eval = (q.map ev).map (AV.conc ρ) := by
    intro q hq; cases q with
    | none => rfl
    | some y => simp [he y (hq y rfl)]
   rw [execOp,ho]
   simp only
   rw [he x (by rw [ho]; simp [Op.operands]),e lo (fun y hy => by rw [ho]; simp [Op.operands,hy]),e hh (fun y hy => by rw [ho]; simp [Op.operands,hy]),e mx (fun y hy => by rw [ho]; simp [Op.operands,hy])]
  ·exact h.elim
 ·rename_i t x y ho
  split at h
  ·rename_i i hi
   obtain ⟨r,h1,h2⟩ := makeSliceE_loc (hp := hp) hT hi h
   exact ⟨r,OpLoc.of_sem h1 (fun _ _ => trivial) (fun c e => by rw [ho] at e; cases e) fun a ρ he => by simp [execOp,ho,he x (by rw [ho]; simp [Op.operands]),he y (by rw [ho]; simp [Op.operands])],h2⟩
  ·exact h.elim
 ·rename_i t x f ho
  split at h
  ·rename_i i hi
   obtain ⟨r,h1,h2⟩ := fieldAddrE_loc (nm := nm) hT hi h
   exact ⟨r,OpLoc.of_sem h1 (fun Kn hk => hk x (by rw [ho]; simp [Op.operands])) (fun c e => by rw [ho] at e; cases e) fun a ρ he => by simp [execOp,ho,he x (by rw [ho]; simp [Op.operands])],h2⟩
  ·exact h.elim
 ·rename_i t x f ho
  split at h
  ·rename_i i hi
   obtain ⟨r,h1,h2⟩ := fieldE_loc (nm := nm) (hp := hp) hT hi h
   exact ⟨r,OpLoc.of_sem h1 (fun Kn hk => hk x (by rw [ho]; simp [Op.operands])) (fun c e => by rw [ho] at e; cases e) fun a ρ he => by simp [execOp,ho,he x (by rw [ho]; simp [Op.operands])],h2⟩
  ·exact h.elim
 ·rename_i t x ix ho
  split at h
  ·rename_i i hi
   split at h
   ·obtain ⟨r,h1,h2⟩ := nvAddrE_loc (nm := nm) hT hi h
    exact ⟨r,OpLoc.of_sem h1 (fun Kn hk => ⟨hk x (by rw [ho]; simp [Op.operands]),hk ix (by rw [ho]; simp [Op.operands])⟩) (fun c e => by rw [ho] at e; cases e) fun a ρ he => by simp [execOp,ho,he x (by rw [ho]; simp [Op.operands]),he ix (by rw [ho]; simp [Op.operands])],h2⟩
   obtain ⟨r,h1,h2⟩ := indexAddrE_loc (nm := nm) hT hi h
   exact ⟨r,OpLoc.of_sem h1 (fun Kn hk => hk x (by rw [ho]; simp [Op.operands])) (fun c e => by rw [ho] at e; cases e) fun a ρ he => by simp [execOp,ho,he x (by rw [ho]; simp [Op.operands]),he ix (by rw [ho]; simp [Op.operands])],h2⟩
  ·exact h.elim
 ·rename_i t x ix ho
  split at h
  ·rename_i i hi
   obtain ⟨r,h1,h2⟩ := indexE_loc (nm := nm) (hp := hp) hT hi h
   exact ⟨r,OpLoc.of_sem h1 (fun Kn hk => hk x (by rw [ho]; simp [Op.operands])) (fun c e => by rw [ho] at e; cases e) fun a ρ he => by simp [execOp,ho,he x (by rw [ho]; simp [Op.operands]),he ix (by rw [ho]; simp [Op.operands])],h2⟩
  ·exact h.elim
 ·rename_i x i ho
  have hxm : x ∈ o.op.operands := by rw [ho]; simp [Op.operands]
  split at h
  ·rename_i l hx
   split at h
   ·rename_i v hv
    refine ⟨_,OpLoc.same (fun c e => by rw [ho] at e; cases e) (fun Kn hk => ?_) fun a ρ Γ bor W w Kn he ht hst => ?_,h⟩
    ·have := hk x hxm; rw [hx] at this; exact this v (List.mem_of_getElem? hv)
    ·have h1 := he x hxm
     rw [hx] at h1
     simp [execOp,ho,h1,AV.conc,Instr.extract,hv]
   ·exact h.elim
  ·exact h.elim
 ·rename_i c ho
  exact callE_loc hT hS ho h
 ·rw [if_pos (by simp [hS.its])] at h; exact h.elim
 ·rw [if_pos (by simp [hS.its])] at h; exact h.elim
 ·rw [if_pos (by simp [hS.its])] at h; exact h.elim
 ·exact h.elim

def OpK (P : Program) (X : Addr → Value → Prop) (o : Oper) (ev : Operand → AV) (hp : HP) (nm:Nat) (k : Rec → Prop) : Prop :=
 ∀ ro n bor W ρ w a next Q,XOk bor W X → (∀ x ∈ o.op.operands,a.eval x = (ev x).conc ρ) → (∀ x ∈ o.op.operands,(ev x).ok (· < nm)) → St bor W ρ (· < nm) hp w →
  (∀ r ρ' w',k r → (∀ p ∈ r.writes,hp p.1 ≠ none) → (∀ m,m < nm → ρ' m = ρ m) → r.val.ok (knR (· < nm) nm r) → St bor W ρ' (knR (· < nm) nm r) (appH r nm hp) w' → next (a.put o.dst (r.val.conc ρ')) w') →
  o.wpIn (fw ro) n P a w next Q
theorem OpK.of_loc {X : Addr → Value → Prop} {r : Rec} (h : OpLoc P X o ev hp nm r) (hk : k r) : OpK P X o ev hp nm k :=
 fun ro n bor W ρ w a next Q hX he hv hst hn => h.2 ro n bor W ρ _ _ w a next Q hX he hv (fun _ _ => rfl) (fun i _ => by omega) hst fun ρ' w' h1 h2 h3 => hn r ρ' w' hk h.1 h1 h2 h3

def isYld (ctx : Ctx) (ev : Operand → AV) : Op → Bool
 | .call c => match c.callee with
  | .value f => match ev f with
   | .v (.one q) => match cloE q with
    | some (g,_,_) => (lookN ctx.specs g).isNone
    | none => match q with
     | .yld _ => true
     | _ => false
   | _ => false
  | _ => false
 | .binOp _ _ x y _ => ndB ctx (ev x) (ev y)
 | .range _ _ => true
 | .next _ _ => true
 | .entry _ => true
 | _ => false
theorem opE_noyld (h : opE ctx o.op ev hp nm k) (hy : isYld ctx ev o.op = false) : opE { ctx with ys := [],its := [] } o.op ev hp nm k := by
 revert h hy
 cases o.op with
 | call c =>
  intro h hy
  simp only [opE,callE] at h ⊢
  simp only [isYld] at hy
  split at h
  ·exact h
  ·rename_i f hc
   rw [hc] at hy
   dsimp only at hy
   split at h
   ·rename_i q hev
    rw [hev] at hy
    dsimp only at hy ⊢
    split at h
    ·rename_i g fs cs hq
     rw [hq] at hy
     dsimp only at hy ⊢
     split at h
     ·rename_i s hs
      exact h
     ·rename_i hs
      rw [hs] at hy; cases hy
    ·rename_i hq
     rw [hq] at hy
     dsimp only at hy ⊢
     split at h
     ·exact h
     ·cases hy
     ·exact h.elim
   ·exact h.elim
  ·exact h.elim
 | binOp op t x y yt =>
  intro h hy
  simp only [isYld] at hy
  simp only [opE] at h ⊢
  rw [if_neg (by rw [hy]; decide)] at h
  rw [if_neg (by simp [ndB])]
  exact h
 | makeMap t r => intro h _; cases r <;> exact h
 | range t x => intro _ hy; cases hy
 | next x b => intro _ hy; cases hy
 | entry x => intro _ hy; cases hy
 | _ => intro h _; exact h

theorem nil_k (hT : TOk P ctx.tt) {op : BinOp} {t : TypeId} {x y : Operand} {yt : TypeId} (ho : o.op = .binOp op t x y yt) (h : nilE ctx op t (ev x) (ev y) hp k) : OpK P ctx.X o ev hp nm k := by
 unfold nilE at h
 split at h
 rotate_left
 ·exact h.elim
 rename_i n hx hy
 split at h
 rotate_left
 ·exact h.elim
 rename_i u l rk i hr hi
 have key : ∀ (g : Bool → Bool),(∀ (e : TypeId),i.desc = .slice e → ∀ (a : Option Addr) (n1 c1:Nat) (w : World),(binOp op t (.slice a n1 c1) (.slice none 0 0)).run P w = .ok (.bool (g a.isNone)) w) → (∃ e,i.desc = .slice e) → (∀ b : Bool,(0 < l.length → b = false) → k { val := boolV (g b),touch := [n] }) → OpK P ctx.X o ev hp nm k := by
  intro g hrun ⟨e,hd⟩ hk ro n' bor W ρ w a next Q hX he hok hst hnext
  obtain ⟨_,_,_,sub,hm⟩ := hst.at_ n _ hr
  have hb : 0 < l.length → (ρ n).base.isNone = false := by
   intro hl
   have hlen : 0 < (valsFrom sub 0 (rowComps u l)).length := by rw [valsFrom_length,rowComps_length]; exact Nat.mul_pos hl u.size_pos
   obtain ⟨a',e',_⟩ := hm.1 0 _ (List.getElem?_eq_getElem hlen)
   rw [e']; rfl
  have h1 := he x (by rw [ho]; simp [Op.operands])
  have h2 := he y (by rw [ho]; simp [Op.operands])
  rw [hx] at h1
  rw [hy] at h2
  have hg := run_eqGuard_one (P := P) op t x y (.slice (ρ n).base (ρ n).len (ρ n).cap) (.slice none 0 0) w (by simp) (by simp)
  have hr2 := hrun e hd (ρ n).base (ρ n).len (ρ n).cap w
  have hexec : (execOp a.eval o).run P w = .ok (.value (.bool (g (ρ n).base.isNone))) w := by
   simp [execOp,ho,h1,h2,AV.conc,A0.conc,Cell.conc,hg,hr2]
  refine ⟨fun _ _ => trivial,?_⟩
  rw [Oper.semAt_eq _ _ _ (fun c e => by rw [ho] at e; cases e),hexec]
  simp only [Oper.uponIn]
  exact hnext { val := boolV (g (ρ n).base.isNone),touch := [n] } ρ w (hk _ hb) (fun p hp => absurd hp (by simp)) (fun _ _ => rfl) (by rw [knR_nil]; exact trivial) (by rw [knR_nil,appH_nil]; exact hst)
 split at h
 ·rename_i e hd
  exact key id (fun e hd a n1 c1 w => by simp [binOp,slice_nil_run hT hi hd]) ⟨e,hd⟩ h
 ·rename_i e hd
  exact key (fun b => !b) (fun e hd a n1 c1 w => by simp [binOp,slice_nil_run hT hi hd]) ⟨e,hd⟩ h
 ·exact h.elim
theorem range_k (hT : TOk P ctx.tt) {t : TypeId} {x : Operand} (ho : o.op = .range t x) (h : rangeE ctx t (ev x) hp nm k) : OpK P ctx.X o ev hp nm k := by
 unfold rangeE at h
 split at h
 rotate_left
 ·exact h.elim
 rename_i i hi
 split at h
 rotate_left
 ·exact h.elim
 rename_i kt et n hd hx
 split at h
 rotate_left
 ·exact h.elim
 rename_i ka kT uT l c hn
 obtain ⟨hset,h⟩ := ob_spec h
 obtain ⟨n',hc⟩ := isSetO_spec hset
 intro ro n0 bor W ρ w a next Q hX he hok hst hnext
 obtain ⟨b,es,clk,gb,gh,ρ',hρ,hb',hst'⟩ := stRange hst hn hc (Nat.lt_irrefl nm)
 have h1 := he x (by rw [ho]; simp [Op.operands])
 rw [hx] at h1
 have kn := (hst.kn n _ hn).1
 have hnn : n ≠ nm := by omega
 have hexec : (execOp a.eval o).run P w = .ok (.value (.pointer (some ⟨w.heap.size,0,none⟩))) (w.alloc (.mapIter (some b) clk #[] clk)) := by
  have := run_range_map (P := P) w t kt et b es clk (by rw [(hT t i hi).1,hd]) gh
  simp [execOp,ho,h1,AV.conc,A0.conc,Cell.conc,gb,this]
 refine ⟨fun _ _ => trivial,?_⟩
 rw [Oper.semAt_eq _ _ _ (fun c e => by rw [ho] at e; cases e),hexec]
 simp only [Oper.uponIn]
 have := hnext _ ρ' (w.alloc (.mapIter (some b) clk #[] clk)) (h es clk) (fun p hp' => by simp only [List.mem_singleton] at hp'; subst hp'; rw [hn]; simp) hρ (.inr (by simp)) ?_
 ·simp only [AV.conc,A0.conc,Cell.conc,addrOf,hb',Option.map_some] at this
  exact this
 ·rw [show knR (· < nm) nm { val := AV.v (.one (.ptr nm 0)),fresh := [AObj.itr n c es clk ka kT uT l none],writes := [(n,.hmap es clk)],touch := [n,c] } = knN (· < nm) nm by
   funext m; simp only [knR,knN,List.length_singleton]; congr 1; apply propext; omega]
  rw [show appH { val := AV.v (.one (.ptr nm 0)),fresh := [AObj.itr n c es clk ka kT uT l none],writes := [(n,.hmap es clk)],touch := [n,c] } nm hp = (fun y => if y = nm then some (.itr n c es clk ka kT uT l none) else if y = n then some (.hmap es clk) else hp y) by
   funext m
   simp only [appH,List.length_singleton,lastW]
   by_cases e1 : m = nm
   ·rw [e1,if_pos (by omega),if_pos rfl]; simp [live]
   ·rw [if_neg (by omega),if_neg e1]
    by_cases e2 : n = m
    ·rw [if_pos e2,if_pos e2.symm]; simp [live]
    ·rw [if_neg e2,if_neg (Ne.symm e2)]]
  exact hst'
theorem next_k {x : Operand} (ho : o.op = .next x false) (h : nextE (ev x) hp nm k) : OpK P ctx.X o ev hp nm k := by
 unfold nextE at h
 split at h
 rotate_left
 ·exact h.elim
 rename_i r hx
 split at h
 rotate_left
 ·exact h.elim
 rename_i n c es clk ka kT uT l cur hr
 split at h
 rotate_left
 ·exact h.elim
 rename_i es' clk' hn
 obtain ⟨hset,rfl,rfl,hd,hm⟩ := ob_spec h
 obtain ⟨n',hc⟩ := isSetO_spec hset
 intro ro n0 bor W ρ w a next Q hX he hok hst hnext
 have h1 := he x (by rw [ho]; simp [Op.operands])
 rw [hx] at h1
 have kr := (hst.kn r _ hr).1
 have kn := (hst.kn n _ hn).1
 have kc := (hst.kn c _ hc).1
 obtain ⟨gk,gu,gst,rb,since,seen,c0,hrb,hrh,hnb,hold,hsc,hsk,gr,gcur⟩ := hst.at_ r _ hr
 obtain ⟨bm,hbm,hmh⟩ := hst.at_ n _ hn
 rw [hbm] at hrh
 rw [show AV.conc ρ (AV.v (.one (.ptr r 0))) = .pointer (some ⟨rb,0,none⟩) by simp [AV.conc,A0.conc,Cell.conc,addrOf,hrb]] at h1
 have hrc : c ≠ r := by rintro rfl; rw [hr] at hc; cases hc
 have hrn : n ≠ r := by rintro rfl; rw [hr] at hn; cases hn
 have hL : (leftOf es' seen).toList = es'.toList.filter fun e => !seen.contains e.born := by unfold leftOf; rw [Array.toList_filter]
 rcases run_next_at (P := P) w o.type rb bm since c0 seen es' clk' hrh hmh hold hsc with ⟨h0,hrun⟩ | ⟨e,hem,w1,hw1,hrun⟩
 ·have hl : l = [] := by
   have : es'.toList.filter (fun e => !seen.contains e.born) = [] := List.eq_nil_of_length_eq_zero (by rw [← hL,Array.length_toList]; exact h0)
   rw [this] at gr
   exact gr.nilL
  have hexec : (execOp a.eval o).run P w = .ok (.value (.tuple #[.bool false])) w := by
   simp [execOp,ho,h1,hrun]
  refine ⟨fun _ _ => trivial,?_⟩
  rw [Oper.semAt_eq _ _ _ (fun c e => by rw [ho] at e; cases e),hexec]
  simp only [Oper.uponIn]
  exact hnext _ ρ w (hd hl) (fun p hp => absurd hp (by simp)) (fun _ _ => rfl) (fun a ha => by simp only [List.mem_singleton] at ha; subst ha; trivial) (by rw [knR_nil,appH_nil]; exact hst)
 ·rw [hL] at hem
  obtain ⟨i,hi⟩ := List.getElem?_of_mem hem
  have hie : (es'.toList.filter fun e => !seen.contains e.born)[i]? = some e := hi
  obtain ⟨p,en,hp1,hen,hkey,hval,hvals,hlen,hes⟩ := GrpR.get _ _ _ _ _ gr hie
  have hil : i < l.length := (List.getElem?_eq_some_iff.1 hp1).1
  have hka : keyAt l i = p := by unfold keyAt; rw [List.getD_eq_getElem?_getD,hp1]; rfl
  obtain ⟨ρ',hρ,q1,q2,q3,q4,hst1⟩ := stPick (nm := nm) (n := n) hst hc kn hen hvals hlen hes gu (Nat.lt_irrefl nm) (by omega)
  have hexec : (execOp a.eval o).run P w = .ok (.value (.tuple #[.bool true,e.key,e.val])) (Go.ChangeMaps.setBlock w1 rb (.mapIter (some bm) since (seen.push e.born) clk')) := by
   simp [execOp,ho,h1,hrun]
  refine ⟨fun _ _ => trivial,?_⟩
  rw [Oper.semAt_eq _ _ _ (fun c e => by rw [ho] at e; cases e),hexec]
  simp only [Oper.uponIn]
  have hmi := hm i hil
  rw [hka] at hmi
  have hcv : (AV.tup [.one (.raw (.bool true)),valA ka kT p.1,.one (.full (nm + 1))]).conc ρ' = .tuple #[.bool true,e.key,e.val] := by
   show Value.tuple #[.bool true,(valA ka kT p.1).conc ρ',.slice (ρ' (nm + 1)).base (ρ' (nm + 1)).len (ρ' (nm + 1)).cap] = _
   rw [valA_conc,q2,q3,q4,← hkey,← hval]
  have := hnext _ ρ' (Go.ChangeMaps.setBlock w1 rb (.mapIter (some bm) since (seen.push e.born) clk')) hmi (fun p hp' => ?_) hρ (fun a ha => ?_) ?_
  ·rw [hcv] at this; exact this
  ·simp only [List.mem_cons,List.not_mem_nil,or_false] at hp'
   rcases hp' with rfl | rfl
   ·rw [hr]; simp
   ·rw [hc]; simp
  ·simp only [List.mem_cons,List.not_mem_nil,or_false] at ha
   rcases ha with rfl | rfl | rfl
   ·trivial
   ·exact valA_ok _ _ _ _
   ·exact .inr (by simp)
  ·-- the state
   have hst2 : St bor W ρ' (fun y => y < nm ∨ y = nm ∨ y = nm + 1) (fun y => if y = nm + 1 then some (.row uT p.2 1) else if y = nm then some (.set n) else if y = c then none else hp y) w1 := by
    rcases hw1 with rfl | rfl
    ·exact hst1
    ·exact hst1.drawn _ (Nat.le_succ _)
   have hrn0 : r ≠ nm := by omega
   have hrn1 : r ≠ nm + 1 := by omega
   have hΓr : (fun y => if y = nm + 1 then some (AObj.row uT p.2 1) else if y = nm then some (.set n) else if y = c then none else hp y) r = some (.itr n c es' clk' ka kT uT l cur) := by
    simp [hrn0,hrn1,Ne.symm hrc,hr]
   have hb1 : (ρ' r).blk = some rb := by rw [hρ r kr]; exact hrb
   have hrh1 : w1.heap[rb]? = some (.mapIter (some bm) since seen c0) := by rcases hw1 with rfl | rfl <;> exact hrh
   have hset2 := MapKept.heap_set (o' := Obj.mapIter (some bm) since (seen.push e.born) clk') hrh1
   have hlt : rb < w1.heap.size := (Array.getElem?_eq_some_iff.1 hrh1).1
   have hown := hst2.own r rb (by have h9 := hΓr; dsimp only at h9 ⊢; rw [h9]; rfl) hb1
   have hst3 := hst2.writeW (o' := .itr n nm es' clk' ka kT uT (l.eraseIdx i) (some (p.1,nm + 1))) (w1 := Go.ChangeMaps.setBlock w1 rb (.mapIter (some bm) since (seen.push e.born) clk')) hΓr hb1 ⟨.inl kn,.inr (.inl rfl),fun q hq => by cases hq; exact .inr (.inr rfl)⟩ (fun _ h => by cases h)
    ⟨hst2.fr.os,hst2.fr.tape,hst2.fr.output,by simpa [Go.ChangeMaps.setBlock] using hst2.fr.size,fun k hk hnb => by
     have hne : k ≠ rb := by
      rintro rfl
      rcases hown with h | h
      ·omega
      ·exact hnb h
     rw [← hst2.fr.block k hk hnb]
     exact hset2.2 k hne,hst2.fr.drw⟩ (fun b' hne => hset2.2 b' hne) (by simp [Go.ChangeMaps.setBlock]) fun _ => by
     have hpush : (es'.toList.filter fun x => !(seen.push e.born).contains x.born) = (es'.toList.filter fun x => !seen.contains x.born).eraseIdx i := by
      rw [← filt_erase _ i e hie ((List.filter_sublist (l := es'.toList)).map _ |>.nodup gst.2),List.filter_filter]
      refine List.filter_congr fun x _ => ?_
      rw [contains_push]
      cases seen.contains x.born <;> cases (x.born == e.born) <;> rfl
     refine ⟨gk,gu,gst,rb,since,seen.push e.born,clk',hb1,?_,by rw [hρ n kn]; exact hnb,hold,hsk,hsk,?_,fun q hq => ?_⟩
     ·rw [hρ n kn,hbm]; exact hset2.1
     ·rw [hpush,q1]; exact gr.erase _ _ _ _
     ·cases hq
      exact ⟨rfl,seen,e,rfl,(List.mem_filter.1 hem).1,hkey,by rw [q2,q3,q4]; exact hval⟩
   rw [show knR (· < nm) nm { val := .tup [.one (.raw (.bool true)),valA ka kT p.1,.one (.full (nm + 1))],fresh := [.set n,.row uT p.2 1],writes := [(r,.itr n nm es' clk' ka kT uT (l.eraseIdx i) (some (p.1,nm + 1))),(c,.gone)],touch := [r,n,c] } = (fun y => y < nm ∨ y = nm ∨ y = nm + 1) by
    funext y; simp only [knR,List.length_cons,List.length_nil]; apply propext; omega]
   rw [show appH { val := .tup [.one (.raw (.bool true)),valA ka kT p.1,.one (.full (nm + 1))],fresh := [.set n,.row uT p.2 1],writes := [(r,.itr n nm es' clk' ka kT uT (l.eraseIdx i) (some (p.1,nm + 1))),(c,.gone)],touch := [r,n,c] } nm hp =
     updH (fun y => if y = nm + 1 then some (AObj.row uT p.2 1) else if y = nm then some (.set n) else if y = c then none else hp y) r (.itr n nm es' clk' ka kT uT (l.eraseIdx i) (some (p.1,nm + 1))) by
    funext y
    simp only [appH,lastW,List.length_cons,List.length_nil,updH]
    by_cases y0 : y = nm
    ·rw [y0,if_pos (by omega),if_neg (Ne.symm hrn0)]; simp [live]
    by_cases y1 : y = nm + 1
    ·rw [y1,if_pos (by omega),if_neg (Ne.symm hrn1)]; simp [live]
    rw [if_neg (by omega)]
    by_cases y2 : y = c
    ·rw [y2]
     have c0 : c ≠ nm := by omega
     have c1 : c ≠ nm + 1 := by omega
     simp [live,hrc,Ne.symm hrc,c0,c1]
    by_cases y3 : y = r
    ·rw [y3]; simp [live,hrc,Ne.symm hrc]
    simp [y0,y1,y2,y3,Ne.symm y2,Ne.symm y3]]
   exact hst3
theorem entry_k {x : Operand} (ho : o.op = .entry x) (h : entryE (ev x) hp k) : OpK P ctx.X o ev hp nm k := by
 unfold entryE at h
 split at h
 rotate_left
 ·exact h.elim
 rename_i r hx
 split at h
 rotate_left
 ·exact h.elim
 rename_i n c es clk ka kT uT l a0 m hr
 split at h
 rotate_left
 ·exact h.elim
 rename_i es' clk' t0 l0 rk0 hn hm
 obtain ⟨rfl,rfl,h⟩ := h
 intro ro n0 bor W ρ w a next Q hX he hok hst hnext
 have h1 := he x (by rw [ho]; simp [Op.operands])
 rw [hx] at h1
 obtain ⟨gk,gu,gst,rb,since,seen,c0,hrb,hrh,hnb,hold,hsc,hsk,gr,gcur⟩ := hst.at_ r _ hr
 obtain ⟨bm,hbm,hmh⟩ := hst.at_ n _ hn
 rw [hbm] at hrh
 obtain ⟨rfl,seen',e,rfl,hem,hkey,hval⟩ := gcur _ rfl
 rw [show AV.conc ρ (AV.v (.one (.ptr r 0))) = .pointer (some ⟨rb,0,none⟩) by simp [AV.conc,A0.conc,Cell.conc,addrOf,hrb]] at h1
 have hrun := run_entry_at (P := P) w rb bm since seen' es' c0 e hrh hmh hem gst.2
 have hexec : (execOp a.eval o).run P w = .ok (.value (.tuple #[e.key,e.val])) w := by
  simp [execOp,ho,h1,hrun]
 refine ⟨fun _ _ => trivial,?_⟩
 rw [Oper.semAt_eq _ _ _ (fun c e => by rw [ho] at e; cases e),hexec]
 simp only [Oper.uponIn]
 have hcv : (AV.tup [valA ka kT a0,.one (.full m)]).conc ρ = .tuple #[e.key,e.val] := by
  show Value.tuple #[(valA ka kT a0).conc ρ,.slice (ρ m).base (ρ m).len (ρ m).cap] = _
  rw [valA_conc,hkey,hval]
 have := hnext _ ρ w h (fun p hp => absurd hp (by simp)) (fun _ _ => rfl) (fun q hq => by
  simp only [List.mem_cons,List.not_mem_nil,or_false] at hq
  rcases hq with rfl | rfl
  ·exact valA_ok _ _ _ _
  ·exact .inl (hst.kn m _ hm).1) (by rw [knR_nil,appH_nil]; exact hst)
 rw [hcv] at this; exact this
theorem opE_k (hT : TOk P ctx.tt) (hC : CtxOk P ctx) (h : opE ctx o.op ev hp nm k) : OpK P ctx.X o ev hp nm k := by
 cases hy : isYld ctx ev o.op with
 | false =>
  obtain ⟨r,h1,h2⟩ := opE_loc (ctx := { ctx with ys := [],its := [] }) hT ⟨hC.sp,rfl,rfl⟩ (opE_noyld h hy)
  exact .of_loc h1 h2
 | true =>
  unfold isYld at hy
  split at hy
  ·rename_i c ho
   split at hy
   ·rename_i f hc
    obtain ⟨callee,args,argTypes⟩ := c
    dsimp only at hc
    subst hc
    have hd : ∀ c,o.op ≠ .defer c := fun c e => by rw [ho] at e; cases e
    have hmem : ∀ x ∈ args.toList,x ∈ o.op.operands := fun x hx => by rw [ho]; simp [Op.operands,Call.operands,Array.mem_toList_iff.1 hx]
    have hfm : f ∈ o.op.operands := by rw [ho]; simp [Op.operands,Call.operands]
    have hargs : ∀ (a : Act) (ρ : Env),(∀ x ∈ o.op.operands,a.eval x = (ev x).conc ρ) → args.map a.eval = ((mapE ev args.toList).map (AV.conc ρ)).toArray := by
     intro a ρ he
     apply Array.ext'
     simp only [Array.toList_map,mapE_map,List.map_map]
     exact List.map_congr_left fun x hx => he x (hmem x hx)
    have hargk : (∀ x ∈ o.op.operands,(ev x).ok (· < nm)) → ∀ x ∈ mapE ev args.toList,x.ok (· < nm) := by
     intro hk x hx
     rw [mapE_map] at hx
     obtain ⟨y,hy,rfl⟩ := List.mem_map.1 hx
     exact hk y (hmem y hy)
    split at hy
    ·rename_i q hev
     rw [ho] at h
     split at hy
     ·rename_i g fs cs hq
      simp only [opE,callE,hev,hq] at h
      obtain ⟨hqc,hqk⟩ := cloE_spec hq
      split at h
      ·rename_i s hs
       rw [hs] at hy; cases hy
      split at h
      rotate_left
      ·exact h.elim
      rename_i isp hg
      obtain ⟨hent,hisp⟩ := hC.its g isp hg
      intro ro n bor W ρ w a next Q hX he hk hst hnext
      obtain ⟨ρ3,hold3,hst3⟩ := hst.pinned
      have hlen : (heapOf hp nm ++ [AObj.pin ρ nm]).length = nm + 1 := by simp [heapOf_length]
      have hgone : ∀ m,hp m ≠ some .gone := fun m e => hst.at_ m _ e
      have hkl : ∀ m,(hp m).isSome = true → m < nm := fun m hm => by
       obtain ⟨o,ho⟩ := Option.isSome_iff_exists.1 hm
       exact (hst.kn m o ho).1
      have hfk := hk f hfm
      rw [hev] at hfk
      obtain ⟨k1,k2⟩ := hqk _ hfk
      have hfull : ∀ x ∈ fs ++ mapE ev args.toList ++ cs,x.ok (· < nm) := fun x hx => by
       rcases List.mem_append.1 hx with hx | hx
       ·rcases List.mem_append.1 hx with hx | hx
        ·exact k1 x hx
        ·exact hargk hk x hx
       ·exact k2 x hx
      have hcall := hisp [] _ _ _ (h ρ) (YsOk.nil P) bor W ρ3 w hX (fun x hx => AV.ok_mono (fun i hi => by rw [hlen]; omega) x (hfull x hx)) (by rw [hlen]; exact hst3)
      refine ⟨fun _ _ => trivial,?_⟩
      have hf := he f hfm
      rw [hev] at hf
      have hrun : (execOp a.eval o).run P w = .ok (.enter g ((fs ++ mapE ev args.toList ++ cs).map (AV.conc ρ3)).toArray) w := by
       simp only [execOp,ho,resolve,Sem.run_bind,hf,AV.conc,A0.conc,hqc ρ,Deferred.ofValue,Sem.run_pure,Result.andThen_ok,invoke]
       rw [hargs a ρ he,hent]
       congr 2
       apply Array.ext'
       have e0 : (fs ++ mapE ev args.toList ++ cs).map (AV.conc ρ3) = (fs ++ mapE ev args.toList ++ cs).map (AV.conc ρ) := List.map_congr_left fun x hx => AV.conc_congr (Kn := (· < nm)) hold3 x (hfull x hx)
       rw [e0]
       simp [List.map_append,-List.map_map]
      rw [Oper.semAt_eq _ _ _ hd,hrun]
      simp only [Oper.uponIn]
      refine ⟨fun h => by simp [fw] at h,callsIn_fw ?_⟩
      refine hcall.mono ?_
      rintro e w' ⟨st,ρ',v,rfl,hvk,hR,hst'⟩
      obtain ⟨hp1,hkk⟩ := isPin_spec hR
      have hlt := liveAt_lt hp1
      have hag : ∀ m,m < nm → ρ' m = ρ m := (hst'.at_ _ _ hp1).2
      have hd2 := hst'.diff (v := v) hlt hgone hkl
      refine hnext _ ρ' w' hkk (fun p hp => hpWr_mem hp) hag ?_ hd2
      exact AV.ok_mono (fun i hi => by simp only [knR,diffV,List.length_drop,List.length_set]; omega) v hvk
     ·rename_i hq
      split at hy
      rotate_left
      ·cases hy
      rename_i m
      simp only [opE,callE,hev,hq] at h
      split at h
      ·rename_i s hg
       have hkk := hC.ys m s hg ctx.X _ hp nm k h
       intro ro n bor W ρ w a next Q hX he hk hst hnext
       obtain ⟨l,g,tmps,assign,body,hl,hrun,hround⟩ := hkk ro (n - 1) bor W ρ w hX (hargk hk) hst
       refine ⟨fun _ _ => trivial,?_⟩
       rw [Oper.semAt_eq _ _ _ hd]
       have : (execOp a.eval o).run P w = .ok (.round l g tmps assign body) w := by
        have hf := he f hfm
        rw [hev] at hf
        simp only [execOp,ho,resolve,Sem.run_bind,hf,AV.conc,A0.conc,Cell.conc,hl,Deferred.ofValue,Sem.run_pure,Result.andThen_ok,invoke]
        rw [hargs a ρ he]
        simpa using hrun
       rw [this,Oper.uponIn_round]
       refine ⟨fun h => by simp [fw] at h,hround.mono ?_⟩
       rintro e w' ⟨r,ρ',hkr,hw,rfl,hag,hvk,hst'⟩
       exact hnext r ρ' w' hkr hw hag hvk hst'
      ·exact h.elim
    ·cases hy
   ·cases hy
  ·rename_i op t x y yt ho
   rw [ho] at h
   simp only [opE] at h
   rw [if_pos hy] at h
   exact nil_k hT ho h
  ·rename_i t x ho
   rw [ho] at h
   simp only [opE] at h
   split at h
   ·exact h.elim
   ·exact range_k hT ho h
  ·rename_i x b ho
   rw [ho] at h
   cases b with
   | true => exact h.elim
   | false =>
    simp only [opE] at h
    split at h
    ·exact h.elim
    ·exact next_k ho h
  ·rename_i x ho
   rw [ho] at h
   simp only [opE] at h
   split at h
   ·exact h.elim
   ·exact entry_k ho h
  ·cases hy
end
end Go.Ev
