/- Functions of typed values, out of 'fnE': blocks, loops. -/
import Derived.Test.YtleemdeodmdnkaaEvK
noncomputable section
set_option linter.unusedSectionVars false
set_option linter.unusedVariables false
set_option linter.unusedSimpArgs false
namespace Go.Ev
open Go.RowKit

abbrev w64 (n:Int) : Int := IntKind.wrap .i64 n
abbrev ci (n:Int) : Cell := .raw (.int .i64 n)
abbrev vi (n:Int) : AV := .v (.one (.raw (.int .i64 n)))
abbrev vb (b : Bool) : AV := .v (.one (.raw (.bool b)))
theorem w64_id {n : Int} (h1 : -9223372036854775808 ≤ n) (h2 : n ≤ 9223372036854775807) : w64 n = n := by rw [w64,IntKind.wrap_i64]; omega

def cI : Code → Code | .block _ c => c | .loop c => c | c => c
def bodyOf (fn : Func) : Code := match fn.body with | some c => c | none => .skip

def ids : Code → List Nat
 | .seq a b => ids a ++ ids b
 | .cond _ a b => ids a ++ ids b
 | .loop c => ids c
 | .block id c => id :: ids c
 | .rangeFunc _ _ a b => ids a ++ ids b
 | _ => []
def blkOf (id:Nat) : Code → Option Code
 | .seq a b => match blkOf id a with | some c => some c | none => blkOf id b
 | .cond _ a b => match blkOf id a with | some c => some c | none => blkOf id b
 | .loop c => blkOf id c
 | .block i c => if i = id then some c else blkOf id c
 | .rangeFunc _ _ a b => match blkOf id a with | some c => some c | none => blkOf id b
 | _ => none
def blk (id:Nat) (c : Code) : Code := match blkOf id c with | some c => c | none => .skip

def nodupB : List Nat → Bool
 | [] => true
 | x :: r => !r.contains x && nodupB r
theorem nodupB_spec : ∀ {l : List Nat},nodupB l = true → l.Nodup
 | [],_ => List.nodup_nil
 | x :: r,h => by
  simp only [nodupB,Bool.and_eq_true,Bool.not_eq_true',List.contains_eq_mem,decide_eq_false_iff_not] at h
  exact List.nodup_cons.2 ⟨h.1,nodupB_spec h.2⟩

section
variable {P : Program} {tt : List (Nat × TI)} {specs : List (Nat × Spec)} {X : Addr → Value → Prop}

def LpsOk (P : Program) (X : Addr → Value → Prop) (c : Code) (lp : List (Nat × LSpec)) : Prop :=
 ∀ bor W ro n,XOk bor W X → ∀ id sp,lookN lp id = some sp → (ro = none ∨ noRF (blk id c) = true) → ∀ st K,sp st K → ∀ ρ a w,AtM bor W st ρ a w → (Code.block id (blk id c)).wpIn (fw ro) n P (Post bor W K) a w

theorem blkOf_none : ∀ {c : Code} {id : Nat},id ∉ ids c → blkOf id c = none
 | .seq a b,id,h => by
  simp only [ids,List.mem_append,not_or] at h
  simp only [blkOf,blkOf_none h.1,blkOf_none h.2]
 | .cond _ a b,id,h => by
  simp only [ids,List.mem_append,not_or] at h
  simp only [blkOf,blkOf_none h.1,blkOf_none h.2]
 | .rangeFunc _ _ a b,id,h => by
  simp only [ids,List.mem_append,not_or] at h
  simp only [blkOf,blkOf_none h.1,blkOf_none h.2]
 | .loop c,id,h => by simp only [ids] at h; simp only [blkOf,blkOf_none h]
 | .block i c,id,h => by
  simp only [ids,List.mem_cons,not_or] at h
  simp only [blkOf,if_neg (Ne.symm h.1),blkOf_none h.2]
 | .skip,_,_ => rfl
 | .region ..,_,_ => rfl
 | .exit _,_,_ => rfl
 | .scope _,_,_ => rfl
 | .label _,_,_ => rfl
 | .goto _,_,_ => rfl
 | .ret,_,_ => rfl
 | .refuse _,_,_ => rfl

theorem lpOk_sub {lp : List (Nat × LSpec)} {ys : List (Nat × Spec)} {its : List (Nat × ISpec)} : ∀ (c : Code),(ids c).Nodup →
  (∀ id ∈ ids c,∀ sp,lookN lp id = some sp → ∀ b,blkOf id c = some b → ∀ bor W ro n,XOk bor W X → (ro = none ∨ noRF b = true) → ∀ st K,sp st K → ∀ ρ a w,AtM bor W st ρ a w → (Code.block id b).wpIn (fw ro) n P (Post bor W K) a w) →
  LpOk P ⟨tt,specs,X,lp,ys,its⟩ c
 | .seq a b,hn,h => by
  simp only [ids,List.nodup_append] at hn
  refine ⟨lpOk_sub a hn.1 fun id hi sp hs c hc => h id (by simp [ids,hi]) sp hs c (by simp only [blkOf,hc]),lpOk_sub b hn.2.1 fun id hi sp hs c hc => h id (by simp [ids,hi]) sp hs c ?_⟩
  have : id ∉ ids a := fun h1 => hn.2.2 id h1 id hi rfl
  simp only [blkOf,blkOf_none this,hc]
 | .cond _ a b,hn,h => by
  simp only [ids,List.nodup_append] at hn
  refine ⟨lpOk_sub a hn.1 fun id hi sp hs c hc => h id (by simp [ids,hi]) sp hs c (by simp only [blkOf,hc]),lpOk_sub b hn.2.1 fun id hi sp hs c hc => h id (by simp [ids,hi]) sp hs c ?_⟩
  have : id ∉ ids a := fun h1 => hn.2.2 id h1 id hi rfl
  simp only [blkOf,blkOf_none this,hc]
 | .rangeFunc _ _ a b,hn,h => by
  simp only [ids,List.nodup_append] at hn
  refine ⟨lpOk_sub a hn.1 fun id hi sp hs c hc => h id (by simp [ids,hi]) sp hs c (by simp only [blkOf,hc]),lpOk_sub b hn.2.1 fun id hi sp hs c hc => h id (by simp [ids,hi]) sp hs c ?_⟩
  have : id ∉ ids a := fun h1 => hn.2.2 id h1 id hi rfl
  simp only [blkOf,blkOf_none this,hc]
 | .loop c,hn,h => lpOk_sub c hn fun id hi sp hs b hb => h id hi sp hs b hb
 | .block i c,hn,h => by
  simp only [ids,List.nodup_cons] at hn
  unfold LpOk
  split
  ·rename_i hs
   refine lpOk_sub c hn.2 fun id hi sp hs' b hb => h id (by simp [ids,hi]) sp hs' b ?_
   have : i ≠ id := fun e => hn.1 (e ▸ hi)
   simp only [blkOf,if_neg this,hb]
  ·rename_i sp hs
   exact h i (by simp [ids]) sp hs c (by simp [blkOf])
 | .skip,_,_ => trivial
 | .region ..,_,_ => trivial
 | .exit _,_,_ => trivial
 | .scope _,_,_ => trivial
 | .label _,_,_ => trivial
 | .goto _,_,_ => trivial
 | .ret,_,_ => trivial
 | .refuse _,_,_ => trivial

theorem LpsOk.nil {c : Code} : LpsOk P X c [] := fun _ _ _ _ _ _ _ h => by cases h

theorem blkOf_sub : ∀ {c b : Code} {id : Nat},blkOf id c = some b → (ids c).Nodup → (ids b).Nodup ∧ ∀ j ∈ ids b,blkOf j c = blkOf j b
 | .seq a b,d,id,h,hn => by
  simp only [ids,List.nodup_append] at hn
  simp only [blkOf] at h
  split at h
  ·rename_i hc
   cases h
   obtain ⟨h1,h2⟩ := blkOf_sub hc hn.1
   refine ⟨h1,fun j hj => ?_⟩
   have := h2 j hj
   simp only [blkOf]
   rw [this]
   cases hb : blkOf j d with
   | some _ => rfl
   | none => exact absurd hb (blkOf_mem hj)
  ·rename_i hc
   obtain ⟨h1,h2⟩ := blkOf_sub h hn.2.1
   refine ⟨h1,fun j hj => ?_⟩
   have hjb : j ∈ ids b := blkOf_ids h j hj
   have : j ∉ ids a := fun h1 => hn.2.2 j h1 j hjb rfl
   simp only [blkOf,blkOf_none this,h2 j hj]
 | .cond _ a b,d,id,h,hn => by
  simp only [ids,List.nodup_append] at hn
  simp only [blkOf] at h
  split at h
  ·rename_i hc
   cases h
   obtain ⟨h1,h2⟩ := blkOf_sub hc hn.1
   refine ⟨h1,fun j hj => ?_⟩
   have := h2 j hj
   simp only [blkOf]
   rw [this]
   cases hb : blkOf j d with
   | some _ => rfl
   | none => exact absurd hb (blkOf_mem hj)
  ·rename_i hc
   obtain ⟨h1,h2⟩ := blkOf_sub h hn.2.1
   refine ⟨h1,fun j hj => ?_⟩
   have hjb : j ∈ ids b := blkOf_ids h j hj
   have : j ∉ ids a := fun h1 => hn.2.2 j h1 j hjb rfl
   simp only [blkOf,blkOf_none this,h2 j hj]
 | .rangeFunc _ _ a b,d,id,h,hn => by
  simp only [ids,List.nodup_append] at hn
  simp only [blkOf] at h
  split at h
  ·rename_i hc
   cases h
   obtain ⟨h1,h2⟩ := blkOf_sub hc hn.1
   refine ⟨h1,fun j hj => ?_⟩
   have := h2 j hj
   simp only [blkOf]
   rw [this]
   cases hb : blkOf j d with
   | some _ => rfl
   | none => exact absurd hb (blkOf_mem hj)
  ·rename_i hc
   obtain ⟨h1,h2⟩ := blkOf_sub h hn.2.1
   refine ⟨h1,fun j hj => ?_⟩
   have hjb : j ∈ ids b := blkOf_ids h j hj
   have : j ∉ ids a := fun h1 => hn.2.2 j h1 j hjb rfl
   simp only [blkOf,blkOf_none this,h2 j hj]
 | .loop c,d,id,h,hn => by
  simp only [blkOf] at h
  obtain ⟨h1,h2⟩ := blkOf_sub h hn
  exact ⟨h1,fun j hj => by simp only [blkOf]; exact h2 j hj⟩
 | .block i c,d,id,h,hn => by
  simp only [ids,List.nodup_cons] at hn
  simp only [blkOf] at h
  split at h
  ·cases h
   refine ⟨hn.2,fun j hj => ?_⟩
   have : i ≠ j := fun e => hn.1 (e ▸ hj)
   simp only [blkOf,if_neg this]
  ·obtain ⟨h1,h2⟩ := blkOf_sub h hn.2
   refine ⟨h1,fun j hj => ?_⟩
   have : i ≠ j := fun e => hn.1 (e ▸ blkOf_ids h j hj)
   simp only [blkOf,if_neg this]; exact h2 j hj
 | .skip,_,_,h,_ => by cases h
 | .region ..,_,_,h,_ => by cases h
 | .exit _,_,_,h,_ => by cases h
 | .scope _,_,_,h,_ => by cases h
 | .label _,_,_,h,_ => by cases h
 | .goto _,_,_,h,_ => by cases h
 | .ret,_,_,h,_ => by cases h
 | .refuse _,_,_,h,_ => by cases h
where
 blkOf_mem : ∀ {c : Code} {j : Nat},j ∈ ids c → blkOf j c ≠ none
  | .seq a b,j,h => by
   simp only [ids,List.mem_append] at h
   simp only [blkOf]
   rcases h with h | h
   ·have := blkOf_mem h
    split <;> simp_all
   ·have := blkOf_mem h
    split <;> simp_all
  | .cond _ a b,j,h => by
   simp only [ids,List.mem_append] at h
   simp only [blkOf]
   rcases h with h | h
   ·have := blkOf_mem h
    split <;> simp_all
   ·have := blkOf_mem h
    split <;> simp_all
  | .rangeFunc _ _ a b,j,h => by
   simp only [ids,List.mem_append] at h
   simp only [blkOf]
   rcases h with h | h
   ·have := blkOf_mem h
    split <;> simp_all
   ·have := blkOf_mem h
    split <;> simp_all
  | .loop c,j,h => by simp only [ids] at h; simp only [blkOf]; exact blkOf_mem h
  | .block i c,j,h => by
   simp only [ids,List.mem_cons] at h
   simp only [blkOf]
   split
   ·simp
   ·rename_i hi; exact blkOf_mem (h.resolve_left (Ne.symm hi))
  | .skip,_,h => by simp [ids] at h
  | .region ..,_,h => by simp [ids] at h
  | .exit _,_,h => by simp [ids] at h
  | .scope _,_,h => by simp [ids] at h
  | .label _,_,h => by simp [ids] at h
  | .goto _,_,h => by simp [ids] at h
  | .ret,_,h => by simp [ids] at h
  | .refuse _,_,h => by simp [ids] at h
 blkOf_ids : ∀ {c b : Code} {id : Nat},blkOf id c = some b → ∀ j ∈ ids b,j ∈ ids c
  | .seq a b,d,id,h => by
   intro j hj
   simp only [blkOf] at h
   simp only [ids,List.mem_append]
   split at h
   ·rename_i hc; cases h; exact .inl (blkOf_ids hc j hj)
   ·exact .inr (blkOf_ids h j hj)
  | .cond _ a b,d,id,h => by
   intro j hj
   simp only [blkOf] at h
   simp only [ids,List.mem_append]
   split at h
   ·rename_i hc; cases h; exact .inl (blkOf_ids hc j hj)
   ·exact .inr (blkOf_ids h j hj)
  | .rangeFunc _ _ a b,d,id,h => by
   intro j hj
   simp only [blkOf] at h
   simp only [ids,List.mem_append]
   split at h
   ·rename_i hc; cases h; exact .inl (blkOf_ids hc j hj)
   ·exact .inr (blkOf_ids h j hj)
  | .loop c,d,id,h => by intro j hj; simp only [blkOf] at h; simp only [ids]; exact blkOf_ids h j hj
  | .block i c,d,id,h => by
   intro j hj
   simp only [blkOf] at h
   simp only [ids,List.mem_cons]
   split at h
   ·cases h; exact .inr hj
   ·exact .inr (blkOf_ids h j hj)
  | .skip,_,_,h => by cases h
  | .region ..,_,_,h => by cases h
  | .exit _,_,_,h => by cases h
  | .scope _,_,_,h => by cases h
  | .label _,_,_,h => by cases h
  | .goto _,_,_,h => by cases h
  | .ret,_,_,h => by cases h
  | .refuse _,_,_,h => by cases h

theorem lpOk_of {lp : List (Nat × LSpec)} {ys : List (Nat × Spec)} {its : List (Nat × ISpec)} {c : Code} (hn : (ids c).Nodup) (h : LpsOk P X c lp) : LpOk P ⟨tt,specs,X,lp,ys,its⟩ c :=
 lpOk_sub c hn fun id _ sp hs b hb bor W ro n hX hro st K hk ρ a w hat => by
  have := h bor W ro n hX id sp hs (by simpa only [blk,hb] using hro) st K hk ρ a w hat
  simp only [blk,hb] at this; exact this

theorem LpsOk.cons' {c b : Code} {lp : List (Nat × LSpec)} {ys : List (Nat × Spec)} {its : List (Nat × ISpec)} {id : Nat} {sp : LSpec} (hl : LpsOk P X c lp) (hn' : nodupB (ids c) = true) (hb : blkOf id c = some b)
  (h : LpOk P ⟨tt,specs,X,lp,ys,its⟩ b → ∀ bor W ro n,XOk bor W X → (ro = none ∨ noRF b = true) → ∀ st K,sp st K → ∀ ρ a w,AtM bor W st ρ a w → b.wpIn (fw ro) n P (Post bor W (wrapB id (orWeak K))) a w) : LpsOk P X c ((id,sp) :: lp) := by
 have hn := nodupB_spec hn'
 intro bor W ro n hX id' sp' hs hro st K hk ρ a w hat
 unfold lookN at hs
 split at hs
 ·rename_i e; subst e; cases hs
  obtain ⟨h1,h2⟩ := blkOf_sub hb hn
  have : LpOk P ⟨tt,specs,X,lp,ys,its⟩ b := lpOk_sub b h1 fun j hj sp hs d hd bor W ro n hX hro st K hk ρ a w hat => by
   have := hl bor W ro n hX j sp hs (by simpa only [blk,h2 j hj,hd] using hro) st K hk ρ a w hat
   simp only [blk,h2 j hj,hd] at this; exact this
  simp only [blk,hb] at hro ⊢
  exact wpIn_mono (block_ok (h this bor W ro n hX hro st K hk ρ a w hat)) fun e a w h => post_weak h
 ·exact hl bor W ro n hX id' sp' hs hro st K hk ρ a w hat
theorem LpsOk.cons (hT : TOk P tt) {lp : List (Nat × LSpec)} {ys : List (Nat × Spec)} {its : List (Nat × ISpec)} (hC : CtxOk P ⟨tt,specs,X,lp,ys,its⟩) (hm : P.follows .mixedOrders = true) {c b : Code} {id : Nat} {sp : LSpec} (hl : LpsOk P X c lp) (hn' : nodupB (ids c) = true) (hb : blkOf id c = some b)
  (h : ∀ st K,sp st K → codeE ⟨tt,specs,X,lp,ys,its⟩ b st (wrapB id (orWeak K))) : LpsOk P X c ((id,sp) :: lp) :=
 hl.cons' (tt := tt) (specs := specs) (ys := ys) (its := its) hn' hb fun hlp bor W ro n hX hro st K hk ρ a w hat => codeE_sound (ctx := ⟨tt,specs,X,lp,ys,its⟩) hT hC hm b hlp bor W ro n hX hro st _ (h st K hk) ρ a w hat
def unrolled (tt : List (Nat × TI)) (specs : List (Nat × Spec)) (X : Addr → Value → Prop) (lp : List (Nat × LSpec)) (ys : List (Nat × Spec)) (its : List (Nat × ISpec)) (id:Nat) (c : Code) (N:Nat) : LSpec := fun st K => unroll ⟨tt,specs,X,lp,ys,its⟩ c N st (wrapB id K)
theorem LpsOk.unroll (hT : TOk P tt) {lp : List (Nat × LSpec)} {ys : List (Nat × Spec)} {its : List (Nat × ISpec)} (hC : CtxOk P ⟨tt,specs,X,lp,ys,its⟩) (hm : P.follows .mixedOrders = true) {c b : Code} {id : Nat} (N:Nat) (hl : LpsOk P X c lp) (hn' : nodupB (ids c) = true) (hb : blkOf id c = some (.loop b)) :
  LpsOk P X c ((id,unrolled tt specs X lp ys its id b N) :: lp) := by
 have hn := nodupB_spec hn'
 intro bor W ro n hX id' sp' hs hro st K hk ρ a w hat
 unfold lookN at hs
 split at hs
 ·rename_i e; subst e; cases hs
  obtain ⟨h1,h2⟩ := blkOf_sub hb hn
  have hlp : LpOk P ⟨tt,specs,X,lp,ys,its⟩ (.loop b) := lpOk_sub (.loop b) h1 fun j hj sp hs d hd bor W ro n hX hro st K hk ρ a w hat => by
   have := hl bor W ro n hX j sp hs (by simpa only [blk,h2 j hj,hd] using hro) st K hk ρ a w hat
   simp only [blk,h2 j hj,hd] at this; exact this
  simp only [blk,hb] at hro ⊢
  exact block_ok (unroll_ok (ctx := ⟨tt,specs,X,lp,ys,its⟩) hT hC hm b hX hro hlp N st _ hk ρ a w hat)
 ·exact hl bor W ro n hX id' sp' hs hro st K hk ρ a w hat

end

section
variable {P : Program}
theorem TOk.nil : TOk P [] := fun _ _ h => by cases h
theorem TOk.cons {t : TypeId} {i : TI} {l : List (Nat × TI)} (hu : P.underlying t = some i.desc) (hs : 0 < i.size) (hi : (P.info? t).map (fun q => (q.size,q.bytes,q.zero)) = some (i.size,i.bytes,some i.zero))
  (ha : (!isAggD i.desc || (!P.stoodInHeld t && !P.eqGuardType P.depth t)) = true) (hl : TOk P l) : TOk P ((t,i) :: l) := by
 intro u j h
 unfold lookN at h
 split at h
 ·rename_i e; subst e; cases h
  refine ⟨hu,hs,?_⟩
  cases hq : P.info? t with
  | none => rw [hq] at hi; cases hi
  | some q =>
   rw [hq] at hi
   simp only [Option.map_some,Option.some.injEq,Prod.mk.injEq] at hi
   refine ⟨q,rfl,hi.1,hi.2.1,hi.2.2,fun hag => ?_⟩
   rw [hag] at ha
   simpa using ha
 ·exact hl u j h
theorem Enters.of {f : FuncId} {fn : Func} (hf : P.funcs[f]? = some fn) (h1 : (fn.name == "runtime.NumGoroutine") = false) (h2 : fn.body.isNone = false) : Enters P f := by
 intro args w
 simp only [callFunc,Sem.run_bind,run_program,Result.andThen_ok,hf,h1,h2,Bool.false_eq_true,if_false,Sem.run_pure]
theorem ItsOk.cons {X : Addr → Value → Prop} {f : FuncId} {isp : ISpec} {l : List (Nat × ISpec)} (he : Enters P f) (h : ISpecOk P X f isp) (hl : ItsOk P X l) : ItsOk P X ((f,isp) :: l) := by
 intro g q hg
 unfold lookN at hg
 split at hg
 ·rename_i e; subst e; cases hg; exact ⟨he,h⟩
 ·exact hl g q hg
end

instance sumInh {A B : Type} [Inhabited A] : Inhabited (A ⊕ B) := ⟨.inl default⟩
inductive Term {S R : Type} (step : S → S ⊕ R) (pre : S → Prop) : S → Prop
 | mk (s : S) (hp : pre s) (h : ∀ s',step s = .inl s' → Term step pre s') : Term step pre s
def iterN {S R : Type} (step : S → S ⊕ R) : Nat → S → Option R
 | 0,_ => none
 | n + 1,s => match step s with
  | .inl s' => iterN step n s'
  | .inr r => some r
theorem iterN_succ {S R : Type} {step : S → S ⊕ R} : ∀ (n:Nat) (s : S) (r : R),iterN step n s = some r → iterN step (n + 1) s = some r
 | 0,_,_,h => by cases h
 | n + 1,s,r,h => by
  simp only [iterN] at h
  show (match step s with | .inl s' => iterN step (n + 1) s' | .inr r => some r) = some r
  cases hs : step s with
  | inl s' => rw [hs] at h; exact iterN_succ n s' r h
  | inr r' => rw [hs] at h; exact h
theorem iterN_le {S R : Type} {step : S → S ⊕ R} {n m : Nat} {s : S} {r : R} (h : iterN step n s = some r) (hm : n ≤ m) : iterN step m s = some r := by
  induction m with
  | zero => have : n = 0 := by omega
            subst this; exact h
  | succ m ih =>
    rcases Nat.lt_or_ge m n with h1 | h1
    · have : n = m + 1 := by omega
      subst this; exact h
    · exact iterN_succ m s r (ih h1)
open Classical in
def run {S R : Type} [Inhabited R] (step : S → S ⊕ R) (s : S) : R := if h : ∃ r n,iterN step n s = some r then Classical.choose h else default
theorem run_of {S R : Type} [Inhabited R] {step : S → S ⊕ R} {n : Nat} {s : S} {r : R} (h : iterN step n s = some r) : run step s = r := by
 have hx : ∃ r n,iterN step n s = some r := ⟨r,n,h⟩
 unfold run
 rw [dif_pos hx]
 obtain ⟨m,hm⟩ := Classical.choose_spec hx
 have h1 := iterN_le h (Nat.le_max_left n m)
 have h2 := iterN_le hm (Nat.le_max_right n m)
 rw [h1] at h2
 exact (Option.some.inj h2).symm
theorem run_eq {S R : Type} [Inhabited R] (step : S → S ⊕ R) (s : S) : run step s = match step s with | .inl s' => run step s' | .inr r => r := by
 cases hs : step s with
 | inr r => exact run_of (n := 1) (by simp only [iterN,hs])
 | inl s' =>
  dsimp only
  by_cases h : ∃ r n,iterN step n s' = some r
  ·obtain ⟨r,n,h⟩ := h
   rw [run_of h]
   exact run_of (n := n + 1) (by simp only [iterN,hs,h])
  ·have h2 : ¬ ∃ r n,iterN step n s = some r := by
    rintro ⟨r,n,hn⟩
    cases n with
    | zero => cases hn
    | succ n => simp only [iterN,hs] at hn; exact h ⟨r,n,hn⟩
   unfold run
   rw [dif_neg h,dif_neg h2]
theorem Term.iter {S R : Type} {step : S → S ⊕ R} {pre : S → Prop} {s : S} (h : Term step pre s) : ∃ r n,iterN step n s = some r := by
 induction h with
 | mk s hp h ih =>
  cases hs : step s with
  | inr r => exact ⟨r,1,by simp only [iterN,hs]⟩
  | inl s' =>
   obtain ⟨r,n,hn⟩ := ih s' hs
   exact ⟨r,n + 1,by simp only [iterN,hs,hn]⟩
theorem Term.of {S R : Type} {step : S → S ⊕ R} {pre : S → Prop} (J : S → Prop) (μ : S → Nat) (h : ∀ s,J s → pre s ∧ ∀ s',step s = .inl s' → J s' ∧ μ s' < μ s) : ∀ s,J s → Term step pre s := by
 intro s hs
 obtain ⟨n,hn⟩ : ∃ n,n = μ s := ⟨_,rfl⟩
 induction n using Nat.strongRecOn generalizing s with
 | _ n ih =>
  obtain ⟨h1,h2⟩ := h s hs
  exact ⟨s,h1,fun s' hs' => by
   obtain ⟨h3,h4⟩ := h2 s' hs'
   exact ih (μ s') (by omega) s' h3 rfl⟩

def cS {A B : Type} (r : A ⊕ B) (p : A → Prop) (q : B → Prop) : Prop := match r with
 | .inl a => p a
 | .inr b => q b
def noX : Addr → Value → Prop := fun _ _ => False
theorem noX.ok (bor : Bor) (W : World) : XOk bor W noX := fun _ _ h => h.elim
theorem encC_shift (rk:Nat) {ρ ρ' : Env} {d : Nat} : ∀ (cs : List Comp) (nm:Nat),(∀ i,i < (encC rk nm cs).2.length → ρ' (nm + i + d) = ρ (nm + i)) → (encC rk (nm + d) cs).1.map (Cell.conc ρ') = (encC rk nm cs).1.map (Cell.conc ρ) ∧ (encC rk (nm + d) cs).2 = (encC rk nm cs).2
 | [],nm,_ => ⟨rfl,rfl⟩
 | .flat v :: r,nm,h => by
  obtain ⟨h1,h2⟩ := encC_shift rk (d := d) r nm h
  simp only [encC,List.map_cons,h1,h2]; exact ⟨rfl,trivial⟩
 | .sl u l :: r,nm,h => by
  have h0 := h 0 (by simp [encC])
  obtain ⟨h1,h2⟩ := encC_shift rk (ρ := ρ) (ρ' := ρ') (d := d) r (nm + 1) fun i hi => by
   have := h (i + 1) (by simpa [encC] using hi)
   rwa [show nm + (i + 1) + d = nm + 1 + i + d by omega,show nm + (i + 1) = nm + 1 + i by omega] at this
  rw [Nat.add_zero] at h0
  rw [show nm + 1 + d = nm + d + 1 by omega] at h1 h2
  simp only [encC,List.map_cons,h1,h2,Cell.conc,h0]; exact ⟨trivial,trivial⟩
theorem encC_ok (rk:Nat) : ∀ (cs : List Comp) (nm:Nat),∀ c ∈ (encC rk nm cs).1,c.ok fun m => nm ≤ m ∧ m < nm + (encC rk nm cs).2.length
 | [],nm,c,h => by simp [encC] at h
 | .flat v :: r,nm,c,h => by
  simp only [encC,List.mem_cons] at h
  rcases h with rfl | h
  ·trivial
  ·exact encC_ok rk r nm c h
 | .sl u l :: r,nm,c,h => by
  simp only [encC,List.mem_cons] at h
  rcases h with rfl | h
  ·simp only [encC,List.length_cons,Cell.ok]; omega
  ·exact Cell.ok_mono (fun m hm => by simp only [encC,List.length_cons]; omega) c (encC_ok rk r (nm + 1) c h)
theorem encC_rows (rk:Nat) : ∀ (cs : List Comp) (nm:Nat),∀ o ∈ (encC rk nm cs).2,∃ u,∃ l : List u.T,o = .row u l rk
 | [],nm,o,h => by simp [encC] at h
 | .flat v :: r,nm,o,h => encC_rows rk r nm o h
 | .sl u l :: r,nm,o,h => by
  simp only [encC,List.mem_cons] at h
  rcases h with rfl | h
  ·exact ⟨u,l,rfl⟩
  ·exact encC_rows rk r (nm + 1) o h
theorem encA_conc {a : Bool} {cs cs' : List Cell} {ρ ρ' : Env} (h : cs'.map (Cell.conc ρ') = cs.map (Cell.conc ρ)) : (encA a cs').conc ρ' = (encA a cs).conc ρ := by
 have hl : cs'.length = cs.length := by simpa using congrArg List.length h
 cases a with
 | true => simp only [encA,A0.conc,h]
 | false =>
  match cs,cs',hl with
  | [],[],_ => rfl
  | [c],[c'],_ => simp only [List.map_cons,List.map_nil,List.cons.injEq,and_true] at h; simp only [encA,A0.conc,h]
  | _ :: _ :: _,_ :: _ :: _,_ => simp only [encA,A0.conc,h]
theorem encA_ok {a : Bool} {cs : List Cell} {Kn : Nat → Prop} (h : ∀ c ∈ cs,c.ok Kn) : (encA a cs).ok Kn := by
 cases a with
 | true => exact h
 | false =>
  match cs,h with
  | [],h => exact h
  | [c],h => exact h c (by simp)
  | _ :: _ :: _,h => exact h
def Par.res : Par → Bool
 | .ptr _ => false
 | .clo _ _ => false
 | .mv _ _ _ => false
 | .pair a b => a.res && b.res
 | _ => true
theorem encP_shift (rk:Nat) {ρ ρ' : Env} {d : Nat} : ∀ (p : Par) (x : p.ty.T) (nm:Nat),p.res = true → (∀ i,i < (encP rk nm p x).2.length → ρ' (nm + i + d) = ρ (nm + i)) → (encP rk (nm + d) p x).1.map (A0.conc ρ') = (encP rk nm p x).1.map (A0.conc ρ) ∧ (encP rk (nm + d) p x).2 = (encP rk nm p x).2
 | .one t,x,nm,_,h => by
  obtain ⟨h1,h2⟩ := encC_shift rk (ρ := ρ) (ρ' := ρ') (d := d) (t.comps x) nm h
  simp only [encP,List.map_cons,List.map_nil,encA_conc h1,h2]; exact ⟨trivial,trivial⟩
 | .agg t,x,nm,_,h => by
  obtain ⟨h1,h2⟩ := encC_shift rk (ρ := ρ) (ρ' := ρ') (d := d) (t.comps x) nm h
  simp only [encP,List.map_cons,List.map_nil,encA_conc h1,h2]; exact ⟨trivial,trivial⟩
 | .ptr t,x,nm,hr,h => by cases hr
 | .clo f p,x,nm,hr,h => by cases hr
 | .mv f agg t,x,nm,hr,h => by cases hr
 | .pair a b,x,nm,hr,h => by
  simp only [Par.res,Bool.and_eq_true] at hr
  obtain ⟨h1,h2⟩ := encP_shift rk (ρ := ρ) (ρ' := ρ') (d := d) a x.1 nm hr.1 fun i hi => h i (by simp only [encP,List.length_append]; omega)
  obtain ⟨h3,h4⟩ := encP_shift rk (ρ := ρ) (ρ' := ρ') (d := d) b x.2 (nm + (encP rk nm a x.1).2.length) hr.2 fun i hi => by
   have := h ((encP rk nm a x.1).2.length + i) (by simp only [encP,List.length_append]; omega)
   rwa [← Nat.add_assoc nm] at this
  rw [show nm + (encP rk nm a x.1).2.length + d = nm + d + (encP rk nm a x.1).2.length by omega] at h3 h4
  simp only [encP,List.map_append,h1,h2,h3,h4]; exact ⟨trivial,trivial⟩
 | .none,x,nm,_,h => ⟨rfl,rfl⟩
theorem encP_ok (rk:Nat) : ∀ (p : Par) (x : p.ty.T) (nm:Nat),∀ c ∈ (encP rk nm p x).1,c.ok fun m => nm ≤ m ∧ m < nm + (encP rk nm p x).2.length
 | .one t,x,nm,c,h => by
  simp only [encP,List.mem_singleton] at h
  subst h; exact encA_ok (encC_ok rk _ nm)
 | .agg t,x,nm,c,h => by
  simp only [encP,List.mem_singleton] at h
  subst h; exact encA_ok (encC_ok rk _ nm)
 | .ptr t,x,nm,c,h => by
  simp only [encP,List.mem_singleton] at h
  subst h; simp only [encP,List.length_singleton,A0.ok,Cell.ok]; omega
 | .mv f agg t,x,nm,c,h => by
  simp only [encP,List.mem_singleton] at h
  subst h
  intro q hq
  obtain ⟨a,ha,rfl⟩ := List.mem_map.1 hq
  have := encC_ok rk (t.comps x) nm a ha
  unfold refC
  split
  ·trivial
  ·exact this
  ·trivial
 | .clo f p,x,nm,c,h => by
  simp only [encP,List.mem_singleton] at h
  subst h
  intro q hq
  obtain ⟨a,ha,rfl⟩ := List.mem_map.1 hq
  have := encP_ok rk p x nm a ha
  unfold refOf
  split
  ·exact this
  ·trivial
 | .pair a b,x,nm,c,h => by
  simp only [encP,List.mem_append] at h
  rcases h with h | h
  ·exact A0.ok_mono (fun m hm => by simp only [encP,List.length_append]; omega) c (encP_ok rk a x.1 nm c h)
  ·exact A0.ok_mono (fun m hm => by simp only [encP,List.length_append]; omega) c (encP_ok rk b x.2 _ c h)
 | .none,x,nm,c,h => by simp [encP] at h
theorem encP_rows (rk:Nat) : ∀ (p : Par) (x : p.ty.T) (nm:Nat),p.res = true → ∀ o ∈ (encP rk nm p x).2,∃ u,∃ l : List u.T,o = .row u l rk
 | .one t,x,nm,_,o,h => encC_rows rk _ nm o h
 | .agg t,x,nm,_,o,h => encC_rows rk _ nm o h
 | .ptr t,x,nm,hr,o,h => by cases hr
 | .clo f p,x,nm,hr,o,h => by cases hr
 | .mv f agg t,x,nm,hr,o,h => by cases hr
 | .pair a b,x,nm,hr,o,h => by
  simp only [Par.res,Bool.and_eq_true] at hr
  simp only [encP,List.mem_append] at h
  rcases h with h | h
  ·exact encP_rows rk a x.1 nm hr.1 o h
  ·exact encP_rows rk b x.2 _ hr.2 o h
 | .none,x,nm,_,o,h => by simp [encP] at h
theorem resV_conc {l l' : List A0} {ρ ρ' : Env} (h : l'.map (A0.conc ρ') = l.map (A0.conc ρ)) : (resV l').conc ρ' = (resV l).conc ρ := by
 have hl : l'.length = l.length := by simpa using congrArg List.length h
 match l,l',hl with
 | [],[],_ => rfl
 | [c],[c'],_ => simp only [List.map_cons,List.map_nil,List.cons.injEq,and_true] at h; simp only [resV,AV.conc,h]
 | _ :: _ :: _,_ :: _ :: _,_ => simp only [resV,AV.conc,h]
theorem resV_ok {l : List A0} {Kn : Nat → Prop} (h : ∀ c ∈ l,c.ok Kn) : (resV l).ok Kn := by
 match l,h with
 | [],h => exact h
 | [c],h => exact h c (by simp)
 | _ :: _ :: _,h => exact h

theorem St.grow {bor : Bor} {W : World} {ρ ρ1 : Env} {Kn : Nat → Prop} {Γ : HP} {w w' : World} {nm : Nat} {os : List AObj} {v : AV} {tc : List Nat} (h : St bor W ρ Kn Γ w) (hn : ∀ i,i < os.length → ¬ Kn (nm + i)) (hrow : ∀ o ∈ os,∃ u,∃ l : List u.T,o = .row u l 2) (h1 : St noB w ρ1 (· < os.length) (liveAt os) w') :
  ∃ ρ',(∀ m,Kn m → ρ' m = ρ m) ∧ (∀ n,n < os.length → ρ' (n + nm) = ρ1 n) ∧ St bor W ρ' (knR Kn nm { val := v,fresh := os,touch := tc }) (appH { val := v,fresh := os,touch := tc } nm Γ) w' := by
 let ρ' : Env := fun m => if nm ≤ m ∧ m < nm + os.length then ρ1 (m - nm) else ρ m
 have hold : ∀ m,Kn m → ρ' m = ρ m := fun m hm => by
  simp only [ρ']
  rw [if_neg]
  rintro ⟨h2,h3⟩
  exact hn (m - nm) (by omega) (by rw [show nm + (m - nm) = m by omega]; exact hm)
 have hnew : ∀ n,n < os.length → ρ' (n + nm) = ρ1 n := fun n hn => by
  simp only [ρ']
  rw [if_pos (by omega),show n + nm - nm = n by omega]
 have hΓ : ∀ m o,appH { val := v,fresh := os,touch := tc } nm Γ m = some o → (∃ n,m = n + nm ∧ n < os.length ∧ liveAt os n = some o ∧ ∃ u,∃ l : List u.T,o = .row u l 2) ∨ (Γ m = some o ∧ Kn m) := by
  intro m o ho
  simp only [appH,lastW] at ho
  split at ho
  ·rename_i hc
   have hlt : m - nm < os.length := by omega
   refine .inl ⟨m - nm,by omega,hlt,by rw [live_liveAt]; exact ho,?_⟩
   rw [List.getElem?_eq_getElem hlt] at ho
   obtain ⟨u,l,e⟩ := hrow _ (List.getElem_mem hlt)
   rw [e] at ho
   simp only [live,Option.some.injEq] at ho
   exact ⟨u,l,ho.symm⟩
  ·exact .inr ⟨ho,(h.kn m o ho).1⟩
 have hf1 : ∀ b,b < w.heap.size → w'.heap[b]? = w.heap[b]? := fun b hb => h1.fr.block b hb id
 have hnb : ∀ n b,n < os.length → (liveAt os n).isSome = true → (ρ1 n).has b → w.heap.size ≤ b := fun n b _ hs hb => by
  rcases h1.ownH n b hs hb with h2 | h2
  ·exact h2
  ·exact h2.elim
 have hob : ∀ m o b,Γ m = some o → (ρ m).has b → b < w.heap.size := fun m o b ho hb => h.lt m b (by rw [ho]; rfl) hb
 have hLOb : ∀ b,LOb ρ' (appH { val := v,fresh := os,touch := tc } nm Γ) b → (w.heap.size ≤ b ∧ LOb ρ1 (liveAt os) b) ∨ (b < w.heap.size ∧ LOb ρ Γ b) := by
  rintro b ⟨m,h2,h3⟩
  obtain ⟨o,ho⟩ := Option.isSome_iff_exists.1 h2
  rcases hΓ m o ho with ⟨n,rfl,hn1,hp,_⟩ | ⟨hg,hk⟩
  ·rw [hnew n hn1] at h3
   exact .inl ⟨hnb n b hn1 (by rw [hp]; rfl) h3,n,by rw [hp]; rfl,h3⟩
  ·rw [hold m hk] at h3
   exact .inr ⟨hob m o b hg h3,m,by rw [hg]; rfl,h3⟩
 have hHI : ∀ b,HI (appH { val := v,fresh := os,touch := tc } nm Γ) b → HI Γ b := fun b ⟨m,S,h2,h3⟩ => by
  rcases hΓ m _ h2 with ⟨n,_,_,_,u,l,e⟩ | ⟨hg,hk⟩
  ·cases e
  ·exact ⟨m,S,hg,h3⟩
 have hLO : ∀ b,LO ρ' (appH { val := v,fresh := os,touch := tc } nm Γ) b → (w.heap.size ≤ b ∧ LO ρ1 (liveAt os) b) ∨ (b < w.heap.size ∧ LO ρ Γ b) := by
  rintro b (h2 | h2)
  ·exact (hLOb b h2).imp (fun h => ⟨h.1,.inl h.2⟩) (fun h => ⟨h.1,.inl h.2⟩)
  ·exact .inr ⟨(h.hid b (hHI b h2)).1,.inr (hHI b h2)⟩
 have hsz := h.fr.size
 have hsz1 := h1.fr.size
 have hfz : ∀ b,fzB ρ Γ w b → fzB ρ' (appH { val := v,fresh := os,touch := tc } nm Γ) w' b ∧ w'.heap[b]? = w.heap[b]? := fun b hb => by
  have hlt := hb.1.lt
  refine ⟨⟨hb.1.same (hf1 b hlt),fun hl => ?_⟩,hf1 b hlt⟩
  rcases hLO b hl with ⟨h2,_⟩ | ⟨_,h2⟩
  ·omega
  ·exact hb.2 h2
 have hfz1 : ∀ b,fzB ρ1 (liveAt os) w' b → pmB noB w b → fzB ρ' (appH { val := v,fresh := os,touch := tc } nm Γ) w' b ∧ pmB bor W b := fun b hb hp => by
  have hge : w.heap.size ≤ b := by
   rcases hp with h2 | h2 | h2
   ·exact h2
   ·exact h2.elim
   ·exact h2.elim
  refine ⟨⟨hb.1,fun hl => ?_⟩,.inl (by omega)⟩
  rcases hLO b hl with ⟨_,h2⟩ | ⟨h2,_⟩
  ·exact hb.2 h2
  ·omega
 have hkn1 : ∀ m : Nat,m < os.length → knR Kn nm { val := v,fresh := os,touch := tc } (m + nm) := fun m hm => .inr (by simp only []; omega)
 refine ⟨ρ',hold,hnew,⟨?_,fun m o ho => ?_,fun m o ho => ?_,fun m m' b hm hm' hb1 hb2 => ?_,fun m b hm hb => ?_,fun b hh => ?_,fun m o ho => ?_⟩⟩
 rotate_right
 ·rcases hΓ m o ho with ⟨n,rfl,hn1,hp,_⟩ | ⟨hg,hk⟩
  ·rw [hnew n hn1]; exact h1.noe n o hp
  ·rw [hold m hk]; exact h.noe m o hg
 rotate_right
 ·obtain ⟨h2,h3⟩ := h.hid b (hHI b hh)
  refine ⟨by omega,fun h4 => ?_⟩
  rcases hLOb b h4 with ⟨h5,_⟩ | ⟨_,h5⟩
  ·omega
  ·exact h3 h5
 ·exact h.fr.trans h1.fr.of_none
 ·rcases hΓ m o ho with ⟨n,rfl,hn1,hp,u,l,rfl⟩ | ⟨hg,hk⟩
  ·obtain ⟨g1,g2,g3,sub,g4,g5,g6,g7⟩ := h1.at_ n _ hp
   rw [objAt,hnew n hn1]
   exact ⟨g1,g2,g3,sub,fun i x hi => by
    obtain ⟨a,e1,e2,_⟩ := g4 i x hi
    exact ⟨a,e1,e2,fun h => by cases h⟩,fun q u' l' hq => (g5 q u' l' hq).weak fun b hb => by
     obtain ⟨e1,e2⟩ := hfz1 b hb.1 (hb.2 rfl).1
     exact ⟨e1,fun _ => ⟨e2,(hb.2 rfl).2⟩⟩,g6,g7⟩
  ·exact objAt_keep (Kn := Kn) (h.at_ m o hg) hold hk (h.kn m o hg).2 hfz (fun _ _ h => h) fun b hb => hf1 b (hob m o b hg hb)
 ·rcases hΓ m o ho with ⟨n,rfl,hn1,hp,u,l,rfl⟩ | ⟨hg,hk⟩
  ·exact ⟨hkn1 n hn1,trivial⟩
  ·exact ⟨.inl hk,AObj.ok_mono (fun _ => .inl) o (h.kn m o hg).2⟩
 ·obtain ⟨o,ho⟩ := Option.isSome_iff_exists.1 hm
  obtain ⟨o',ho'⟩ := Option.isSome_iff_exists.1 hm'
  rcases hΓ m o ho with ⟨n,rfl,hn1,hp,_⟩ | ⟨hg,hk⟩
  ·rw [hnew n hn1] at hb1
   rcases hΓ m' o' ho' with ⟨n',rfl,hn1',hp',_⟩ | ⟨hg',hk'⟩
   ·rw [hnew n' hn1'] at hb2
    rw [h1.injH n n' b (by rw [hp]; rfl) (by rw [hp']; rfl) hb1 hb2]
   ·rw [hold m' hk'] at hb2
    have := hnb n b hn1 (by rw [hp]; rfl) hb1
    have := hob m' o' b hg' hb2
    omega
  ·rw [hold m hk] at hb1
   rcases hΓ m' o' ho' with ⟨n',rfl,hn1',hp',_⟩ | ⟨hg',hk'⟩
   ·rw [hnew n' hn1'] at hb2
    have := hnb n' b hn1' (by rw [hp']; rfl) hb2
    have := hob m o b hg hb1
    omega
   ·rw [hold m' hk'] at hb2
    exact h.injH m m' b (by rw [hg]; rfl) (by rw [hg']; rfl) hb1 hb2
 ·obtain ⟨o,ho⟩ := Option.isSome_iff_exists.1 hm
  rcases hΓ m o ho with ⟨n,rfl,hn1,hp,_⟩ | ⟨hg,hk⟩
  ·rw [hnew n hn1] at hb
   have := hnb n b hn1 (by rw [hp]; rfl) hb
   exact .inl (by omega)
  ·rw [hold m hk] at hb
   exact h.ownH m b (by rw [hg]; rfl) hb

section
variable {P : Program} {tt : List (Nat × TI)} {specs : List (Nat × Spec)}
theorem SpecOk.fnT (hT : TOk P tt) (hS : SpecsOk P specs) (hm : P.follows .mixedOrders = true) {f : FuncId} {fn : Func} (hf : P.funcs[f]? = some fn) (hn : nodupB (ids (bodyOf fn)) = true) {s : FnS} (hres : s.r.res = true)
  (h : ∀ x,s.pre x → ∃ lp its,ItsOk P noX its ∧ LpsOk P noX (bodyOf fn) lp ∧ fnE ⟨tt,specs,noX,lp,[],its⟩ fn (argsE s.p x) (heapE s.p x) (retE s.r (· = s.f x))) : SpecOk P f (fnSpec s) := by
 intro X args hp nm k hs
 unfold fnSpec at hs
 split at hs
 rotate_left
 ·exact hs.elim
 rename_i x tc b hd
 obtain ⟨rfl,hpre,hk⟩ := ob_spec hs
 have hk := hk _ rfl
 obtain ⟨as,e,hargs⟩ := decP_spec s.p _ _ _ _ hd
 rw [List.append_nil] at e
 subst e
 refine ⟨_,⟨fun p hp' => absurd hp' (by simp),?_⟩,hk⟩
 intro bor W ρ Kn Γ w _ _ ht hfr hst
 obtain ⟨xs,hg,hc⟩ := hargs bor W ρ Kn Γ w ht hst 0
 have hb := St.begin hg
 obtain ⟨lp,its,hi,hl,hfn⟩ := h x hpre
 have hcs := hc (fun n => xs.getD n {}) fun i y hy => by simp [hy]
 have key := calls_of_fnE (ctx := ⟨tt,specs,noX,lp,[],its⟩) hT ⟨hS,YsOk.nil P,hi⟩ (noX.ok noB w) hm hf (fun c hc => by
  have : bodyOf fn = c := by unfold bodyOf; rw [hc]
  subst this
  exact lpOk_of (nodupB_spec hn) hl) hfn (fun y hy => by
   obtain ⟨a,ha,rfl⟩ := List.mem_map.1 hy
   exact A0.ok_mono (fun m hm => by simpa [heapE] using hm.2) a (encP_ok 0 s.p x 0 a ha)) hb
 have ea : (argsE s.p x).map (AV.conc fun n => xs.getD n {}) = args.map (AV.conc ρ) := by
  rw [hcs]; simp [argsE,AV.conc,Function.comp_def]
 rw [ea] at key
 refine key.mono ?_
 rintro e w' ⟨st,ρ1,v,rfl,hv,hR,hst1⟩
 obtain ⟨y,rfl,hw⟩ := retE_spec hR
 have hat : AtS noB w [] ⟨[v],st.heap⟩ ρ1 { tmps := #[v.conc ρ1],defers := [] } w' := by
  refine ⟨fun t _ => ?_,rfl,rfl,fun t => ?_,hst1⟩
  ·match t with
   | 0 => rfl
   | t + 1 => rfl
  ·match t with
   | 0 => exact hv
   | t + 1 => exact und_ok _
 obtain ⟨ρ2,hat2⟩ := hat.weak hw
 have hrows := encP_rows 2 s.r (s.f x) 0 hres
 have he2 := fun d => (encP_shift 2 (ρ := ρ2) (ρ' := fun m => ρ2 (m - d)) (d := d) s.r (s.f x) 0 hres fun i _ => by simp).2
 have hlen : (encP 2 nm s.r (s.f x)).2 = (encP 2 0 s.r (s.f x)).2 := by simpa using he2 nm
 obtain ⟨ρ',r1,r2,r3⟩ := St.grow (v := resV (encP 2 nm s.r (s.f x)).1) (tc := tc) (nm := nm) hst (fun i hi => hfr i (by rw [hlen]; exact hi)) hrows hat2.st
 have hsh := (encP_shift 2 (ρ := ρ2) (ρ' := ρ') (d := nm) s.r (s.f x) 0 hres fun i hi => by rw [Nat.zero_add]; exact r2 i hi).1
 rw [Nat.zero_add] at hsh
 refine ⟨ρ',?_,r1,?_,?_⟩
 ·congr 1
  have h1 := hat2.tmps 0 (by
   show resV _ ≠ _
   generalize (encP 2 0 s.r (s.f x)).1 = l
   match l with
   | [] => exact fun h => by cases h
   | [_] => exact fun h => by cases h
   | _ :: _ :: _ => exact fun h => by cases h)
  have h2 : v.conc ρ1 = (resV (encP 2 0 s.r (s.f x)).1).conc ρ2 := h1
  rw [h2]
  exact (resV_conc hsh).symm
 ·exact resV_ok fun c hc => A0.ok_mono (fun m hm => .inr (by simpa using hm)) c (encP_ok 2 s.r (s.f x) nm c hc)
 ·rw [hlen]; exact r3
end
end Go.Ev
