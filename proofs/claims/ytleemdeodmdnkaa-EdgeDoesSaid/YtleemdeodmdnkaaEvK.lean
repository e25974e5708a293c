/- Contracts of functions of typed values: what is handed back. -/
import Derived.Test.YtleemdeodmdnkaaEvJ
noncomputable section
set_option linter.unusedSectionVars false
set_option linter.unusedVariables false
set_option linter.unusedSimpArgs false
namespace Go.Ev
open Go.RowKit

theorem encC_append (rk:Nat) : ∀ (a b : List Comp) (nm:Nat),encC rk nm (a ++ b) = ((encC rk nm a).1 ++ (encC rk (nm + (encC rk nm a).2.length) b).1,(encC rk nm a).2 ++ (encC rk (nm + (encC rk nm a).2.length) b).2)
 | [],b,nm => by simp [encC]
 | .flat v :: r,b,nm => by
  have := encC_append rk r b nm
  simp only [List.cons_append,encC,this]
 | .sl u l :: r,b,nm => by
  have := encC_append rk r b (nm + 1)
  simp only [List.cons_append,encC,this,List.length_cons,show nm + ((encC rk (nm + 1) r).2.length + 1) = nm + 1 + (encC rk (nm + 1) r).2.length by omega]
theorem renCs_append {π : List Src} : ∀ (a b : List Cell) (x y : List Cell),renCs π a = some x → renCs π b = some y → renCs π (a ++ b) = some (x ++ y)
 | [],b,x,y,h1,h2 => by simp only [renCs,Option.some.injEq] at h1; subst h1; exact h2
 | c :: r,b,x,y,h1,h2 => by
  simp only [renCs] at h1
  split at h1
  ·rename_i q m e1 e2
   cases h1
   have := renCs_append r b m y e2 h2
   simp only [List.cons_append,renCs,e1,this]
  ·cases h1

theorem own_spec {h : List AObj} : ∀ (t : Ty) (cs : List Cell) (y : t.T) (r r' : List Cell) (tc : List Nat) (ss : List Src),decT (liveAt h) t cs = some (y,r,tc) → ownC (liveAt h) t cs = some (ss,r') →
  ∃ ys,cs = ys ++ r ∧ r' = r ∧ ys.length = t.size ∧ ∀ (π : List Src) (nm:Nat),(∀ i s,ss[i]? = some s → π[nm + i]? = some s) →
   renCs π (encC 2 nm (t.comps y)).1 = some ys ∧ All2 (objR π h) ss (encC 2 nm (t.comps y)).2
 | .int k,cs,y,r,r',tc,ss,hd,ho => by
  simp only [decT] at hd
  split at hd <;> try (cases hd; done)
  split at hd <;> try (cases hd; done)
  rename_i e
  cases hd; subst e
  simp only [ownC,Option.some.injEq,Prod.mk.injEq] at ho
  obtain ⟨rfl,rfl⟩ := ho
  exact ⟨[_],rfl,rfl,rfl,fun π nm _ => ⟨rfl,trivial⟩⟩
 | .bool,cs,y,r,r',tc,ss,hd,ho => by
  simp only [decT] at hd
  split at hd <;> try (cases hd; done)
  cases hd
  simp only [ownC,Option.some.injEq,Prod.mk.injEq] at ho
  obtain ⟨rfl,rfl⟩ := ho
  exact ⟨[_],rfl,rfl,rfl,fun π nm _ => ⟨rfl,trivial⟩⟩
 | .str,cs,y,r,r',tc,ss,hd,ho => by
  simp only [decT] at hd
  split at hd <;> try (cases hd; done)
  cases hd
  simp only [ownC,Option.some.injEq,Prod.mk.injEq] at ho
  obtain ⟨rfl,rfl⟩ := ho
  exact ⟨[_],rfl,rfl,rfl,fun π nm _ => ⟨rfl,trivial⟩⟩
 | .prod a b,cs,y,r,r',tc,ss,hd,ho => by
  simp only [decT] at hd
  split at hd <;> try (cases hd; done)
  rename_i x1 r1 tc1 h1
  split at hd <;> try (cases hd; done)
  rename_i x2 r2 tc2 h2
  cases hd
  simp only [ownC] at ho
  split at ho <;> try (cases ho; done)
  rename_i ss1 q1 o1
  split at ho <;> try (cases ho; done)
  rename_i ss2 q2 o2
  cases ho
  obtain ⟨ys,e1,e2,e3,e4⟩ := own_spec a _ _ _ _ _ _ h1 o1
  subst e2
  obtain ⟨zs,f1,f2,f3,f4⟩ := own_spec b _ _ _ _ _ _ h2 o2
  subst f2
  refine ⟨ys ++ zs,by rw [e1,f1]; simp,rfl,by simp [e3,f3,Ty.size],fun π nm hπ => ?_⟩
  obtain ⟨g1,g2⟩ := e4 π nm fun i s hi => hπ i s (by rw [List.getElem?_append_left (List.getElem?_eq_some_iff.1 hi).1]; exact hi)
  have hl := g2.length
  obtain ⟨g3,g4⟩ := f4 π (nm + (encC 2 nm (a.comps x1)).2.length) fun i s hi => by
   have := hπ (ss1.length + i) s (by rw [List.getElem?_append_right (by omega)]; simpa using hi)
   rwa [hl,← Nat.add_assoc] at this
  rw [show (Ty.prod a b).comps (x1,x2) = a.comps x1 ++ b.comps x2 from rfl,encC_append]
  exact ⟨renCs_append _ _ _ _ g1 g3,g2.append g4⟩
 | .sl u,cs,y,r,r',tc,ss,hd,ho => by
  simp only [ownC] at ho
  split at ho
  ·cases ho
   simp only [decT,Option.some.injEq,Prod.mk.injEq] at hd
   obtain ⟨rfl,rfl,rfl⟩ := hd
   refine ⟨[_],rfl,rfl,rfl,fun π nm hπ => ?_⟩
   have h0 := hπ 0 _ rfl
   rw [Nat.add_zero] at h0
   refine ⟨?_,⟨⟨u,2,rfl,by decide⟩,trivial⟩⟩
   simp only [Ty.comps,encC,renCs,renC,h0]
  ·rename_i n r1
   split at ho <;> try (cases ho; done)
   rename_i t l rk hn
   split at ho <;> try (cases ho; done)
   rename_i hrk
   cases ho; subst hrk
   simp only [decT,hn] at hd
   split at hd <;> try (cases hd; done)
   rename_i l' hl'
   cases hd
   obtain ⟨e,e2⟩ := castL_eq hl'
   subst e
   dsimp only at e2
   subst e2
   refine ⟨[_],rfl,rfl,rfl,fun π nm hπ => ?_⟩
   have h0 := hπ 0 _ rfl
   rw [Nat.add_zero] at h0
   refine ⟨?_,⟨⟨_,hn,rfl⟩,trivial⟩⟩
   simp only [Ty.comps,encC,renCs,renC,h0]
  ·rename_i n len c r1
   split at ho <;> try (cases ho; done)
   rename_i hc
   split at ho <;> try (cases ho; done)
   rename_i cs' e hn
   split at ho <;> try (cases ho; done)
   rename_i hf
   simp only [Bool.and_eq_true,decide_eq_true_eq] at hf
   cases ho; subst hc
   simp only [decT,flat_shallow hf.1,hn,Nat.le_refl,decide_true,Bool.and_self,if_true,List.drop_zero] at hd
   split at hd <;> try (cases hd; done)
   rename_i l tc1 hN
   cases hd
   obtain ⟨g1,_⟩ := decN_flat (hp' := fun _ => none) hf.1 _ _ _ _ hN
   refine ⟨[_],rfl,rfl,rfl,fun π nm hπ => ?_⟩
   have h0 := hπ 0 _ rfl
   rw [Nat.add_zero] at h0
   refine ⟨?_,⟨⟨u,y,cs',e,2,rfl,.inl rfl,hn,hf.1,g1,hf.2⟩,trivial⟩⟩
   simp only [Ty.comps,encC,renCs,renC,h0]
  ·cases ho
theorem renAs_append {π : List Src} : ∀ (a b : List A0) (x y : List A0),renAs π a = some x → renAs π b = some y → renAs π (a ++ b) = some (x ++ y)
 | [],b,x,y,h1,h2 => by simp only [renAs,Option.some.injEq] at h1; subst h1; exact h2
 | c :: r,b,x,y,h1,h2 => by
  simp only [renAs] at h1
  split at h1
  ·rename_i q m e1 e2
   cases h1
   have := renAs_append r b m y e2 h2
   simp only [List.cons_append,renAs,e1,this]
  ·cases h1
theorem decR_spec {h : List AObj} : ∀ (p : Par) (l : List A0) (y : p.ty.T) (r : List A0) (ss : List Src),decR (liveAt h) p l = some (y,r,ss) →
  ∃ ys,l = ys ++ r ∧ ∀ (π : List Src) (nm:Nat),(∀ i s,ss[i]? = some s → π[nm + i]? = some s) → renAs π (encP 2 nm p y).1 = some ys ∧ All2 (objR π h) ss (encP 2 nm p y).2
 | .one t,l,y,r,ss,hd => by
  simp only [decR] at hd
  split at hd <;> try (cases hd; done)
  rename_i c r1
  split at hd <;> try (cases hd; done)
  rename_i x tc h1
  split at hd <;> try (cases hd; done)
  rename_i ss1 q h2
  cases hd
  obtain ⟨ys,e1,e2,e3,e4⟩ := own_spec t _ _ _ _ _ _ h1 h2
  rw [List.append_nil] at e1
  subst e1
  refine ⟨[_],rfl,fun π nm hπ => ?_⟩
  obtain ⟨g1,g2⟩ := e4 π nm hπ
  refine ⟨?_,g2⟩
  simp only [encP]
  match hm : (encC 2 nm (t.comps y)).1,g1 with
  | [],g1 => simp [renCs] at g1
  | [c'],g1 =>
   simp only [renCs] at g1
   split at g1
   ·rename_i q' m' k1 k2
    simp only [Option.some.injEq,List.cons.injEq] at g1
    obtain ⟨rfl,rfl⟩ := g1
    simp only [encA,renAs,renA,k1]
   ·cases g1
  | _ :: _ :: _,g1 =>
   simp only [renCs] at g1
   split at g1
   ·rename_i k1 k2
    split at k2
    ·cases k2; simp at g1
    ·cases k2
   ·cases g1
 | .agg t,l,y,r,ss,hd => by
  simp only [decR] at hd
  split at hd <;> try (cases hd; done)
  rename_i c r1
  split at hd <;> try (cases hd; done)
  rename_i x tc h1
  split at hd <;> try (cases hd; done)
  rename_i ss1 q h2
  cases hd
  obtain ⟨ys,e1,e2,e3,e4⟩ := own_spec t _ _ _ _ _ _ h1 h2
  rw [List.append_nil] at e1
  subst e1
  refine ⟨[_],rfl,fun π nm hπ => ?_⟩
  obtain ⟨g1,g2⟩ := e4 π nm hπ
  refine ⟨?_,g2⟩
  simp only [encP,encA,renAs,renA,g1]
 | .ptr t,l,y,r,ss,hd => by simp [decR] at hd
 | .clo f p,l,y,r,ss,hd => by simp [decR] at hd
 | .mv f agg t,l,y,r,ss,hd => by simp [decR] at hd
 | .pair a b,l,y,r,ss,hd => by
  simp only [decR] at hd
  split at hd <;> try (cases hd; done)
  rename_i x1 r1 ss1 h1
  split at hd <;> try (cases hd; done)
  rename_i x2 r2 ss2 h2
  cases hd
  obtain ⟨ys,e1,e4⟩ := decR_spec a _ _ _ _ h1
  obtain ⟨zs,f1,f4⟩ := decR_spec b _ _ _ _ h2
  refine ⟨ys ++ zs,by rw [e1,f1]; simp,fun π nm hπ => ?_⟩
  obtain ⟨g1,g2⟩ := e4 π nm fun i s hi => hπ i s (by rw [List.getElem?_append_left (List.getElem?_eq_some_iff.1 hi).1]; exact hi)
  have hl := g2.length
  obtain ⟨g3,g4⟩ := f4 π (nm + (encP 2 nm a x1).2.length) fun i s hi => by
   have := hπ (ss1.length + i) s (by rw [List.getElem?_append_right (by omega)]; simpa using hi)
   rwa [hl,← Nat.add_assoc] at this
  exact ⟨renAs_append _ _ _ _ g1 g3,g2.append g4⟩
 | .none,l,y,r,ss,hd => by
  simp only [decR,Option.some.injEq,Prod.mk.injEq] at hd
  obtain ⟨rfl,rfl,rfl⟩ := hd
  exact ⟨[],rfl,fun π nm _ => ⟨rfl,trivial⟩⟩
theorem objR_ng {π : List Src} {h : List AObj} {s : Src} {o : AObj} (hr : objR π h s o) : o ≠ .gone := by
 rintro rfl
 cases s with
 | same m => obtain ⟨p,_,h2⟩ := hr; cases h2
 | nil => obtain ⟨_,_,h2,_⟩ := hr; cases h2
 | mt m off => obtain ⟨_,_,_,h2,_⟩ := hr; cases h2
 | any m => obtain ⟨_,_,_,h2,_⟩ := hr; cases h2
 | cells m len => obtain ⟨_,_,_,_,_,h2,_⟩ := hr; cases h2
theorem heapR_of {π : List Src} {h : List AObj} : ∀ (ss : List Src) (os : List AObj),All2 (objR π h) ss os → heapR π h ss os ∧ srcs ss os = ss.filterMap srcB
 | [],[],_ => ⟨trivial,rfl⟩
 | [],_ :: _,h => h.elim
 | _ :: _,[],h => h.elim
 | s :: r,o :: l,h => by
  obtain ⟨h1,h2⟩ := heapR_of r l h.2
  have hg := objR_ng h.1
  cases o <;> first | exact absurd rfl hg | (refine ⟨⟨h.1,h1⟩,?_⟩; simp only [srcs,List.filterMap_cons,h2]; cases srcB s <;> rfl)
theorem retE_spec {r : Par} {Q : r.ty.T → Prop} {v : AV} {st : AS} (h : retE r Q v st) : ∃ y,Q y ∧ Weak ⟨[v],st.heap⟩ ⟨[resV (encP 2 0 r y).1],(encP 2 0 r y).2⟩ := by
 unfold retE at h
 split at h
 ·rename_i l hl
  split at h
  ·rename_i y ss hd
   split at h
   ·rename_i hn
    refine ⟨y,h,ss,?_⟩
    obtain ⟨ys,e,hs⟩ := decR_spec r _ _ _ _ hd
    rw [List.append_nil] at e
    subst e
    obtain ⟨h1,h2⟩ := hs ss 0 fun i s hi => by rwa [Nat.zero_add]
    obtain ⟨h3,h4⟩ := heapR_of _ _ h2
    refine ⟨?_,h3,by rw [h4]; exact hn⟩
    have key : renV ss (resV (encP 2 0 r y).1) = some v := by
     cases v with
     | v a =>
      simp only [partsV,Option.some.injEq] at hl
      subst hl
      match hm : (encP 2 0 r y).1,h1 with
      | [],h1 => simp [renAs] at h1
      | [c],h1 =>
       simp only [renAs] at h1
       split at h1
       ·rename_i q m k1 k2
        simp only [Option.some.injEq,List.cons.injEq] at h1
        obtain ⟨rfl,_⟩ := h1
        simp only [resV,renV,k1]
       ·cases h1
      | _ :: _ :: _,h1 =>
       simp only [renAs] at h1
       split at h1
       ·rename_i k1 k2
        split at k2
        ·cases k2; simp at h1
        ·cases k2
       ·cases h1
     | tup l' =>
      simp only [partsV] at hl
      split at hl
      ·cases hl
      ·rename_i hne
       cases hl
       match hm : (encP 2 0 r y).1,h1 with
       | [],h1 => simp only [resV,renV,h1]
       | [c],h1 =>
        simp only [renAs] at h1
        split at h1
        ·rename_i q m k1 k2
         cases k2
         cases h1
         exact absurd rfl (hne q)
        ·cases h1
       | _ :: _ :: _,h1 => simp only [resV,renV,h1]
     | dead => simp [partsV] at hl
    dsimp only
    revert key
    generalize resV (encP 2 0 r y).1 = u
    intro key
    cases u with
    | v a => exact ⟨key,trivial⟩
    | tup l => exact ⟨key,trivial⟩
    | dead => simp [renV] at key
   ·exact h.elim
  ·exact h.elim
 ·exact h.elim
end Go.Ev
