/- Contracts of functions of typed values: what is handed back. -/
import Derived.Test.YtojielnkfeoccaaGreatEvJ
noncomputable section
set_option linter.unusedSectionVars false
set_option linter.unusedVariables false
set_option linter.unusedSimpArgs false
namespace Go.Ev
open Go.RowKit
theorem rU (rk:Nat): ∀(a b:List cD) (nm:Nat),dG rk nm (a++b)=((dG rk nm a).1++(dG rk (nm+(dG rk nm a).2.length) b).1,(dG rk nm a).2++(dG rk (nm+(dG rk nm a).2.length) b).2)
 | [],b,nm=>by simp [dG]
 | .flat v::r,b,nm=>by
  have:=rU rk r b nm
  simp only [List.cons_append,dG,this]
 | .sl u l::r,b,nm=>by
  have:=rU rk r b (nm+1)
  simp only [List.cons_append,dG,this,List.length_cons,show nm+((dG rk (nm+1) r).2.length+1)=nm+1+(dG rk (nm+1) r).2.length by omega]
theorem xN {π:List Src} : ∀(a b:List Cell) (x y:List Cell),iY π a=some x->iY π b=some y->iY π (a++b)=some (x++y)
 | [],b,x,y,h1,h2=>by simp only [iY,Option.some.injEq] at h1;subst h1;exact h2
 |c::r,b,x,y,h1,h2=>by
  simp only [iY] at h1
  split at h1
  ·rename_i q m e1 e2
   cases h1
   have:=xN r b m y e2 h2
   simp only [List.cons_append,iY,e1,this]
  ·cases h1
theorem xG {h:List aQ} : ∀(t:Ty) (cs:List Cell) (y:t.T) (r r':List Cell) (tc:List Nat) (ss:List Src),cL (av h) t cs=some (y,r,tc)->EK (av h) t cs=some (ss,r')->
  ∃ys,cs=ys++r/\ r'=r/\ ys.length=t.size/\ ∀(π:List Src) (nm:Nat),(∀i s,ss[i]? =some s->π[nm+i]? =some s)->
   iY π (dG 2 nm (t.aL y)).1=some ys/\ cn (Bn π h) ss (dG 2 nm (t.aL y)).2
 | .int k,cs,y,r,r',tc,ss,hd,ho=>by
  simp only [cL] at hd
  split at hd<;>try (cases hd;done)
  split at hd<;>try (cases hd;done)
  rename_i e
  cases hd;subst e
  simp only [EK,Option.some.injEq,Prod.mk.injEq] at ho
  obtain ⟨rfl,rfl⟩:=ho
  exact ⟨[_],rfl,rfl,rfl,fun π nm _=>⟨rfl,trivial⟩⟩
 | .bool,cs,y,r,r',tc,ss,hd,ho=>by
  simp only [cL] at hd
  split at hd<;>try (cases hd;done)
  cases hd
  simp only [EK,Option.some.injEq,Prod.mk.injEq] at ho
  obtain ⟨rfl,rfl⟩:=ho
  exact ⟨[_],rfl,rfl,rfl,fun π nm _=>⟨rfl,trivial⟩⟩
 | .str,cs,y,r,r',tc,ss,hd,ho=>by
  simp only [cL] at hd
  split at hd<;>try (cases hd;done)
  cases hd
  simp only [EK,Option.some.injEq,Prod.mk.injEq] at ho
  obtain ⟨rfl,rfl⟩:=ho
  exact ⟨[_],rfl,rfl,rfl,fun π nm _=>⟨rfl,trivial⟩⟩
 | .prod a b,cs,y,r,r',tc,ss,hd,ho=>by
  simp only [cL] at hd
  split at hd<;>try (cases hd;done)
  rename_i x1 r1 Rv h1
  split at hd<;>try (cases hd;done)
  rename_i x2 r2 XQ h2
  cases hd
  simp only [EK] at ho
  split at ho<;>try (cases ho;done)
  rename_i ss1 q1 o1
  split at ho<;>try (cases ho;done)
  rename_i ss2 q2 o2
  cases ho
  obtain ⟨ys,e1,e2,e3,e4⟩:=xG a _ _ _ _ _ _ h1 o1
  subst e2
  obtain ⟨zs,f1,f2,f3,f4⟩:=xG b _ _ _ _ _ _ h2 o2
  subst f2
  refine ⟨ys++zs,by rw [e1,f1];simp,rfl,by simp [e3,f3,Ty.size],fun π nm Mk=> ?_⟩
  obtain ⟨g1,g2⟩:=e4 π nm fun i s hi=>Mk i s (by rw [List.getElem?_append_left (List.getElem?_eq_some_iff.1 hi).1];exact hi)
  have hl:=g2.length
  obtain ⟨g3,g4⟩:=f4 π (nm+(dG 2 nm (a.aL x1)).2.length) fun i s hi=>by
   have:=Mk (ss1.length+i) s (by rw [List.getElem?_append_right (by omega)];simpa using hi)
   rwa [hl,<- Nat.add_assoc] at this
  rw [show (Ty.prod a b).aL (x1,x2)=a.aL x1++b.aL x2 from rfl,rU]
  exact ⟨xN _ _ _ _ g1 g3,g2.append g4⟩
 | .sl u,cs,y,r,r',tc,ss,hd,ho=>by
  simp only [EK] at ho
  split at ho
  ·cases ho
   simp only [cL,Option.some.injEq,Prod.mk.injEq] at hd
   obtain ⟨rfl,rfl,rfl⟩:=hd
   refine ⟨[_],rfl,rfl,rfl,fun π nm Mk=> ?_⟩
   have h0:=Mk 0 _ rfl
   rw [Nat.add_zero] at h0
   refine ⟨?_,⟨⟨u,2,rfl,by decide⟩,trivial⟩⟩
   simp only [Ty.aL,dG,iY,jt,h0]
  ·rename_i n r1
   split at ho<;>try (cases ho;done)
   rename_i t l rk hn
   split at ho<;>try (cases ho;done)
   rename_i o7
   cases ho;subst o7
   simp only [cL,hn] at hd
   split at hd<;>try (cases hd;done)
   rename_i l' hl'
   cases hd
   obtain ⟨e,e2⟩:=dV hl'
   subst e
   dsimp only at e2
   subst e2
   refine ⟨[_],rfl,rfl,rfl,fun π nm Mk=> ?_⟩
   have h0:=Mk 0 _ rfl
   rw [Nat.add_zero] at h0
   refine ⟨?_,⟨⟨_,hn,rfl⟩,trivial⟩⟩
   simp only [Ty.aL,dG,iY,jt,h0]
  ·rename_i n len c r1
   split at ho<;>try (cases ho;done)
   rename_i hc
   split at ho<;>try (cases ho;done)
   rename_i cs' e hn
   split at ho<;>try (cases ho;done)
   rename_i hf
   simp only [Bool.and_eq_true,decide_eq_true_eq] at hf
   cases ho;subst hc
   simp only [cL,iR hf.1,hn,Nat.le_refl,decide_true,Bool.and_self,if_true,List.drop_zero] at hd
   split at hd<;>try (cases hd;done)
   rename_i l Rv hN
   cases hd
   obtain ⟨g1,_⟩:=yZ (gN:=fun _=>none) hf.1 _ _ _ _ hN
   refine ⟨[_],rfl,rfl,rfl,fun π nm Mk=> ?_⟩
   have h0:=Mk 0 _ rfl
   rw [Nat.add_zero] at h0
   refine ⟨?_,⟨⟨u,y,cs',e,2,rfl,.inl rfl,hn,hf.1,g1,hf.2⟩,trivial⟩⟩
   simp only [Ty.aL,dG,iY,jt,h0]
  ·cases ho
theorem xM {π:List Src} : ∀(a b:List A0) (x y:List A0),jG π a=some x->jG π b=some y->jG π (a++b)=some (x++y)
 | [],b,x,y,h1,h2=>by simp only [jG,Option.some.injEq] at h1;subst h1;exact h2
 |c::r,b,x,y,h1,h2=>by
  simp only [jG] at h1
  split at h1
  ·rename_i q m e1 e2
   cases h1
   have:=xM r b m y e2 h2
   simp only [List.cons_append,jG,e1,this]
  ·cases h1
theorem za {h:List aQ} : ∀(p:nX) (l:List A0) (y:p.ty.T) (r:List A0) (ss:List Src),CB (av h) p l=some (y,r,ss)->
  ∃ys,l=ys++r/\ ∀(π:List Src) (nm:Nat),(∀i s,ss[i]? =some s->π[nm+i]? =some s)->jG π (bV 2 nm p y).1=some ys/\ cn (Bn π h) ss (bV 2 nm p y).2
 | .one t,l,y,r,ss,hd=>by
  simp only [CB] at hd
  split at hd<;>try (cases hd;done)
  rename_i c r1
  split at hd<;>try (cases hd;done)
  rename_i x tc h1
  split at hd<;>try (cases hd;done)
  rename_i ss1 q h2
  cases hd
  obtain ⟨ys,e1,e2,e3,e4⟩:=xG t _ _ _ _ _ _ h1 h2
  rw [List.append_nil] at e1
  subst e1
  refine ⟨[_],rfl,fun π nm Mk=> ?_⟩
  obtain ⟨g1,g2⟩:=e4 π nm Mk
  refine ⟨?_,g2⟩
  simp only [bV]
  match hm:(dG 2 nm (t.aL y)).1,g1 with
  | [],g1=>simp [iY] at g1
  | [c'],g1=>
   simp only [iY] at g1
   split at g1
   ·rename_i q' m' k1 k2
    simp only [Option.some.injEq,List.cons.injEq] at g1
    obtain ⟨rfl,rfl⟩:=g1
    simp only [wE,jG,EL,k1]
   ·cases g1
  |_::_::_,g1=>
   simp only [iY] at g1
   split at g1
   ·rename_i k1 k2
    split at k2
    ·cases k2;simp at g1
    ·cases k2
   ·cases g1
 | .agg t,l,y,r,ss,hd=>by
  simp only [CB] at hd
  split at hd<;>try (cases hd;done)
  rename_i c r1
  split at hd<;>try (cases hd;done)
  rename_i x tc h1
  split at hd<;>try (cases hd;done)
  rename_i ss1 q h2
  cases hd
  obtain ⟨ys,e1,e2,e3,e4⟩:=xG t _ _ _ _ _ _ h1 h2
  rw [List.append_nil] at e1
  subst e1
  refine ⟨[_],rfl,fun π nm Mk=> ?_⟩
  obtain ⟨g1,g2⟩:=e4 π nm Mk
  refine ⟨?_,g2⟩
  simp only [bV,wE,jG,EL,g1]
 | .ptr t,l,y,r,ss,hd=>by simp [CB] at hd
 | .eN f p,l,y,r,ss,hd=>by simp [CB] at hd
 | .mv f agg t,l,y,r,ss,hd=>by simp [CB] at hd
 | .pair a b,l,y,r,ss,hd=>by
  simp only [CB] at hd
  split at hd<;>try (cases hd;done)
  rename_i x1 r1 ss1 h1
  split at hd<;>try (cases hd;done)
  rename_i x2 r2 ss2 h2
  cases hd
  obtain ⟨ys,e1,e4⟩:=za a _ _ _ _ h1
  obtain ⟨zs,f1,f4⟩:=za b _ _ _ _ h2
  refine ⟨ys++zs,by rw [e1,f1];simp,fun π nm Mk=> ?_⟩
  obtain ⟨g1,g2⟩:=e4 π nm fun i s hi=>Mk i s (by rw [List.getElem?_append_left (List.getElem?_eq_some_iff.1 hi).1];exact hi)
  have hl:=g2.length
  obtain ⟨g3,g4⟩:=f4 π (nm+(bV 2 nm a x1).2.length) fun i s hi=>by
   have:=Mk (ss1.length+i) s (by rw [List.getElem?_append_right (by omega)];simpa using hi)
   rwa [hl,<- Nat.add_assoc] at this
  exact ⟨xM _ _ _ _ g1 g3,g2.append g4⟩
 | .none,l,y,r,ss,hd=>by
  simp only [CB,Option.some.injEq,Prod.mk.injEq] at hd
  obtain ⟨rfl,rfl,rfl⟩:=hd
  exact ⟨[],rfl,fun π nm _=>⟨rfl,trivial⟩⟩
theorem Wr {π:List Src} {h:List aQ} {s:Src} {o:aQ} (hr:Bn π h s o):o≠ .gone:=by
 rintro rfl
 cases s with
 |same m=>obtain ⟨p,_,h2⟩:=hr;cases h2
 |nil=>obtain ⟨_,_,h2,_⟩:=hr;cases h2
 |mt m off=>obtain ⟨_,_,_,h2,_⟩:=hr;cases h2
 |any m=>obtain ⟨_,_,_,h2,_⟩:=hr;cases h2
 |cells m len=>obtain ⟨_,_,_,_,_,h2,_⟩:=hr;cases h2
theorem JK {π:List Src} {h:List aQ} : ∀(ss:List Src) (os:List aQ),cn (Bn π h) ss os->qW π h ss os/\ ua ss os=ss.filterMap EV
 | [],[],_=>⟨trivial,rfl⟩
 | [],_::_,h=>h.elim
 |_::_,[],h=>h.elim
 |s::r,o::l,h=>by
  obtain ⟨h1,h2⟩:=JK r l h.2
  have hg:=Wr h.1
  cases o<;>first|exact absurd rfl hg|(refine ⟨⟨h.1,h1⟩,?_⟩;simp only [ua,List.filterMap_cons,h2];cases EV s<;>rfl)
theorem Gb {r:nX} {Q:r.ty.T->Prop} {v:AV} {st:AS} (h:vB r Q v st): ∃y,Q y/\ mS ⟨[v],st.heap⟩ ⟨[pq (bV 2 0 r y).1],(bV 2 0 r y).2⟩:=by
 unfold vB at h
 split at h
 ·rename_i l hl
  split at h
  ·rename_i y ss hd
   split at h
   ·rename_i hn
    refine ⟨y,h,ss,?_⟩
    obtain ⟨ys,e,hs⟩:=za r _ _ _ _ hd
    rw [List.append_nil] at e
    subst e
    obtain ⟨h1,h2⟩:=hs ss 0 fun i s hi=>by rwa [Nat.zero_add]
    obtain ⟨h3,h4⟩:=JK _ _ h2
    refine ⟨?_,h3,by rw [h4];exact hn⟩
    have key:zG ss (pq (bV 2 0 r y).1)=some v:=by
     cases v with
     |v a=>
      simp only [Ij,Option.some.injEq] at hl
      subst hl
      match hm:(bV 2 0 r y).1,h1 with
      | [],h1=>simp [jG] at h1
      | [c],h1=>
       simp only [jG] at h1
       split at h1
       ·rename_i q m k1 k2
        simp only [Option.some.injEq,List.cons.injEq] at h1
        obtain ⟨rfl,_⟩:=h1
        simp only [pq,zG,k1]
       ·cases h1
      |_::_::_,h1=>
       simp only [jG] at h1
       split at h1
       ·rename_i k1 k2
        split at k2
        ·cases k2;simp at h1
        ·cases k2
       ·cases h1
     |lZ l'=>
      simp only [Ij] at hl
      split at hl
      ·cases hl
      ·rename_i hne
       cases hl
       match hm:(bV 2 0 r y).1,h1 with
       | [],h1=>simp only [pq,zG,h1]
       | [c],h1=>
        simp only [jG] at h1
        split at h1
        ·rename_i q m k1 k2
         cases k2
         cases h1
         exact absurd rfl (hne q)
        ·cases h1
       |_::_::_,h1=>simp only [pq,zG,h1]
     |dead=>simp [Ij] at hl
    dsimp only
    revert key
    generalize pq (bV 2 0 r y).1=u
    intro key
    cases u with
    |v a=>exact ⟨key,trivial⟩
    |lZ l=>exact ⟨key,trivial⟩
    |dead=>simp [zG] at key
   ·exact h.elim
  ·exact h.elim
 ·exact h.elim
end Go.Ev
