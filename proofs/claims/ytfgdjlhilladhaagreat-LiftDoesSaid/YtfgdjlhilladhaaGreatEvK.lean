/- Contracts of functions of typed values: what is handed back. -/
import Derived.Test.YtfgdjlhilladhaaGreatEvJ
noncomputable section
set_option linter.unusedSectionVars false
set_option linter.unusedVariables false
set_option linter.unusedSimpArgs false
namespace Go.Ev
open Go.RowKit
theorem xx (rk:Nat): ∀(a b:List cD) (nm:Nat),cO rk nm (a++b)=((cO rk nm a).1++(cO rk (nm+(cO rk nm a).2.length) b).1,(cO rk nm a).2++(cO rk (nm+(cO rk nm a).2.length) b).2)
 | [],b,nm=>by simp [cO]
 | .flat v::r,b,nm=>by
  have:=xx rk r b nm
  simp only [List.cons_append,cO,this]
 | .sl u l::r,b,nm=>by
  have:=xx rk r b (nm+1)
  simp only [List.cons_append,cO,this,List.length_cons,show nm+((cO rk (nm+1) r).2.length+1)=nm+1+(cO rk (nm+1) r).2.length by omega]
theorem Eo {π:List Src} : ∀(a b:List Cell) (x y:List Cell),ke π a=some x->ke π b=some y->ke π (a++b)=some (x++y)
 | [],b,x,y,h1,h2=>by simp only [ke,Option.some.injEq] at h1;subst h1;exact h2
 |c::r,b,x,y,h1,h2=>by
  simp only [ke] at h1
  split at h1
  ·rename_i q m e1 e2
   cases h1
   have:=Eo r b m y e2 h2
   simp only [List.cons_append,ke,e1,this]
  ·cases h1
theorem Dz {h:List aX} : ∀(t:Ty) (cs:List Cell) (y:t.T) (r r':List Cell) (tc:List Nat) (ss:List Src),cN (aA h) t cs=some (y,r,tc)->Nm (aA h) t cs=some (ss,r')->
  ∃ys,cs=ys++r/\ r'=r/\ ys.length=t.size/\ ∀(π:List Src) (nm:Nat),(∀i s,ss[i]? =some s->π[nm+i]? =some s)->
   ke π (cO 2 nm (t.aM y)).1=some ys/\ bN (IX π h) ss (cO 2 nm (t.aM y)).2
 | .int k,cs,y,r,r',tc,ss,hd,ho=>by
  simp only [cN] at hd
  split at hd<;>try (cases hd;done)
  split at hd<;>try (cases hd;done)
  rename_i e
  cases hd;subst e
  simp only [Nm,Option.some.injEq,Prod.mk.injEq] at ho
  obtain ⟨rfl,rfl⟩:=ho
  exact ⟨[_],rfl,rfl,rfl,fun π nm _=>⟨rfl,trivial⟩⟩
 | .bool,cs,y,r,r',tc,ss,hd,ho=>by
  simp only [cN] at hd
  split at hd<;>try (cases hd;done)
  cases hd
  simp only [Nm,Option.some.injEq,Prod.mk.injEq] at ho
  obtain ⟨rfl,rfl⟩:=ho
  exact ⟨[_],rfl,rfl,rfl,fun π nm _=>⟨rfl,trivial⟩⟩
 | .str,cs,y,r,r',tc,ss,hd,ho=>by
  simp only [cN] at hd
  split at hd<;>try (cases hd;done)
  cases hd
  simp only [Nm,Option.some.injEq,Prod.mk.injEq] at ho
  obtain ⟨rfl,rfl⟩:=ho
  exact ⟨[_],rfl,rfl,rfl,fun π nm _=>⟨rfl,trivial⟩⟩
 | .prod a b,cs,y,r,r',tc,ss,hd,ho=>by
  simp only [cN] at hd
  split at hd<;>try (cases hd;done)
  rename_i x1 r1 Z0 h1
  split at hd<;>try (cases hd;done)
  rename_i x2 r2 tc2 h2
  cases hd
  simp only [Nm] at ho
  split at ho<;>try (cases ho;done)
  rename_i ss1 q1 o1
  split at ho<;>try (cases ho;done)
  rename_i ss2 q2 o2
  cases ho
  obtain ⟨ys,e1,e2,e3,e4⟩:=Dz a _ _ _ _ _ _ h1 o1
  subst e2
  obtain ⟨zs,f1,f2,f3,f4⟩:=Dz b _ _ _ _ _ _ h2 o2
  subst f2
  refine ⟨ys++zs,by rw [e1,f1];simp,rfl,by simp [e3,f3,Ty.size],fun π nm Ww=> ?_⟩
  obtain ⟨g1,g2⟩:=e4 π nm fun i s hi=>Ww i s (by rw [List.getElem?_append_left (List.getElem?_eq_some_iff.1 hi).1];exact hi)
  have hl:=g2.length
  obtain ⟨g3,g4⟩:=f4 π (nm+(cO 2 nm (a.aM x1)).2.length) fun i s hi=>by
   have:=Ww (ss1.length+i) s (by rw [List.getElem?_append_right (by omega)];simpa using hi)
   rwa [hl,<- Nat.add_assoc] at this
  rw [show (Ty.prod a b).aM (x1,x2)=a.aM x1++b.aM x2 from rfl,xx]
  exact ⟨Eo _ _ _ _ g1 g3,g2.append g4⟩
 | .sl u,cs,y,r,r',tc,ss,hd,ho=>by
  simp only [Nm] at ho
  split at ho
  ·cases ho
   simp only [cN,Option.some.injEq,Prod.mk.injEq] at hd
   obtain ⟨rfl,rfl,rfl⟩:=hd
   refine ⟨[_],rfl,rfl,rfl,fun π nm Ww=> ?_⟩
   have h0:=Ww 0 _ rfl
   rw [Nat.add_zero] at h0
   refine ⟨?_,⟨⟨u,2,rfl,by decide⟩,trivial⟩⟩
   simp only [Ty.aM,cO,ke,lP,h0]
  ·rename_i n r1
   split at ho<;>try (cases ho;done)
   rename_i t l rk hn
   split at ho<;>try (cases ho;done)
   rename_i C5
   cases ho;subst C5
   simp only [cN,hn] at hd
   split at hd<;>try (cases hd;done)
   rename_i l' hl'
   cases hd
   obtain ⟨e,e2⟩:=fJ hl'
   subst e
   dsimp only at e2
   subst e2
   refine ⟨[_],rfl,rfl,rfl,fun π nm Ww=> ?_⟩
   have h0:=Ww 0 _ rfl
   rw [Nat.add_zero] at h0
   refine ⟨?_,⟨⟨_,hn,rfl⟩,trivial⟩⟩
   simp only [Ty.aM,cO,ke,lP,h0]
  ·rename_i n len c r1
   split at ho<;>try (cases ho;done)
   rename_i hc
   split at ho<;>try (cases ho;done)
   rename_i cs' e hn
   split at ho<;>try (cases ho;done)
   rename_i hf
   simp only [Bool.and_eq_true,decide_eq_true_eq] at hf
   cases ho;subst hc
   simp only [cN,lU hf.1,hn,Nat.le_refl,decide_true,Bool.and_self,if_true,List.drop_zero] at hd
   split at hd<;>try (cases hd;done)
   rename_i l Z0 hN
   cases hd
   obtain ⟨g1,_⟩:=N9 (m6:=fun _=>none) hf.1 _ _ _ _ hN
   refine ⟨[_],rfl,rfl,rfl,fun π nm Ww=> ?_⟩
   have h0:=Ww 0 _ rfl
   rw [Nat.add_zero] at h0
   refine ⟨?_,⟨⟨u,y,cs',e,rfl,hn,hf.1,g1,hf.2⟩,trivial⟩⟩
   simp only [Ty.aM,cO,ke,lP,h0]
  ·cases ho
theorem En {π:List Src} : ∀(a b:List A0) (x y:List A0),lK π a=some x->lK π b=some y->lK π (a++b)=some (x++y)
 | [],b,x,y,h1,h2=>by simp only [lK,Option.some.injEq] at h1;subst h1;exact h2
 |c::r,b,x,y,h1,h2=>by
  simp only [lK] at h1
  split at h1
  ·rename_i q m e1 e2
   cases h1
   have:=En r b m y e2 h2
   simp only [List.cons_append,lK,e1,this]
  ·cases h1
theorem FR {h:List aX} : ∀(p:wI) (l:List A0) (y:p.ty.T) (r:List A0) (ss:List Src),JZ (aA h) p l=some (y,r,ss)->
  ∃ys,l=ys++r/\ ∀(π:List Src) (nm:Nat),(∀i s,ss[i]? =some s->π[nm+i]? =some s)->lK π (bz 2 nm p y).1=some ys/\ bN (IX π h) ss (bz 2 nm p y).2
 | .one t,l,y,r,ss,hd=>by
  simp only [JZ] at hd
  split at hd<;>try (cases hd;done)
  rename_i c r1
  split at hd<;>try (cases hd;done)
  rename_i x tc h1
  split at hd<;>try (cases hd;done)
  rename_i ss1 q h2
  cases hd
  obtain ⟨ys,e1,e2,e3,e4⟩:=Dz t _ _ _ _ _ _ h1 h2
  rw [List.append_nil] at e1
  subst e1
  refine ⟨[_],rfl,fun π nm Ww=> ?_⟩
  obtain ⟨g1,g2⟩:=e4 π nm Ww
  refine ⟨?_,g2⟩
  simp only [bz]
  match hm:(cO 2 nm (t.aM y)).1,g1 with
  | [],g1=>simp [ke] at g1
  | [c'],g1=>
   simp only [ke] at g1
   split at g1
   ·rename_i q' m' k1 k2
    simp only [Option.some.injEq,List.cons.injEq] at g1
    obtain ⟨rfl,rfl⟩:=g1
    simp only [wZ,lK,NL,k1]
   ·cases g1
  |_::_::_,g1=>
   simp only [ke] at g1
   split at g1
   ·rename_i k1 k2
    split at k2
    ·cases k2;simp at g1
    ·cases k2
   ·cases g1
 | .agg t,l,y,r,ss,hd=>by
  simp only [JZ] at hd
  split at hd<;>try (cases hd;done)
  rename_i c r1
  split at hd<;>try (cases hd;done)
  rename_i x tc h1
  split at hd<;>try (cases hd;done)
  rename_i ss1 q h2
  cases hd
  obtain ⟨ys,e1,e2,e3,e4⟩:=Dz t _ _ _ _ _ _ h1 h2
  rw [List.append_nil] at e1
  subst e1
  refine ⟨[_],rfl,fun π nm Ww=> ?_⟩
  obtain ⟨g1,g2⟩:=e4 π nm Ww
  refine ⟨?_,g2⟩
  simp only [bz,wZ,lK,NL,g1]
 | .ptr t,l,y,r,ss,hd=>by simp [JZ] at hd
 | .ik f p,l,y,r,ss,hd=>by simp [JZ] at hd
 | .mv f agg t,l,y,r,ss,hd=>by simp [JZ] at hd
 | .pair a b,l,y,r,ss,hd=>by
  simp only [JZ] at hd
  split at hd<;>try (cases hd;done)
  rename_i x1 r1 ss1 h1
  split at hd<;>try (cases hd;done)
  rename_i x2 r2 ss2 h2
  cases hd
  obtain ⟨ys,e1,e4⟩:=FR a _ _ _ _ h1
  obtain ⟨zs,f1,f4⟩:=FR b _ _ _ _ h2
  refine ⟨ys++zs,by rw [e1,f1];simp,fun π nm Ww=> ?_⟩
  obtain ⟨g1,g2⟩:=e4 π nm fun i s hi=>Ww i s (by rw [List.getElem?_append_left (List.getElem?_eq_some_iff.1 hi).1];exact hi)
  have hl:=g2.length
  obtain ⟨g3,g4⟩:=f4 π (nm+(bz 2 nm a x1).2.length) fun i s hi=>by
   have:=Ww (ss1.length+i) s (by rw [List.getElem?_append_right (by omega)];simpa using hi)
   rwa [hl,<- Nat.add_assoc] at this
  exact ⟨En _ _ _ _ g1 g3,g2.append g4⟩
 | .none,l,y,r,ss,hd=>by
  simp only [JZ,Option.some.injEq,Prod.mk.injEq] at hd
  obtain ⟨rfl,rfl,rfl⟩:=hd
  exact ⟨[],rfl,fun π nm _=>⟨rfl,trivial⟩⟩
theorem ahw {π:List Src} {h:List aX} {s:Src} {o:aX} (hr:IX π h s o):o≠ .gone:=by
 rintro rfl
 cases s with
 |same m=>obtain ⟨p,_,h2⟩:=hr;cases h2
 |nil=>obtain ⟨_,_,h2,_⟩:=hr;cases h2
 |cells m len=>obtain ⟨_,_,_,_,h2,_⟩:=hr;cases h2
theorem Tp {π:List Src} {h:List aX} : ∀(ss:List Src) (os:List aX),bN (IX π h) ss os->wL π h ss os/\ AG ss os=ss.filterMap NT
 | [],[],_=>⟨trivial,rfl⟩
 | [],_::_,h=>h.elim
 |_::_,[],h=>h.elim
 |s::r,o::l,h=>by
  obtain ⟨h1,h2⟩:=Tp r l h.2
  have hg:=ahw h.1
  cases o<;>first|exact absurd rfl hg|(refine ⟨⟨h.1,h1⟩,?_⟩;simp only [AG,List.filterMap_cons,h2];cases NT s<;>rfl)
theorem aci {r:wI} {Q:r.ty.T->Prop} {v:AV} {st:AS} (h:Ss r Q v st): ∃y,Q y/\ pN ⟨[v],st.heap⟩ ⟨[vS (bz 2 0 r y).1],(bz 2 0 r y).2⟩:=by
 unfold Ss at h
 split at h
 ·rename_i l hl
  split at h
  ·rename_i y ss hd
   split at h
   ·rename_i hn
    refine ⟨y,h,ss,?_⟩
    obtain ⟨ys,e,hs⟩:=FR r _ _ _ _ hd
    rw [List.append_nil] at e
    subst e
    obtain ⟨h1,h2⟩:=hs ss 0 fun i s hi=>by rwa [Nat.zero_add]
    obtain ⟨h3,h4⟩:=Tp _ _ h2
    refine ⟨?_,h3,by rw [h4];exact hn⟩
    have key:Gu ss (vS (bz 2 0 r y).1)=some v:=by
     cases v with
     |v a=>
      simp only [vn,Option.some.injEq] at hl
      subst hl
      match hm:(bz 2 0 r y).1,h1 with
      | [],h1=>simp [lK] at h1
      | [c],h1=>
       simp only [lK] at h1
       split at h1
       ·rename_i q m k1 k2
        simp only [Option.some.injEq,List.cons.injEq] at h1
        obtain ⟨rfl,_⟩:=h1
        simp only [vS,Gu,k1]
       ·cases h1
      |_::_::_,h1=>
       simp only [lK] at h1
       split at h1
       ·rename_i k1 k2
        split at k2
        ·cases k2;simp at h1
        ·cases k2
       ·cases h1
     |AH l'=>
      simp only [vn] at hl
      split at hl
      ·cases hl
      ·rename_i hne
       cases hl
       match hm:(bz 2 0 r y).1,h1 with
       | [],h1=>simp only [vS,Gu,h1]
       | [c],h1=>
        simp only [lK] at h1
        split at h1
        ·rename_i q m k1 k2
         cases k2
         cases h1
         exact absurd rfl (hne q)
        ·cases h1
       |_::_::_,h1=>simp only [vS,Gu,h1]
     |dead=>simp [vn] at hl
    dsimp only
    revert key
    generalize vS (bz 2 0 r y).1=u
    intro key
    cases u with
    |v a=>exact ⟨key,trivial⟩
    |AH l=>exact ⟨key,trivial⟩
    |dead=>simp [Gu] at key
   ·exact h.elim
  ·exact h.elim
 ·exact h.elim
end Go.Ev
