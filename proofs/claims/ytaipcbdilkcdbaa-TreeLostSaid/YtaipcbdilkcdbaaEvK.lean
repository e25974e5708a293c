/- Contracts of functions of typed values: what is handed back. -/
import Derived.Test.YtaipcbdilkcdbaaEvJ
noncomputable section
set_option linter.unusedSectionVars false
set_option linter.unusedVariables false
set_option linter.unusedSimpArgs false
namespace Go.Ev
open Go.RowKit
theorem ri (rk:Nat): ∀(a b:List cn) (nm:Nat),cl rk nm (a++b)=((cl rk nm a).1++(cl rk (nm+(cl rk nm a).2.length) b).1,(cl rk nm a).2++(cl rk (nm+(cl rk nm a).2.length) b).2)
 | [],b,nm=>by simp [cl]
 | .flat v::r,b,nm=>by
  have:=ri rk r b nm
  simp only [List.cons_append,cl,this]
 | .sl u l::r,b,nm=>by
  have:=ri rk r b (nm+1)
  simp only [List.cons_append,cl,this,List.length_cons,show nm+((cl rk (nm+1) r).2.length+1)=nm+1+(cl rk (nm+1) r).2.length by omega]
theorem wA {π:List Src} : ∀(a b:List Cell) (x y:List Cell),gM π a=some x->gM π b=some y->gM π (a++b)=some (x++y)
 | [],b,x,y,h1,h2=>by simp only [gM,Option.some.injEq] at h1;subst h1;exact h2
 |c::r,b,x,y,h1,h2=>by
  simp only [gM] at h1
  split at h1
  ·rename_i q m e1 e2
   cases h1
   have:=wA r b m y e2 h2
   simp only [List.cons_append,gM,e1,this]
  ·cases h1
theorem vX {h:List aG} : ∀(t:Ty) (cs:List Cell) (y:t.T) (r r':List Cell) (tc:List Nat) (ss:List Src),b8 (aj h) t cs=some (y,r,tc)->CQ (aj h) t cs=some (ss,r')->
  ∃ys,cs=ys++r/\ r'=r/\ ys.length=t.size/\ ∀(π:List Src) (nm:Nat),(∀i s,ss[i]? =some s->π[nm+i]? =some s)->
   gM π (cl 2 nm (t.aI y)).1=some ys/\ bK (zD π h) ss (cl 2 nm (t.aI y)).2
 | .int k,cs,y,r,r',tc,ss,hd,ho=>by
  simp only [b8] at hd
  split at hd<;>try (cases hd;done)
  split at hd<;>try (cases hd;done)
  rename_i e
  cases hd;subst e
  simp only [CQ,Option.some.injEq,Prod.mk.injEq] at ho
  obtain ⟨rfl,rfl⟩:=ho
  exact ⟨[_],rfl,rfl,rfl,fun π nm _=>⟨rfl,trivial⟩⟩
 | .bool,cs,y,r,r',tc,ss,hd,ho=>by
  simp only [b8] at hd
  split at hd<;>try (cases hd;done)
  cases hd
  simp only [CQ,Option.some.injEq,Prod.mk.injEq] at ho
  obtain ⟨rfl,rfl⟩:=ho
  exact ⟨[_],rfl,rfl,rfl,fun π nm _=>⟨rfl,trivial⟩⟩
 | .str,cs,y,r,r',tc,ss,hd,ho=>by
  simp only [b8] at hd
  split at hd<;>try (cases hd;done)
  cases hd
  simp only [CQ,Option.some.injEq,Prod.mk.injEq] at ho
  obtain ⟨rfl,rfl⟩:=ho
  exact ⟨[_],rfl,rfl,rfl,fun π nm _=>⟨rfl,trivial⟩⟩
 | .prod a b,cs,y,r,r',tc,ss,hd,ho=>by
  simp only [b8] at hd
  split at hd<;>try (cases hd;done)
  rename_i x1 r1 Aa h1
  split at hd<;>try (cases hd;done)
  rename_i x2 r2 Ew h2
  cases hd
  simp only [CQ] at ho
  split at ho<;>try (cases ho;done)
  rename_i ss1 q1 o1
  split at ho<;>try (cases ho;done)
  rename_i ss2 q2 o2
  cases ho
  obtain ⟨ys,e1,e2,e3,e4⟩:=vX a _ _ _ _ _ _ h1 o1
  subst e2
  obtain ⟨zs,f1,f2,f3,f4⟩:=vX b _ _ _ _ _ _ h2 o2
  subst f2
  refine ⟨ys++zs,by rw [e1,f1];simp,rfl,by simp [e3,f3,Ty.size],fun π nm I8=> ?_⟩
  obtain ⟨g1,g2⟩:=e4 π nm fun i s hi=>I8 i s (by rw [List.getElem?_append_left (List.getElem?_eq_some_iff.1 hi).1];exact hi)
  have hl:=g2.length
  obtain ⟨g3,g4⟩:=f4 π (nm+(cl 2 nm (a.aI x1)).2.length) fun i s hi=>by
   have:=I8 (ss1.length+i) s (by rw [List.getElem?_append_right (by omega)];simpa using hi)
   rwa [hl,<- Nat.add_assoc] at this
  rw [show (Ty.prod a b).aI (x1,x2)=a.aI x1++b.aI x2 from rfl,ri]
  exact ⟨wA _ _ _ _ g1 g3,g2.append g4⟩
 | .sl u,cs,y,r,r',tc,ss,hd,ho=>by
  simp only [CQ] at ho
  split at ho
  ·cases ho
   simp only [b8,Option.some.injEq,Prod.mk.injEq] at hd
   obtain ⟨rfl,rfl,rfl⟩:=hd
   refine ⟨[_],rfl,rfl,rfl,fun π nm I8=> ?_⟩
   have h0:=I8 0 _ rfl
   rw [Nat.add_zero] at h0
   refine ⟨?_,⟨⟨u,2,rfl,by decide⟩,trivial⟩⟩
   simp only [Ty.aI,cl,gM,iZ,h0]
  ·rename_i n r1
   split at ho<;>try (cases ho;done)
   rename_i t l rk hn
   split at ho<;>try (cases ho;done)
   rename_i mW
   cases ho;subst mW
   simp only [b8,hn] at hd
   split at hd<;>try (cases hd;done)
   rename_i l' hl'
   cases hd
   obtain ⟨e,e2⟩:=cK hl'
   subst e
   dsimp only at e2
   subst e2
   refine ⟨[_],rfl,rfl,rfl,fun π nm I8=> ?_⟩
   have h0:=I8 0 _ rfl
   rw [Nat.add_zero] at h0
   refine ⟨?_,⟨⟨_,hn,rfl⟩,trivial⟩⟩
   simp only [Ty.aI,cl,gM,iZ,h0]
  ·rename_i n len c r1
   split at ho<;>try (cases ho;done)
   rename_i hc
   split at ho<;>try (cases ho;done)
   rename_i cs' e hn
   split at ho<;>try (cases ho;done)
   rename_i hf
   simp only [Bool.and_eq_true,decide_eq_true_eq] at hf
   cases ho;subst hc
   simp only [b8,iG hf.1,hn,Nat.le_refl,decide_true,Bool.and_self,if_true,List.drop_zero] at hd
   split at hd<;>try (cases hd;done)
   rename_i l Aa hN
   cases hd
   obtain ⟨g1,_⟩:=xx (fI:=fun _=>none) hf.1 _ _ _ _ hN
   refine ⟨[_],rfl,rfl,rfl,fun π nm I8=> ?_⟩
   have h0:=I8 0 _ rfl
   rw [Nat.add_zero] at h0
   refine ⟨?_,⟨⟨u,y,cs',e,2,rfl,.inl rfl,hn,hf.1,g1,hf.2⟩,trivial⟩⟩
   simp only [Ty.aI,cl,gM,iZ,h0]
  ·cases ho
theorem wz {π:List Src} : ∀(a b:List A0) (x y:List A0),fZ π a=some x->fZ π b=some y->fZ π (a++b)=some (x++y)
 | [],b,x,y,h1,h2=>by simp only [fZ,Option.some.injEq] at h1;subst h1;exact h2
 |c::r,b,x,y,h1,h2=>by
  simp only [fZ] at h1
  split at h1
  ·rename_i q m e1 e2
   cases h1
   have:=wz r b m y e2 h2
   simp only [List.cons_append,fZ,e1,this]
  ·cases h1
theorem sy {h:List aG} : ∀(p:mF) (l:List A0) (y:p.ty.T) (r:List A0) (ss:List Src),zu (aj h) p l=some (y,r,ss)->
  ∃ys,l=ys++r/\ ∀(π:List Src) (nm:Nat),(∀i s,ss[i]? =some s->π[nm+i]? =some s)->fZ π (aT 2 nm p y).1=some ys/\ bK (zD π h) ss (aT 2 nm p y).2
 | .one t,l,y,r,ss,hd=>by
  simp only [zu] at hd
  split at hd<;>try (cases hd;done)
  rename_i c r1
  split at hd<;>try (cases hd;done)
  rename_i x tc h1
  split at hd<;>try (cases hd;done)
  rename_i ss1 q h2
  cases hd
  obtain ⟨ys,e1,e2,e3,e4⟩:=vX t _ _ _ _ _ _ h1 h2
  rw [List.append_nil] at e1
  subst e1
  refine ⟨[_],rfl,fun π nm I8=> ?_⟩
  obtain ⟨g1,g2⟩:=e4 π nm I8
  refine ⟨?_,g2⟩
  simp only [aT]
  match hm:(cl 2 nm (t.aI y)).1,g1 with
  | [],g1=>simp [gM] at g1
  | [c'],g1=>
   simp only [gM] at g1
   split at g1
   ·rename_i q' m' k1 k2
    simp only [Option.some.injEq,List.cons.injEq] at g1
    obtain ⟨rfl,rfl⟩:=g1
    simp only [nH,fZ,CS,k1]
   ·cases g1
  |_::_::_,g1=>
   simp only [gM] at g1
   split at g1
   ·rename_i k1 k2
    split at k2
    ·cases k2;simp at g1
    ·cases k2
   ·cases g1
 | .agg t,l,y,r,ss,hd=>by
  simp only [zu] at hd
  split at hd<;>try (cases hd;done)
  rename_i c r1
  split at hd<;>try (cases hd;done)
  rename_i x tc h1
  split at hd<;>try (cases hd;done)
  rename_i ss1 q h2
  cases hd
  obtain ⟨ys,e1,e2,e3,e4⟩:=vX t _ _ _ _ _ _ h1 h2
  rw [List.append_nil] at e1
  subst e1
  refine ⟨[_],rfl,fun π nm I8=> ?_⟩
  obtain ⟨g1,g2⟩:=e4 π nm I8
  refine ⟨?_,g2⟩
  simp only [aT,nH,fZ,CS,g1]
 | .ptr t,l,y,r,ss,hd=>by simp [zu] at hd
 | .kq f p,l,y,r,ss,hd=>by simp [zu] at hd
 | .mv f agg t,l,y,r,ss,hd=>by simp [zu] at hd
 | .pair a b,l,y,r,ss,hd=>by
  simp only [zu] at hd
  split at hd<;>try (cases hd;done)
  rename_i x1 r1 ss1 h1
  split at hd<;>try (cases hd;done)
  rename_i x2 r2 ss2 h2
  cases hd
  obtain ⟨ys,e1,e4⟩:=sy a _ _ _ _ h1
  obtain ⟨zs,f1,f4⟩:=sy b _ _ _ _ h2
  refine ⟨ys++zs,by rw [e1,f1];simp,fun π nm I8=> ?_⟩
  obtain ⟨g1,g2⟩:=e4 π nm fun i s hi=>I8 i s (by rw [List.getElem?_append_left (List.getElem?_eq_some_iff.1 hi).1];exact hi)
  have hl:=g2.length
  obtain ⟨g3,g4⟩:=f4 π (nm+(aT 2 nm a x1).2.length) fun i s hi=>by
   have:=I8 (ss1.length+i) s (by rw [List.getElem?_append_right (by omega)];simpa using hi)
   rwa [hl,<- Nat.add_assoc] at this
  exact ⟨wz _ _ _ _ g1 g3,g2.append g4⟩
 | .none,l,y,r,ss,hd=>by
  simp only [zu,Option.some.injEq,Prod.mk.injEq] at hd
  obtain ⟨rfl,rfl,rfl⟩:=hd
  exact ⟨[],rfl,fun π nm _=>⟨rfl,trivial⟩⟩
theorem RV {π:List Src} {h:List aG} {s:Src} {o:aG} (hr:zD π h s o):o≠ .gone:=by
 rintro rfl
 cases s with
 |same m=>obtain ⟨p,_,h2⟩:=hr;cases h2
 |nil=>obtain ⟨_,_,h2,_⟩:=hr;cases h2
 |mt m off=>obtain ⟨_,_,_,h2,_⟩:=hr;cases h2
 |any m=>obtain ⟨_,_,_,h2,_⟩:=hr;cases h2
 |cells m len=>obtain ⟨_,_,_,_,_,h2,_⟩:=hr;cases h2
theorem AZ {π:List Src} {h:List aG} : ∀(ss:List Src) (os:List aG),bK (zD π h) ss os->qH π h ss os/\ sj ss os=ss.filterMap x6
 | [],[],_=>⟨trivial,rfl⟩
 | [],_::_,h=>h.elim
 |_::_,[],h=>h.elim
 |s::r,o::l,h=>by
  obtain ⟨h1,h2⟩:=AZ r l h.2
  have hg:=RV h.1
  cases o<;>first|exact absurd rfl hg|(refine ⟨⟨h.1,h1⟩,?_⟩;simp only [sj,List.filterMap_cons,h2];cases x6 s<;>rfl)
theorem MZ {r:mF} {Q:r.ty.T->Prop} {v:AV} {st:AS} (h:JN r Q v st): ∃y,Q y/\ s8 ⟨[v],st.heap⟩ ⟨[iq (aT 2 0 r y).1],(aT 2 0 r y).2⟩:=by
 unfold JN at h
 split at h
 ·rename_i l hl
  split at h
  ·rename_i y ss hd
   split at h
   ·rename_i hn
    refine ⟨y,h,ss,?_⟩
    obtain ⟨ys,e,hs⟩:=sy r _ _ _ _ hd
    rw [List.append_nil] at e
    subst e
    obtain ⟨h1,h2⟩:=hs ss 0 fun i s hi=>by rwa [Nat.zero_add]
    obtain ⟨h3,h4⟩:=AZ _ _ h2
    refine ⟨?_,h3,by rw [h4];exact hn⟩
    have key:qn ss (iq (aT 2 0 r y).1)=some v:=by
     cases v with
     |v a=>
      simp only [jn,Option.some.injEq] at hl
      subst hl
      match hm:(aT 2 0 r y).1,h1 with
      | [],h1=>simp [fZ] at h1
      | [c],h1=>
       simp only [fZ] at h1
       split at h1
       ·rename_i q m k1 k2
        simp only [Option.some.injEq,List.cons.injEq] at h1
        obtain ⟨rfl,_⟩:=h1
        simp only [iq,qn,k1]
       ·cases h1
      |_::_::_,h1=>
       simp only [fZ] at h1
       split at h1
       ·rename_i k1 k2
        split at k2
        ·cases k2;simp at h1
        ·cases k2
       ·cases h1
     |oP l'=>
      simp only [jn] at hl
      split at hl
      ·cases hl
      ·rename_i hne
       cases hl
       match hm:(aT 2 0 r y).1,h1 with
       | [],h1=>simp only [iq,qn,h1]
       | [c],h1=>
        simp only [fZ] at h1
        split at h1
        ·rename_i q m k1 k2
         cases k2
         cases h1
         exact absurd rfl (hne q)
        ·cases h1
       |_::_::_,h1=>simp only [iq,qn,h1]
     |dead=>simp [jn] at hl
    dsimp only
    revert key
    generalize iq (aT 2 0 r y).1=u
    intro key
    cases u with
    |v a=>exact ⟨key,trivial⟩
    |oP l=>exact ⟨key,trivial⟩
    |dead=>simp [qn] at key
   ·exact h.elim
  ·exact h.elim
 ·exact h.elim
end Go.Ev
