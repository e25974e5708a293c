/- 'append', 'make' and other built-ins. -/
import Derived.Test.YtlkgabjhkfhgaaaGreatEvD2
import Derived.Laws.AppendOwn
import Derived.MapKept
noncomputable section
set_option linter.unusedSectionVars false
set_option linter.unusedVariables false
set_option linter.unusedSimpArgs false
namespace Go.Ev
open Go.RowKit
section
variable {P:Program} {ctx:Ctx} {hp:HP} {nm:Nat} {k:Rec->Prop}
def V9 (ay:iT) (W:World) (ρ:Env) (Γ:HP) (w:World) (ns:List Nat) (f:Bool) (b:Nat):Prop:=
 (∃m,m∈ns/\ (Γ m).isSome=true/\ (ρ m).bW=some b/\ aZ w b)\/ (dQ ρ Γ w b/\ (f=true->p7 ay W b/\ JY w b))
theorem V9.mono {ay:iT} {W:World} {ρ:Env} {Γ:HP} {w:World} {ns ns':List Nat} {f f':Bool} {b:Nat} (h:V9 ay W ρ Γ w ns f b) (hn: ∀m∈ns,m∈ns') (hf:f'=true->f=true):V9 ay W ρ Γ w ns' f' b:=by
 rcases h with ⟨m,h1,h2⟩|⟨h1,h2⟩
 ·exact .inl ⟨m,hn m h1,h2⟩
 ·exact .inr ⟨h1,fun e=>h2 (hf e)⟩
theorem nW.ro {fz pm:Nat->Prop} {w:World} {o:Loc} {t:Ty} {l:List t.T} {sub:Nat->Option Addr×Nat} (h:nW fz pm w o t l 0 sub) (ht:t.flat=true): ∀i v,(aX t l)[i]? =some v-> ∃a,o.base=some a/\ w.cell? (a.add i)=some v/\ fz a.block:=by
 intro i v hv
 have e:aE sub 0 (ax t l)=aX t l:=by
  have: ∀(cs:List cl) q,(∀c∈cs,∃v,c= .flat v)->aE sub q cs=cs.map bJ:=by
   intro cs
   induction cs with
   |nil=>intro q _;rfl
   |cons c r ih=>
    intro q hc
    obtain ⟨v,rfl⟩:=hc c (by simp)
    simp only [aE,List.map_cons]
    rw [ih (q+1) fun c hm=>hc c (by simp [hm])];rfl
  exact this _ 0 fun c hc=>eH ht hc
 obtain ⟨a,h1,h2,h3⟩:=h.1 i v (by rw [e];exact hv)
 exact ⟨a,h1,h2,h3 rfl⟩
theorem x7: ∀(t:Ty) (cs:List Cell) (x:t.T) (r r':List Cell) (tc ns:List Nat) (f:Bool),ck hp t cs=some (x,r,tc)->uG hp t cs=some (ns,f,r')->
  r'=r/\ ∃ys,cs=ys++r/\ ys.length=t.size/\ ∀ay W ρ Kn Γ w,(∀m∈tc,Γ m=hp m)->St ay W ρ Kn Γ w->bK (dr w (V9 ay W ρ Γ w ns f)) (t.aQ x) (ys.map (Cell.af ρ))
 | .int k,cs,x,r,r',tc,ns,f,h,ho=>by
  simp only [ck] at h
  split at h
  ·split at h
   ·rename_i e;subst e;cases h
    simp only [uG,Option.some.injEq,Prod.mk.injEq] at ho
    exact ⟨ho.2.2.symm,[_],rfl,rfl,fun _ _ _ _ _ _ _ _=>⟨rfl,trivial⟩⟩
   ·cases h
  ·cases h
 | .bool,cs,x,r,r',tc,ns,f,h,ho=>by
  simp only [ck] at h
  split at h
  ·cases h
   simp only [uG,Option.some.injEq,Prod.mk.injEq] at ho
   exact ⟨ho.2.2.symm,[_],rfl,rfl,fun _ _ _ _ _ _ _ _=>⟨rfl,trivial⟩⟩
  ·cases h
 | .str,cs,x,r,r',tc,ns,f,h,ho=>by
  simp only [ck] at h
  split at h
  ·cases h
   simp only [uG,Option.some.injEq,Prod.mk.injEq] at ho
   exact ⟨ho.2.2.symm,[_],rfl,rfl,fun _ _ _ _ _ _ _ _=>⟨rfl,trivial⟩⟩
  ·cases h
 | .prod a b,cs,x,r,r',tc,ns,f,h,ho=>by
  simp only [ck] at h
  split at h
  ·rename_i x1 r1 Al h1
   split at h
   ·rename_i x2 r2 FE h2
    cases h
    simp only [uG] at ho
    split at ho
    ·rename_i n1 f1 q1 o1
     split at ho
     ·rename_i n2 f2 q2 o2
      cases ho
      obtain ⟨rfl,ys,rfl,hy,ha⟩:=x7 a _ _ _ _ _ _ _ h1 o1
      obtain ⟨rfl,zs,rfl,hz,hb⟩:=x7 b _ _ _ _ _ _ _ h2 o2
      refine ⟨rfl,ys++zs,by simp,by simp [hy,hz,Ty.size],fun ay W ρ Kn Γ w ht hst=> ?_⟩
      rw [List.map_append]
      refine ((ha ay W ρ Kn Γ w (fun m hm=>ht m (by simp [hm])) hst).mono (dr.weak fun b hb=>hb.mono (fun m hm=>by simp [hm]) fun e=>by simp at e;exact e.1)).append
       ((hb ay W ρ Kn Γ w (fun m hm=>ht m (by simp [hm])) hst).mono (dr.weak fun b hb=>hb.mono (fun m hm=>by simp [hm]) fun e=>by simp at e;exact e.2))
     ·cases ho
    ·cases ho
   ·cases h
  ·cases h
 | .sl u,cs,x,r,r',tc,ns,f,h,ho=>by
  have hd:=j7 hp (.sl u) cs x r tc h
  simp only [uG] at ho
  split at ho
  rotate_left
  ·cases ho
  rename_i hu
  simp only [ck] at h
  have fin: ∀(c:Cell) (r0:List Cell),cs=c::r0->(r'=r0)->(∀ay W ρ Kn Γ w,(∀m∈tc,Γ m=hp m)->St ay W ρ Kn Γ w-> ∀a cap,c.af ρ= .slice a x.length cap-> ∀i v,(aX u x)[i]? =some v-> ∃ad,a=some ad/\ w.cell? (ad.add i)=some v/\ V9 ay W ρ Γ w ns f ad.block)->
    r'=r/\ ∃ys,cs=ys++r/\ ys.length=(Ty.sl u).size/\ ∀ay W ρ Kn Γ w,(∀m∈tc,Γ m=hp m)->St ay W ρ Kn Γ w->bK (dr w (V9 ay W ρ Γ w ns f)) ((Ty.sl u).aQ x) (ys.map (Cell.af ρ)):=fun c r0 ec er hm=>by
   obtain ⟨ys,e,hy,ha⟩:=hd
   match ys,hy with
   | [y],_=>
    rw [ec] at e
    simp only [List.cons_append,List.nil_append,List.cons.injEq] at e
    obtain ⟨rfl,rfl⟩:=e
    refine ⟨er,[c],ec,rfl,fun ay W ρ Kn Γ w ht hst=>⟨?_,trivial⟩⟩
    obtain ⟨a,cap,e1,e2,e3⟩:=(ha ay W ρ Kn Γ w ht hst).1
    exact ⟨a,cap,e1,hu,e2,fun i v hv=>hm ay W ρ Kn Γ w ht hst a cap e1 i v hv⟩
  split at ho
  ·cases ho
   simp only [Option.some.injEq,Prod.mk.injEq] at h
   obtain ⟨rfl,rfl,rfl⟩:=h
   exact fin _ _ rfl rfl fun _ _ _ _ _ _ _ _ a cap _ i v hv=>by simp [aX,ax] at hv
  ·rename_i n r1
   split at ho
   ·rename_i t l rk he
    simp only [he] at h
    split at h
    rotate_left
    ·cases h
    rename_i l' hl
    obtain ⟨rfl,rfl⟩:=cn hl
    cases h
    split at ho
    ·rename_i oa
     subst oa
     cases ho
     refine fin _ _ rfl rfl fun ay W ρ Kn Γ w ht hst a cap ec i v hv=> ?_
     have bN:Γ n=some (.row t l 0):=by rw [ht n (by simp),he]
     obtain ⟨_,_,_,sub,hm⟩:=hst.at_ n _ bN
     obtain ⟨ad,e1,e2,e3⟩:=hm.ro hu i v hv
     simp only [Cell.af,Value.slice.injEq] at ec
     exact ⟨ad,by rw [<- ec.1,e1],e2,.inr ⟨e3,fun e=>by cases e⟩⟩
    ·rename_i oa
     cases ho
     refine fin _ _ rfl rfl fun ay W ρ Kn Γ w ht hst a cap ec i v hv=> ?_
     have bN:Γ n=some (.row t l rk):=by rw [ht n (by simp),he]
     obtain ⟨_,_,_,sub,h1,_,_,h4⟩:=hst.at_ n _ bN
     have hfl:aE sub 0 (ax t l)=aX t l:=by
      have: ∀(cs:List cl) q,(∀c∈cs,∃v,c= .flat v)->aE sub q cs=cs.map bJ:=by
       intro cs
       induction cs with
       |nil=>intro q _;rfl
       |cons c r ih=>
        intro q hc
        obtain ⟨v,rfl⟩:=hc c (by simp)
        simp only [aE,List.map_cons]
        rw [ih (q+1) fun c hm=>hc c (by simp [hm])];rfl
      exact this _ 0 fun c hc=>eH hu hc
     obtain ⟨ad,e1,e2,_⟩:=h1 i v (by rw [hfl];exact hv)
     simp only [Cell.af,Value.slice.injEq] at ec
     refine ⟨ad,by rw [<- ec.1,e1],e2,.inl ⟨n,by simp,by simp [bN],?_,by have:=aZ.of (by assumption:w.cell? _=some _);rwa [eW] at this⟩⟩
     rcases h4 oa with ⟨_,h5,_⟩|⟨b,pre,rest,e,h5,h6,_⟩
     ·rw [List.eq_nil_of_length_eq_zero h5] at hv;simp [aX,ax] at hv
     ·rw [e1] at h6;cases h6;exact h5
   ·rename_i m s q he
    split at ho
    rotate_left
    ·cases ho
    rename_i t l rk he3
    split at ho
    rotate_left
    ·cases ho
    rename_i oa
    subst oa
    cases ho
    simp only [he,he3] at h
    split at h
    rotate_left
    ·cases h
    rename_i l' hl
    obtain ⟨rfl,rfl⟩:=cn hl
    cases h
    refine fin _ _ rfl rfl fun ay W ρ Kn Γ w ht hst a cap ec i v hv=> ?_
    have bN:Γ m=some (.row t l 0):=by rw [ht m (by simp),he3]
    obtain ⟨o1,o2,o3,sub,hm⟩:=hst.at_ m _ bN
    obtain ⟨_,p1,p2,p3,p4⟩:=hst.at_ n _ (show Γ n=some (.alias m s q) by rw [ht n (by simp),he])
    have hr:jU w (fun b=>dQ ρ Γ w b) (ρ n).base t (lD l s q):=by
     refine jU.part (a:=(ρ m).base) ⟨aX t l,?_,fun i v hv=>hm.ro hu i v hv⟩ s q fun hne=> ?_
     ·have: ∀(cs:List cl),(∀c∈cs,∃v,c= .flat v)→bK (dr w (fun b=>dQ ρ Γ w b)) cs (cs.map bJ):=by
       intro cs
       induction cs with
       |nil=>intro _;trivial
       |cons c r ih=>
        intro hc
        obtain ⟨v,rfl⟩:=hc c (by simp)
        exact ⟨rfl,ih fun c hm=>hc c (by simp [hm])⟩
      exact this _ fun c hc=>eH hu hc
     ·rw [p4 (by rw [p1,o1];exact hne),o2]
    simp only [Cell.af,Value.slice.injEq] at ec
    obtain ⟨ad,e1,e2,e3⟩:=(hr.nest (c:=(lD l s q).length) hu (Nat.le_refl _)).2.2 i v hv
    exact ⟨ad,by rw [<- ec.1];exact e1,e2,.inr ⟨e3,fun e=>by cases e⟩⟩
   ·cases ho
  ·rename_i n off len cap r1
   split at ho
   rotate_left
   ·cases ho
   cases ho
   dsimp only at h
   split at h
   rotate_left
   ·cases h
   rename_i hc
   simp only [Bool.and_eq_true,decide_eq_true_eq] at hc
   split at h
   rotate_left
   ·cases h
   rename_i cs' e he
   split at h
   rotate_left
   ·cases h
   rename_i l Al hl
   cases h
   refine fin _ _ rfl rfl fun ay W ρ Kn Γ w ht hst a cap' ec i v hv=> ?_
   obtain ⟨ys,ey,hy,ha⟩:=hd
   match ys,hy with
   | [y],_=>
    simp only [List.cons_append,List.nil_append,List.cons.injEq] at ey
    obtain ⟨rfl,_⟩:=ey
    obtain ⟨a1,c1,e1,e2,e3⟩:=(ha ay W ρ Kn Γ w ht hst).1
    have bN:Γ n=some (.cells cs' e):=by rw [ht n (by simp),he]
    obtain ⟨b,hb,hh⟩:=hst.at_ n _ bN
    obtain ⟨ad,f1,f2,f3⟩:=(e3.nest (c:=x.length) hu (Nat.le_refl _)).2.2 i v hv
    replace f1:a1=some ad:=f1
    rw [ec] at e1
    simp only [Value.slice.injEq] at e1
    refine ⟨ad,by rw [e1.1,f1],f2,.inl ⟨n,by simp,by simp [bN],?_,by have:=aZ.of (by assumption:w.cell? _=some _);rwa [eW] at this⟩⟩
    simp only [Cell.af,addrOf,hb,Option.map_some,Value.slice.injEq] at ec
    rw [e1.1,f1] at ec
    have:=ec.1
    simp only [Option.some.injEq] at this
    rw [<- this,hb]
  ·cases ho
theorem EM {u:Ty} : ∀(n:Nat) (cs:List Cell) (l:List u.T) (tc ns:List Nat) (f:Bool),uh (ck hp u) n cs=some (l,tc)->K6 hp u n cs=some (ns,f)->
  ∃ys r,cs=ys++r/\ ys.length=n*u.size/\ ∀ay W ρ Kn Γ w,(∀m∈tc,Γ m=hp m)->St ay W ρ Kn Γ w->bK (dr w (V9 ay W ρ Γ w ns f)) (ax u l) (ys.map (Cell.af ρ))
 |0,cs,l,tc,ns,f,h,ho=>by
  simp only [uh,Option.some.injEq,Prod.mk.injEq] at h
  obtain ⟨rfl,rfl⟩:=h
  exact ⟨[],cs,rfl,by simp,fun _ _ _ _ _ _ _ _=>trivial⟩
 |n+1,cs,l,tc,ns,f,h,ho=>by
  simp only [uh] at h
  split at h
  ·rename_i x r Al h1
   split at h
   ·rename_i l1 FE h2
    cases h
    simp only [K6] at ho
    split at ho
    ·rename_i n1 f1 q1 o1
     split at ho
     ·rename_i n2 f2 o2
      cases ho
      obtain ⟨rfl,ys,rfl,hy,ha⟩:=x7 u _ _ _ _ _ _ _ h1 o1
      obtain ⟨zs,r2,rfl,hz,hb⟩:=EM n _ _ _ _ _ h2 o2
      refine ⟨ys++zs,r2,by simp,by simp [hy,hz,Nat.succ_mul,Nat.add_comm],fun ay W ρ Kn Γ w ht hst=> ?_⟩
      rw [gu,List.map_append]
      refine ((ha ay W ρ Kn Γ w (fun m hm=>ht m (by simp [hm])) hst).mono (dr.weak fun b hb=>hb.mono (fun m hm=>by simp [hm]) fun e=>by simp at e;exact e.1)).append
       ((hb ay W ρ Kn Γ w (fun m hm=>ht m (by simp [hm])) hst).mono (dr.weak fun b hb=>hb.mono (fun m hm=>by simp [hm]) fun e=>by simp at e;exact e.2))
     ·cases ho
    ·cases ho
   ·cases h
  ·cases h
theorem yz {t:Ty} {yc:Cell} {ys:List t.T} {tc ab:List Nat} {f:Bool} (h:ck hp (.sl t) [yc]=some (ys,[],tc)) (ho:xH hp t (.v (.one yc))=some (ab,f)):
  ∀ay W ρ Kn Γ w,(∀m∈tc,Γ m=hp m)->St ay W ρ Kn Γ w-> ∃a c vals,yc.af ρ= .slice a ys.length c/\ ys.length<=c/\ bK (dr w (V9 ay W ρ Γ w ab f)) (ax t ys) vals/\ ∀i v,vals[i]? =some v-> ∃ad,a=some ad/\ w.cell? (ad.add i)=some v:=by
 intro ay W ρ Kn Γ w ht hst
 obtain ⟨zs,ez,hz,ha⟩:=j7 hp (.sl t) _ _ _ _ h
 match zs,hz with
 | [z],_=>
 simp only [List.append_nil,List.cons.injEq,and_true] at ez
 subst ez
 obtain ⟨a,c,e1,e2,vals,e3,e4⟩:=(ha ay W ρ Kn Γ w ht hst).1
 have plain: ∀ {ok:Nat->Prop},(∀(q:Nat) (u:Ty) (l':List u.T),(ax t ys)[q]? =some (cl.sl u l')-> ∀(a:Option Addr) (c:Nat),vals[q]? =some (Value.slice a l'.length c)->eM w ok (a,c) u l')-> ∃a c vals,yc.af ρ= .slice a ys.length c/\ ys.length<=c/\ bK (dr w ok) (ax t ys) vals/\ ∀i v,vals[i]? =some v-> ∃ad,a=some ad/\ w.cell? (ad.add i)=some v:=fun {ok} hn=>by
  refine ⟨a,c,vals,e1,e2,?_,fun i v hv=>by obtain ⟨ad,h1,h2,_⟩:=e4 i v hv;exact ⟨ad,h1,h2⟩⟩
  have: ∀(cs:List cl) (vs:List Value),bK (dr w (KA w)) cs vs->(∀(q:Nat) (u:Ty) (l':List u.T),cs[q]? =some (cl.sl u l')-> ∀(a:Option Addr) (c:Nat),vs[q]? =some (Value.slice a l'.length c)->eM w ok (a,c) u l')->bK (dr w ok) cs vs:=by
   intro cs
   induction cs with
   |nil=>intro vs h _;cases vs<;>first|trivial|exact h.elim
   |cons q r ih=>
    intro vs h hh
    cases vs with
    |nil=>exact h.elim
    |cons v s=>
     refine ⟨?_,ih s h.2 fun q u l' hq a c hv=>hh (q+1) u l' (by simpa using hq) a c (by simpa using hv)⟩
     cases q with
     |flat u=>exact h.1
     |sl u l'=>
      obtain ⟨a,c,e,_⟩:=h.1
      exact ⟨a,c,e,hh 0 u l' rfl a c (by simp [e])⟩
  exact this _ _ e3 hn
 unfold xH at ho
 split at ho
 ·rename_i hf
  cases ho
  exact plain fun q u l' hq=>by
   obtain ⟨v,hv⟩:=eH hf (List.mem_of_getElem? hq)
   cases hv
 ·split at ho
  ·rename_i n off len cap heq
   cases heq
   split at ho
   ·rename_i cs e he
    simp only [ck] at h
    split at h
    ·rename_i hc
     rw [he] at h
     dsimp only at h
     split at h
     ·rename_i l Al hl
      cases h
      obtain ⟨zs,r2,hy,hyl,hb⟩:=EM _ _ _ _ _ _ hl ho
      have bN:Γ n=some (.cells cs e):=by rw [ht n (by simp),he]
      obtain ⟨b,hb',hh⟩:=hst.at_ n _ bN
      refine ⟨some ⟨b,off,none⟩,cap,zs.map (Cell.af ρ),?_,?_,hb ay W ρ Kn Γ w (fun m hm=>ht m (by simp [hm])) hst,fun i v hv=>⟨_,rfl,?_⟩⟩
      ·simp only [Cell.af,addrOf,hb',Option.map_some,Value.slice.injEq] at e1 ⊢
       exact ⟨trivial,e1.2.1,trivial⟩
      ·simp only [Cell.af,addrOf,hb',Option.map_some,Value.slice.injEq] at e1
       rw [<- e1.2.2] at e2;exact e2
      ·have e1:(⟨b,off,none⟩:Addr).add i=⟨b,off+i,none⟩:=by unfold Addr.add;split<;>simp_all
       rw [e1,bL hh]
       have e3:(cs.map (Cell.af ρ))[off+i]? =((cs.drop off).map (Cell.af ρ))[i]? :=by rw [List.getElem?_map,List.getElem?_map,List.getElem?_drop]
       rw [e3,hy,List.map_append,List.getElem?_append_left (List.getElem?_eq_some_iff.1 hv).1];exact hv
     ·cases h
    ·cases h
   ·cases ho
  ·rename_i n heq
   cases heq
   have row: ∀(l:List t.T) (rk:Nat) (m:Nat),Γ m=some (.row t l rk)-> ∃sub,(∀i v,(aE sub 0 (ax t l))[i]? =some v-> ∃ad,(ρ m).base=some ad/\ w.cell? (ad.add i)=some v)/\ ∀q u l',(ax t l)[q]? =some (.sl u l')->eM w (fun b=>dQ ρ Γ w b/\ (rk=2->p7 ay W b/\ JY w b)) (sub q) u l':=fun l rk m hm=>by
    obtain ⟨_,_,_,sub,h1,h2,_⟩:=hst.at_ m _ hm
    exact ⟨sub,fun i v hv=>by obtain ⟨ad,a1,a2,_⟩:=h1 i v hv;exact ⟨ad,a1,a2⟩,h2⟩
   split at ho
   ·rename_i t2 l2 rk he
    simp only [ck,he] at h
    split at h
    ·rename_i l' hl
     obtain ⟨rfl,rfl⟩:=cn hl
     cases h
     obtain ⟨sub,s1,s2⟩:=row _ rk n (by rw [ht n (by simp),he])
     refine plain fun q u l' hq a' c' hv=> ?_
     obtain ⟨ad,h1,h2,_⟩:=e4 q _ hv
     obtain ⟨ad2,g1,g2⟩:=s1 q (kE (sub q) (.sl u l')) (by rw [c6,hq];simp)
     simp only [Cell.af,Value.slice.injEq] at e1
     rw [e1.1,h1] at g1;cases g1
     rw [h2] at g2
     simp only [kE,Option.some.injEq,Value.slice.injEq,true_and] at g2
     have:=s2 q u l' hq
     rw [show (a',c')=sub q by rw [g2.1,g2.2]]
     refine this.weak fun b hb=> .inr ⟨hb.1,fun e=>hb.2 ?_⟩
     split at ho
     ·assumption
     ·cases ho;cases e
    ·cases h
   ·rename_i m s q0 he
    cases ho
    simp only [ck,he] at h
    split at h
    ·rename_i t2 l2 rk G8
     split at h
     ·rename_i l' hl
      obtain ⟨rfl,rfl⟩:=cn hl
      cases h
      obtain ⟨sub,s1,s2⟩:=row _ rk m (by rw [ht m (by simp),G8])
      have bN:Γ m=some (.row t2 l2 rk):=by rw [ht m (by simp),G8]
      obtain ⟨o1,o2,_⟩:=hst.at_ m _ bN
      obtain ⟨_,p1,p2,p3,p4⟩:=hst.at_ n _ (show Γ n=some (.alias m s q0) by rw [ht n (by simp),he])
      refine plain fun q u l' hq a' c' hv=> ?_
      obtain ⟨ad,h1,h2,_⟩:=e4 q _ hv
      have hql:=(List.getElem?_eq_some_iff.1 hq).1
      rw [bw,mh] at hql
      have hne:eU l2.length s q0≠0:=by rintro e;rw [e] at hql;omega
      have V0:(ax t2 l2)[s*t2.size+q]? =some (.sl u l'):=by
       cases q0 with
       |none=>simp only [lD,gw,List.getElem?_drop] at hq;exact hq
       |some z=>
        simp only [lD,iO,gw,List.getElem?_take] at hq
        split at hq
        ·rw [List.getElem?_drop] at hq;exact hq
        ·cases hq
      obtain ⟨ad2,g1,g2⟩:=s1 (s*t2.size+q) (kE (sub (s*t2.size+q)) (.sl u l')) (by rw [c6,V0];simp)
      simp only [Cell.af,Value.slice.injEq] at e1
      have hb:=p4 (by rw [p1,o1];exact hne)
      rw [g1,o2,e1.1,h1] at hb
      simp only [Option.map_some,Option.some.injEq] at hb
      rw [hb,dH,g2] at h2
      simp only [kE,Option.some.injEq,Value.slice.injEq,true_and] at h2
      rw [show (a',c')=sub (s*t2.size+q) by rw [<- h2.1,<- h2.2]]
      exact (s2 _ u l' V0).weak fun b hb=> .inr ⟨hb.1,fun e=>by cases e⟩
     ·cases h
    ·cases h
   ·cases ho
  ·rename_i c0 heq
   cases heq
   cases ho
   simp only [ck,Option.some.injEq,Prod.mk.injEq] at h
   obtain ⟨rfl,_⟩:=h
   exact plain fun q u l' hq=>by simp [ax] at hq
  ·cases ho
theorem fD: ∀ {l:List Nat},gW l=true->l.Nodup
 | [],_=>List.nodup_nil
 |x::r,h=>by
  simp only [gW,Bool.and_eq_true,Bool.not_eq_true',List.contains_eq_mem,decide_eq_false_iff_not] at h
  exact List.nodup_cons.2 ⟨h.1,fD h.2⟩
theorem FP {t t' e e' ty:TypeId} (ht:P.underlying t=some (.slice e)) (ht':P.underlying t'=some (.slice e')) (a:Option Addr) (n c:Nat) (y:Value) (w:World):
  (Builtin.append_ #[t,t'] ty #[.slice a n c,y]).run P w=(Builtin.append_ #[t,t] ty #[.slice a n c,y]).run P w:=by
 simp [Builtin.append_,run_underlying ht,run_underlying ht']
theorem yd (w:World) (t ty e e0:TypeId) (i:TypeInfo) (ht:P.underlying t=some (.slice e)) (hi:P.info? e=some i)
  (g sLen sCap:Nat) (cur:Array Value) (hg:w.heap[g]? =some (.cells cur e0 (0,0)))
  (a:Addr) (m c:Nat) (news:List Value) (hl:news.length=m*i.size) (hnews: ∀j u,news[j]? =some u->w.cell? (a.add j)=some u) (h1: ∀u∈news,u.oneCell'=true)
  (off:Nat) (hroom:sLen+m<=sCap) (hfit:off+sLen*i.size+news.length<=cur.size):
  (Builtin.append_ #[t,t] ty #[.slice (some ⟨g,off,none⟩) sLen sCap,.slice (some a) m c]).run P w=
   .ok (.slice (some ⟨g,off,none⟩) (sLen+m) sCap) (w.setRow g (cur.toList.take (off+sLen*i.size)++news++cur.toList.drop (off+sLen*i.size+news.length)).toArray):=by
 have hf:=run_firstCells_some (P:=P) w i.size m a m c news hl hnews
 have hst:=run_storeCells_at P g (off+sLen*i.size) e0 news 0 cur w hg (by simpa using hfit) h1
 have Dw:(⟨g,off,none⟩:Addr).add (sLen*i.size)=⟨g,off+sLen*i.size,none⟩:=by unfold Addr.add;split<;>simp_all
 simp only [Nat.add_zero] at hst
 simp [Builtin.append_,run_underlying ht,sizeOf,typeInfo,hi,Builtin.lenOf,hroom,hf,Dw,hst]
theorem IA {w:World} {ok:Nat->Prop} : ∀ {cs:List cl} {vs:List Value},(∀c∈cs,∀v,c= .flat v->v.oneCell'=true)->bK (dr w ok) cs vs-> ∀u∈vs,u.oneCell'=true
 | [],[],_,_,u,hu=>by simp at hu
 |c::r,v::s,hc,h,u,hu=>by
  rcases List.mem_cons.1 hu with rfl|hu
  ·cases c with
   |flat q=>have:u=q:=h.1;subst this;exact hc _ (by simp) _ rfl
   |sl q l=>obtain ⟨a,c,e,_⟩:=h.1;subst e;rfl
  ·exact IA (fun c hm=>hc c (by simp [hm])) h.2 u hu
 | [],_::_,_,h,_,_=>h.elim
 |_::_,[],_,h,_,_=>h.elim
theorem xJ: ∀(t:Ty) (x:t.T) (c:cl),c∈t.aQ x-> ∀v,c= .flat v->v.oneCell'=true
 | .int _,x,c,hc,v,e=>by simp [Ty.aQ] at hc;rw [hc] at e;cases e;rfl
 | .bool,x,c,hc,v,e=>by simp [Ty.aQ] at hc;rw [hc] at e;cases e;rfl
 | .str,x,c,hc,v,e=>by simp [Ty.aQ] at hc;rw [hc] at e;cases e;rfl
 | .prod a b,x,c,hc,v,e=>by
  simp only [Ty.aQ,List.mem_append] at hc
  rcases hc with hc|hc
  ·exact xJ a _ c hc v e
  ·exact xJ b _ c hc v e
 | .sl _,x,c,hc,v,e=>by simp [Ty.aQ] at hc;rw [hc] at e;cases e
theorem row_one {t:Ty} {l:List t.T} (c:cl) (hc:c∈ax t l): ∀v,c= .flat v->v.oneCell'=true:=by
 obtain ⟨x,_,hx⟩:=List.mem_flatMap.1 hc
 exact xJ t x c hx
def o8 (vals:List Value) (q:Nat):Option Addr×Nat:=match vals[q]? with
 |some (.slice a _ c)=>(a,c)
 |_=>(none,0)
theorem ja {w:World} {ok:Nat->Prop} {cs:List cl} {vals:List Value} (h:bK (dr w ok) cs vals):aE (o8 vals) 0 cs=vals/\ ∀q u l',cs[q]? =some (.sl u l')->eM w ok (o8 vals q) u l':=by
 have hq: ∀q c,cs[q]? =some c->vals[q]? =some (kE (o8 vals q) c)/\ ∀u l',c= .sl u l'->eM w ok (o8 vals q) u l':=fun q c hc=>by
  obtain ⟨v,hv,hn⟩:=h.get q c hc
  cases c with
  |flat u=>have:v=u:=hn;subst this;exact ⟨hv,fun _ _ e=>by cases e⟩
  |sl u l'=>
   obtain ⟨a,c,rfl,hn⟩:=hn
   have e:o8 vals q=(a,c):=by unfold o8;rw [hv]
   rw [e]
   exact ⟨hv,fun _ _ e=>by cases e;exact hn⟩
 refine ⟨?_,fun q u l' hc=>(hq q _ hc).2 u l' rfl⟩
 apply List.ext_getElem?
 intro q
 rw [c6,Nat.zero_add]
 cases hc:cs[q]? with
 |some c=>exact (hq q c hc).1.symm
 |none=>
  have:=h.length
  rw [List.getElem?_eq_none_iff] at hc
  rw [List.getElem?_eq_none (by omega)];rfl
theorem DM (w:World) (t ty e:TypeId) (i:TypeInfo) (z:Value) (ht:P.underlying t=some (.slice e)) (hi:P.info? e=some i) (hz:i.zero=some z) (hzs:z.cells.size=i.size) (hby:i.bytes<=128) (hsz:0<i.size)
  (o:Loc) (n rk:Nat) (vals:List Value) (hv:vals.length=n*i.size) (ho:o.len=n)
  (m:Nat) (hown:gK w o rk n i.size vals\/ (o.bW=none/\ n=0/\ (∃ad,o.base=some ad)/\ o.cap<m)) (hcap:n<=o.cap)
  (a:Option Addr) (c:Nat) (news:List Value) (hl:news.length=m*i.size) (hnews: ∀j u,news[j]? =some u-> ∃ad,a=some ad/\ w.cell? (ad.add j)=some u) (h1: ∀u∈news,u.oneCell'=true) (hb:n+m<1099511627776):
  ∃(o':Loc) (w':World),(Builtin.append_ #[t,t] ty #[.slice o.base o.len o.cap,.slice a m c]).run P w= .ok (.slice o'.base o'.len o'.cap) w'/\ o'.len=n+m/\ n+m<=o'.cap/\
   (∀ay W,Fr ay W w->(∀b,o.bW=some b->W.heap.size<=b\/ ay b)->Fr ay W w')/\ (∀b,b<w.heap.size->o'.bW≠some b->w'.heap[b]? =w.heap[b]?)/\ (∀b,o'.bW=some b->b=w.heap.size\/ o.bW=some b)/\
   gK w' o' rk (n+m) i.size (vals++news):=by
 have hbytes:(n+m)*i.bytes<=140737488355328:=by
  have:=Nat.mul_le_mul (show n+m<=1099511627776 by omega) hby
  omega
 have h63:n+m<=maxLen:=by simp only [maxLen];omega
 have Dw: ∀(b q j:Nat),(⟨b,q,none⟩:Addr).add j=⟨b,q+j,none⟩:=fun b q j=>by unfold Addr.add;split<;>simp_all
 have grow: ∀Tb:Addr,o.base=some Tb->(∀j u,vals[j]? =some u->w.cell? (Tb.add j)=some u)-> ∀ad,a=some ad-> ¬(n+m<=o.cap)-> ∃(o':Loc) (w':World),(Builtin.append_ #[t,t] ty #[.slice o.base o.len o.cap,.slice a m c]).run P w= .ok (.slice o'.base o'.len o'.cap) w'/\ o'.len=n+m/\ n+m<=o'.cap/\
   (∀ay W,Fr ay W w->(∀b,o.bW=some b->W.heap.size<=b\/ ay b)->Fr ay W w')/\ (∀b,b<w.heap.size->o'.bW≠some b->w'.heap[b]? =w.heap[b]?)/\ (∀b,o'.bW=some b->b=w.heap.size\/ o.bW=some b)/\
   gK w' o' rk (n+m) i.size (vals++news):=by
  intro Tb h3 holds ad ea hroom
  subst ea
  have Gh: ∀j u,news[j]? =some u->w.cell? (ad.add j)=some u:=fun j u hj=>by
   obtain ⟨ad',h,h'⟩:=hnews j u hj
   cases h;exact h'
  have hr:=run_append_grow (P:=P) w t ty e i z ht hi hz Tb n o.cap vals hv holds ad m c news hl Gh (by omega) (by omega) (growslice_fits (by omega) hbytes)
  have hge:=grownCap_ge w (n+m) o.cap e
  refine ⟨{bW:=some w.heap.size,base:=some ⟨w.heap.size,0,none⟩,len:=n+m,cap:=grownCap w (n+m) o.cap e},w.drew.alloc (.cells (vals.toArray++news.toArray++Builtin.zeroCells z.cells (grownCap w (n+m) o.cap e- (n+m))) e),?_,rfl,hge,fun ay W hf _=>Fr.alloc (w:=w.drew) ⟨hf.os,hf.tape,hf.output,hf.size,hf.block,Nat.le_succ_of_le hf.HR⟩ _,fun b hb _=>Below.heap_alloc w.drew _ b hb,fun b hb=>by cases hb;exact .inl rfl,.inr ⟨w.heap.size,[],(Builtin.zeroCells z.cells (grownCap w (n+m) o.cap e- (n+m))).toList,e,rfl,rfl,?_,?_,?_,fun _=>rfl⟩⟩
  ·rw [ho,h3];exact hr
  ·rw [show (([]:List Value)++(vals++news++(Builtin.zeroCells z.cells (grownCap w (n+m) o.cap e- (n+m))).toList)).toArray=vals.toArray++news.toArray++Builtin.zeroCells z.cells (grownCap w (n+m) o.cap e- (n+m)) by apply Array.ext';simp]
   exact heap_alloc_new w.drew _
  ·simp only [List.length_append,Array.length_toList,size_zeroCells,hzs,hl,hv,←Nat.add_mul]
   congr 1;omega
  ·exact grownCap_le_maxLen w (n+m) o.cap e (by omega)
 by_cases hm:m=0/\ a=none
 ·obtain ⟨rfl,rfl⟩:=hm
  have hn:news= []:=List.eq_nil_of_length_eq_zero (by simpa using hl)
  subst hn
  have hown:=hown.resolve_right fun q=>Nat.not_lt_zero _ q.2.2.2
  refine ⟨o,w,?_,ho,hcap,fun _ _ h _=>h,fun _ _ _=>rfl,fun b hb=> .inr hb,by simpa using hown⟩
  rw [ho]
  have hc: ¬(o.cap<n):=by omega
  cases WM:o.base with
  |none=>
   have:n=0/\ o.cap=0:=by
    rcases hown with ⟨_,q1,q2,_⟩|⟨b,pre,rest,e0,_,h4,_⟩
    ·exact ⟨q1,q2⟩
    ·rw [WM] at h4;cases h4
   obtain ⟨rfl,h3⟩:=this
   rw [h3];simp [Builtin.append_,run_underlying ht,sizeOf,typeInfo,hi,Builtin.lenOf,Builtin.firstCells]
  |some Tb=>simp [Builtin.append_,run_underlying ht,sizeOf,typeInfo,hi,Builtin.lenOf,Builtin.firstCells,hcap,storeCells]
 ·obtain ⟨ad,rfl⟩: ∃ad,a=some ad:=by
   cases a with
   |some ad=>exact ⟨ad,rfl⟩
   |none=>
    have hm0:m≠0:=fun e=>hm ⟨e,rfl⟩
    have hp:0<news.length:=by rw [hl];exact Nat.mul_pos (by omega) hsz
    obtain ⟨ad,h,_⟩:=hnews 0 _ (List.getElem?_eq_getElem hp)
    cases h
  have Gh: ∀j u,news[j]? =some u->w.cell? (ad.add j)=some u:=fun j u hj=>by
   obtain ⟨ad',h,h'⟩:=hnews j u hj
   cases h;exact h'
  rcases hown with (⟨h2,rfl,h3,h4⟩|⟨b,pre,rest,e0,h2,h3,h4,h5,h6,h7⟩)|⟨h2,rfl,⟨Tb,WM⟩,h5⟩
  rotate_right
  ·have hv0:vals= []:=List.eq_nil_of_length_eq_zero (by simpa using hv)
   subst hv0
   exact grow Tb WM (fun j u hj=>by simp at hj) ad rfl (by omega)
  ·have hv0:vals= []:=List.eq_nil_of_length_eq_zero (by simpa using hv)
   subst hv0
   by_cases hm0:m=0
   ·subst hm0
    have hn:news= []:=List.eq_nil_of_length_eq_zero (by simpa using hl)
    subst hn
    refine ⟨o,w,?_,ho,hcap,fun _ _ h _=>h,fun _ _ _=>rfl,fun b hb=> .inr hb,.inl ⟨h2,rfl,h3,h4⟩⟩
    rw [ho,h3]
    cases WM:o.base with
    |none=>simp [Builtin.append_,run_underlying ht,sizeOf,typeInfo,hi,Builtin.lenOf,Builtin.firstCells,loadCells,loadCellsFrom]
    |some Tb=>simp [Builtin.append_,run_underlying ht,sizeOf,typeInfo,hi,Builtin.lenOf,Builtin.firstCells,loadCells,loadCellsFrom,storeCells]
   ·cases WM:o.base with
    |some Tb=>
     have:=grow Tb WM (fun j u hj=>by simp at hj) ad rfl (by omega)
     rw [WM] at this;exact this
    |none=>
    have hr:=run_append_nil (P:=P) w t ty e i z ht hi hz ad m c news hl Gh (by omega) (by omega) (by simp only [Nat.zero_add] at hbytes;omega)
    have hge:=grownCap_ge w m 0 e
    refine ⟨{bW:=some w.heap.size,base:=some ⟨w.heap.size,0,none⟩,len:=m,cap:=grownCap w m 0 e},w.drew.alloc (.cells (news.toArray++Builtin.zeroCells z.cells (grownCap w m 0 e- m)) e),?_,by simp,by simpa using hge,fun ay W hf _=>Fr.alloc (w:=w.drew) ⟨hf.os,hf.tape,hf.output,hf.size,hf.block,Nat.le_succ_of_le hf.HR⟩ _,fun b hb _=>Below.heap_alloc w.drew _ b hb,fun b hb=>by cases hb;exact .inl rfl,.inr ⟨w.heap.size,[],(Builtin.zeroCells z.cells (grownCap w m 0 e- m)).toList,e,rfl,rfl,?_,?_,?_,fun _=>rfl⟩⟩
    ·rw [ho,h3];exact hr
    ·rw [show (([]:List Value)++(([]:List Value)++news++(Builtin.zeroCells z.cells (grownCap w m 0 e- m)).toList)).toArray=news.toArray++Builtin.zeroCells z.cells (grownCap w m 0 e- m) by apply Array.ext';simp]
     exact heap_alloc_new w.drew _
    ·simp only [List.nil_append,List.length_append,Array.length_toList,size_zeroCells,hzs,hl,←Nat.add_mul]
     congr 1;omega
    ·exact grownCap_le_maxLen w m 0 e (by omega)
  ·by_cases hroom:n+m≤o.cap
   ·have hfit:pre.length+n*i.size+news.length≤(pre++(vals++rest)).toArray.size:=by
     have:=Nat.mul_le_mul_right i.size hroom
     rw [h5,Nat.add_mul] at this
     simp only [List.size_toArray,List.length_append] at this ⊢
     rw [hl];omega
    have hr:=yd (P:=P) w t ty e e0 i ht hi b n o.cap _ h4 ad m c news hl Gh h1 pre.length hroom hfit
    have e1:(pre++(vals++rest)).take (pre.length+n*i.size)=pre++vals:=by
     rw [List.take_append,List.take_of_length_le (by omega),Nat.add_sub_cancel_left,<- hv,List.take_left]
    have e2:(pre++(vals++rest)).drop (pre.length+n*i.size+news.length)=rest.drop news.length:=by
     rw [List.drop_append,List.drop_of_length_le (by omega),List.nil_append,<- hv,List.drop_append,List.drop_of_length_le (by omega),List.nil_append];congr 1;omega
    simp only [e1,e2] at hr
    refine ⟨{o with len:=n+m},w.setRow b (pre++vals++news++rest.drop news.length).toArray,?_,rfl,hroom,fun ay W hf hp=>hf.setRow (hp b h2) _,fun k hk hne=>setRow_other w b k _ (by rintro rfl;exact hne h2),fun b hb=> .inr hb,.inr ⟨b,pre,rest.drop news.length,e0,h2,h3,?_,?_,h6,h7⟩⟩
    ·rw [ho,h3];exact hr
    ·rw [show pre++(vals++news++rest.drop news.length)=pre++vals++news++rest.drop news.length by simp]
     exact setRow_heap w b _ _ e0 _ h4
    ·show o.cap*i.size=_
     rw [h5]
     simp only [List.length_append,List.length_drop]
     simp only [List.size_toArray,List.length_append] at hfit
     omega
   ·refine grow _ h3 (fun j u hj=> ?_) ad rfl hroom
    rw [Dw,bL h4,List.getElem?_append_right (by omega),Nat.add_sub_cancel_left,List.getElem?_append_left (List.getElem?_eq_some_iff.1 hj).1];exact hj
theorem gK.to {w:World} {o:Loc} {rk ZF n s:Nat} {vals:List Value} (h:gK w o rk n s vals) (hr:rk=3->ZF=3):gK w o ZF n s vals:=by
 rcases h with ⟨h1,h2,h3,h4⟩|⟨b,pre,rest,e,h1,h2,h3,h4,h5,h6⟩
 ·exact .inl ⟨h1,h2,h3,fun q=>h4 fun q'=>q (hr q')⟩
 ·exact .inr ⟨b,pre,rest,e,h1,h2,h3,h4,h5,fun q=>h6 fun q'=>q (hr q')⟩
theorem PK {rk:Nat} {f:Bool} (h:rk≠0):nr rk f≠0:=by
 unfold nr
 split
 ·exact h
 ·split<;>decide
theorem sC {rk:Nat} {f:Bool} (h:nr rk f=2):rk=2/\ f=true:=by
 unfold nr at h
 split at h
 ·exact ⟨h,rfl⟩
 ·split at h<;>cases h
theorem Hs {rk:Nat} {f:Bool} (h:rk=3):nr rk f=3:=by
 subst h
 cases f<;>rfl
theorem FN {i:Option Ty} {x:AV} {kk:(t:Ty)->List t.T->Nat->List Nat->Nat->List Nat->Prop} (h:FM i x hp kk): ∃t l rk gone c tb,kk t l rk gone c tb/\ rk≠0/\
  ((x= .v (.one (.raw (.slice none 0 0)))/\ l= []/\ gone= []/\ c=0)\/ (∃n,x= .v (.one (.full n))/\ gone= [n]/\ c=0/\ hp n=some (.row t l rk))\/ ∃n off cs et,x= .v (.one (.sl n off 0 c))/\ l= []/\ gone= []/\ rk=3/\ tb= [n]/\ hp n=some (.cells cs et)):=by
 unfold FM at h
 split at h
 ·split at h
  ·exact ⟨_,[],2,[],0,[],h,by decide,.inl ⟨rfl,rfl,rfl,rfl⟩⟩
  ·exact h.elim
 ·rename_i n
  split at h
  ·rename_i t l rk he
   split at h
   ·exact h.elim
   ·rename_i oa
    exact ⟨t,l,rk,[n],0,[],h,oa,.inr (.inl ⟨n,rfl,rfl,rfl,he⟩)⟩
  ·exact h.elim
 ·rename_i n off c
  split at h
  ·split at h
   ·rename_i cs et he
    exact ⟨_,[],3,[],c,[n],h,by decide,.inr (.inr ⟨n,off,cs,et,rfl,rfl,rfl,rfl,rfl,he⟩)⟩
   ·exact h.elim
  ·exact h.elim
 ·exact h.elim
theorem Bx {ns:List Nat} {m:Nat} :cg (ns.map fun n=>(n,aF.gone)) m=if m∈ns then some .gone else none:=by
 induction ns with
 |nil=>simp [cg]
 |cons a r ih=>
  simp only [List.map_cons,cg,ih,List.mem_cons]
  by_cases h1:m∈r
  ·simp [h1]
  ·by_cases h2:a=m
   ·subst h2;simp [h1]
   ·simp [h1,h2,Ne.symm h2]
theorem x6: ∀(t:Ty) (cs r:List Cell) (ns:List Nat) (f:Bool),uG hp t cs=some (ns,f,r)-> ∀n,n∈ns->hp n≠none
 | .int _,cs,r,ns,f,h,n,hn=>by
  simp only [uG] at h
  split at h<;>cases h;simp at hn
 | .bool,cs,r,ns,f,h,n,hn=>by
  simp only [uG] at h
  split at h<;>cases h;simp at hn
 | .str,cs,r,ns,f,h,n,hn=>by
  simp only [uG] at h
  split at h<;>cases h;simp at hn
 | .prod a b,cs,r,ns,f,h,n,hn=>by
  simp only [uG] at h
  split at h
  ·rename_i h1
   split at h
   ·rename_i h2
    cases h
    rcases List.mem_append.1 hn with hn|hn
    ·exact x6 a _ _ _ _ h1 n hn
    ·exact x6 b _ _ _ _ h2 n hn
   ·cases h
  ·cases h
 | .sl u,cs,r,ns,f,h,n,hn=>by
  simp only [uG] at h
  split at h
  ·split at h
   ·cases h;simp at hn
   ·split at h
    ·rename_i he
     split at h
     ·cases h;simp at hn
     ·cases h;simp at hn;subst hn;rw [he];simp
    ·split at h
     ·split at h<;>cases h
      simp at hn
     ·cases h
    ·cases h
   ·split at h
    ·rename_i he
     cases h;simp at hn;subst hn;rw [he];simp
    ·cases h
   ·cases h
  ·cases h
theorem EL {t:Ty} : ∀(k:Nat) (cs:List Cell) (ns:List Nat) (f:Bool),K6 hp t k cs=some (ns,f)-> ∀n,n∈ns->hp n≠none
 |0,cs,ns,f,h,n,hn=>by simp only [K6,Option.some.injEq,Prod.mk.injEq] at h;rw [<- h.1] at hn;simp at hn
 |k+1,cs,ns,f,h,n,hn=>by
  simp only [K6] at h
  split at h
  ·rename_i h1
   split at h
   ·rename_i h2
    cases h
    rcases List.mem_append.1 hn with hn|hn
    ·exact x6 t _ _ _ _ h1 n hn
    ·exact EL k _ _ _ h2 n hn
   ·cases h
  ·cases h
theorem Hr {t:Ty} {y:AV} {ab:List Nat} {f:Bool} (h:xH hp t y=some (ab,f)): ∀n,n∈ab->hp n≠none:=by
 intro n hn
 unfold xH at h
 split at h
 ·cases h;simp at hn
 ·split at h
  ·split at h
   ·exact EL _ _ _ _ h n hn
   ·cases h
  ·split at h
   ·split at h<;>cases h<;>simp at hn
   ·cases h;simp at hn
   ·cases h
  ·cases h;simp at hn
  ·cases h
theorem Hu (hT:aO P ctx.tt) {t t' e e' ty:TypeId} {ei:TI} (ht:P.underlying t=some (.slice e)) (ht':P.underlying t'=some (.slice e')) (jR:aJ ctx.tt e=some ei) {x y:AV} (h:FO x y ei hp nm k):
  ∃r,aM P ctx.X hp nm (fun Kn=>x.ok Kn/\ y.ok Kn) (fun ρ=>Builtin.append_ #[t,t'] ty #[x.af ρ,y.af ρ]) (fun ρ=>r.val.af ρ) r/\ k r:=by
 unfold FO at h
 obtain ⟨u,l,rk,gone,cc,tb,hq,oa,hx⟩:=FN h
 clear h
 have h:=hq
 clear hq
 split at h
 rotate_left
 ·exact h.elim
 rename_i hc
 obtain ⟨hsz,hby,hz0⟩:=hc
 split at h
 rotate_left
 ·exact h.elim
 rename_i yc
 split at h
 rotate_left
 ·exact h.elim
 rename_i ys tc hys
 split at h
 rotate_left
 ·exact h.elim
 rename_i ab f hab
 split at h
 rotate_left
 ·exact h.elim
 rename_i ke
 rw [Bool.and_eq_true] at ke
 have Z1:cc=0\/ cc<ys.length:=by
  rcases Bool.or_eq_true _ _▸ke.2 with q|q
  ·exact .inl (Nat.le_zero.1 (Nat.le_of_ble_eq_true q))
  ·exact .inr (Nat.le_of_ble_eq_true q)
 have ke:=fD ke.1
 obtain ⟨hlen,h⟩:=br h
 have hlen:=of_decide_eq_true hlen
 have hgl: ∀n,n∈gone-> ∃rk,hp n=some (.row u l rk):=fun n hn=>by
  rcases hx with ⟨_,_,rfl,_⟩|⟨m,_,rfl,_,he⟩|⟨_,_,_,_,_,_,rfl,_⟩
  ·simp at hn
  ·simp at hn;subst hn;exact ⟨_,he⟩
  ·simp at hn
 have aaU: ∀n,n∈ab->hp n≠none:=Hr hab
 refine ⟨_,⟨fun p fA=> ?_,?_⟩,h⟩
 ·obtain ⟨n,hn,rfl⟩:=List.mem_map.1 fA
  rcases List.mem_append.1 hn with hn|hn
  ·obtain ⟨_,e⟩:=hgl n hn;rw [e];simp
  ·exact aaU n hn
 intro ay W ρ Kn Γ w _ hk iC hfr hst
 have hn: ¬Kn nm:=by simpa using hfr 0 (by simp)
 obtain ⟨inf,hi,zK,YP,Z3,_⟩:=(hT e ei jR).2.2
 have hz:ei.zero.cells.size=inf.size:=by rw [zK,<- hz0];simp [jP]
 obtain ⟨a,c,news,ey,hyc,hnews,hcell⟩:=yz hys hab ay W ρ Kn Γ w (fun m hm=>iC m (by simp [hm])) hst
 have hnl:news.length=ys.length*inf.size:=by rw [<- hnews.length,bw,zK,hsz]
 have hold: ∃(o:Loc) (sub:Nat->Option Addr×Nat),x.af ρ= .slice o.base o.len o.cap/\ o.len=l.length/\ l.length<=o.cap/\
   (gK w o rk l.length inf.size (aE sub 0 (ax u l))\/ (o.bW=none/\ l.length=0/\ (∃ad,o.base=some ad)/\ o.cap<ys.length))/\
   (∀q u' l',(ax u l)[q]? =some (.sl u' l')->eM w (fun b=>dQ ρ Γ w b/\ (rk=2->p7 ay W b/\ JY w b)) (sub q) u' l')/\ ∀b,o.bW=some b-> ∃g,g∈gone/\ (Γ g).isSome=true/\ (ρ g).bW=some b:=by
  rcases hx with ⟨rfl,rfl,rfl,_⟩|⟨n,rfl,rfl,_,he⟩|⟨n,off,cs,et,rfl,rfl,rfl,rfl,rfl,he⟩
  ·exact ⟨{},fun _=>(none,0),rfl,rfl,Nat.le_refl _,.inl (.inl ⟨rfl,rfl,rfl,fun _=>rfl⟩),fun q u' l' hq=>by simp [ax] at hq,fun b hb=>by cases hb⟩
  ·have bN:Γ n=some (.row u l rk):=by rw [iC n (by simp),he]
   obtain ⟨o1,o2,o3,sub,m1,m2,m3,m4⟩:=hst.at_ n _ bN
   exact ⟨ρ n,sub,rfl,o1,o3,.inl (by rw [zK,hsz];exact m4 oa),m2,fun b hb=>⟨n,by simp,by simp [bN],hb⟩⟩
  ·refine ⟨{base:=addrOf ρ n off,cap:=cc},fun _=>(none,0),rfl,rfl,Nat.zero_le _,?_,fun q u' l' hq=>by simp [ax] at hq,fun b hb=>by cases hb⟩
   rcases Z1 with rfl|q
   ·exact .inl (.inl ⟨rfl,rfl,rfl,fun q=>absurd rfl q⟩)
   ·have bN:Γ n=some (.cells cs et):=by rw [iC n (by simp),he]
    obtain ⟨b,hb,_⟩:=hst.at_ n _ bN
    exact .inr ⟨rfl,rfl,⟨{block:=b,off:=off,spot:=none},show addrOf ρ n off=_ by rw [addrOf,hb];rfl⟩,q⟩
 obtain ⟨o,sub,ex,ol,oc,abZ,Zw,Xt⟩:=hold
 have hvl:(aE sub 0 (ax u l)).length=l.length*inf.size:=by rw [bM,bw,zK,hsz]
 obtain ⟨o',w',hrun,e1,e2,e3,e4,e5,e6⟩:=DM (P:=P) (ty:=ty) w t e inf ei.zero ht hi Z3 hz (by omega) (by rw [zK];exact (hT e ei jR).2.1) o l.length rk _ hvl ol ys.length abZ oc a c news hnl hcell
  (IA (fun c hc=>row_one c hc) hnews) hlen
 have hown: ∀b,o.bW=some b->W.heap.size<=b\/ ay b:=fun b hb=>by
  obtain ⟨g,_,h2,h3⟩:=Xt b hb
  exact hst.own g b h2 h3
 have aa8:=e3 ay W hst.fr hown
 let x':Loc:= {o' with es:=u.size,ik:= []}
 have hx':bq ρ nm x' nm=x':=by simp [bq]
 have lJ: ∀b,o'.bW=some b->(w.heap.size<=b\/ ∃g,g∈gone++ab/\ (Γ g).isSome=true/\ (ρ g).bW=some b)/\ (W.heap.size<=b\/ ay b):=fun b hb=>by
  rcases e5 b hb with rfl|h1
  ·exact ⟨.inl (Nat.le_refl _),.inl hst.fr.size⟩
  ·obtain ⟨g,h2,h3,h4⟩:=Xt b h1
   exact ⟨.inr ⟨g,by simp [h2],h3,h4⟩,hown b h1⟩
 refine ⟨bq ρ nm x',w',?_,ie hn,.inr (by simp),?_⟩
 ·show (Builtin.append_ #[t,t'] ty #[x.af ρ,yc.af ρ]).run P w= .ok (.slice (bq ρ nm x' nm).base (bq ρ nm x' nm).len (bq ρ nm x' nm).cap) w'
  rw [hx',ex,ey,FP ht ht'];exact hrun
 ·rw [show lK Kn nm {val:=AV.v (.one (.full nm)),fresh:= [aF.row u (l++ys) (nr rk f)],writes:=(gone++ab).map fun n=>(n,.gone),aD:=gone++ab++tc++tb} =Dj Kn nm by
   funext m;simp only [lK,Dj,List.length_singleton];congr 1;apply propext;omega]
  refine hst.swap (G:=gone++ab) (o:=aF.row u (l++ys) (nr rk f)) (x:=x') hn aa8 (fun b hb hne=>e4 b hb hne) lJ (fun m p hp=> ?_) trivial (fun _ h=>by cases h) fun hfz Ih=> ?_
  ·simp only [bX,List.length_singleton,Bx] at hp
   by_cases h1:nm<=m/\ m<nm+1
   ·rw [if_pos h1,show m- nm=0 by omega] at hp
    simp only [List.getElem?_cons_zero,live,Option.some.injEq] at hp
    exact .inl ⟨by omega,hp.symm⟩
   ·rw [if_neg h1] at hp
    by_cases h2:m∈gone++ab
    ·rw [if_pos h2] at hp;cases hp
    ·rw [if_neg h2] at hp
     exact .inr ⟨by omega,h2,hp⟩
  ·rw [bg,hx']
   have YH:bK (dr w' (fun b=>dQ (bq ρ nm x') (bX {val:=AV.v (.one (.full nm)),fresh:= [aF.row u (l++ys) (nr rk f)],writes:=(gone++ab).map fun n=>(n,.gone),aD:=gone++ab++tc++tb} nm Γ) w' b/\ (nr rk f=2->p7 ay W b/\ JY w' b))) (ax u (l++ys)) (aE sub 0 (ax u l)++news):=by
    rw [lT]
    refine bK.append ?_ (hnews.mono fun c v X5=> ?_)
    ·have: ∀(cs:List cl) (q:Nat),(∀i u' l',cs[i]? =some (cl.sl u' l')→eM w (fun b=>dQ ρ Γ w b∧(rk=2→p7 ay W b∧JY w b)) (sub (q+i)) u' l')→bK (dr w' (fun b=>dQ (bq ρ nm x') (bX {val:=AV.v (.one (.full nm)),fresh:= [aF.row u (l++ys) (nr rk f)],writes:=(gone++ab).map fun n=>(n,.gone),aD:=gone++ab++tc++tb} nm Γ) w' b∧(nr rk f=2→p7 ay W b∧JY w' b))) cs (aE sub q cs):=by
      intro cs
      induction cs with
      |nil=>intro q _;trivial
      |cons c r ih=>
       intro q hcq
       refine ⟨?_,ih (q+1) fun i u' l' hi=>by
        have:=hcq (i+1) u' l' (by simpa using hi)
        rwa [show q+(i+1)=q+1+i by omega] at this⟩
       cases c with
       |flat v=>rfl
       |sl u' l'=>
        exact ⟨_,_,rfl,(hcq 0 u' l' rfl).mono fun b hb=>⟨⟨(hfz b hb.1).1,fun e=>⟨(hb.2 (sC e).1).1,(hb.2 (sC e).1).2.same (hfz b hb.1).2⟩⟩,(hfz b hb.1).2⟩⟩
     exact this _ 0 fun i u' l' hi=>by simpa using Zw i u' l' hi
    ·cases c with
     |flat v0=>exact X5
     |sl u' l'=>
      obtain ⟨a',c',rfl,hn'⟩:=X5
      refine ⟨a',c',rfl,hn'.mono fun b hb=> ?_⟩
      rcases hb with ⟨m,h1,h2,h3,h4c⟩|⟨h1,h2⟩
      ·have fQ:b<w.heap.size:=by
        obtain ⟨p,hp⟩:=Option.isSome_iff_exists.1 h2
        exact BR (hst.at_ m p hp) h3
       have fc:o'.bW≠some b:=fun e=>by
        rcases e5 b e with rfl|h5
        ·omega
        ·obtain ⟨g,g1,g2,g3⟩:=Xt b h5
         have:=hst.inj g m b g2 h2 g3 h3
         subst this
         exact (List.nodup_append.1 ke).2.2 g g1 g h1 rfl
       exact ⟨⟨Ih m b (by simp [h1]) h2 h3 fc h4c (fun hh=>(hst.sW b hh).2 ⟨m,h2,.inl h3⟩),fun _=>⟨(hst.own m b h2 h3).imp_right .inl,(hst.ab5 m b h2 h3).same (e4 b fQ fc)⟩⟩,e4 b fQ fc⟩
      ·exact ⟨⟨(hfz b h1).1,fun e=>⟨(h2 (sC e).2).1,(h2 (sC e).2).2.same (hfz b h1).2⟩⟩,(hfz b h1).2⟩
   obtain ⟨s1,s2⟩:=ja YH
   have Y7:nr rk f≠0:=PK oa
   refine ⟨by simp [x',e1],rfl,by simpa [x'] using e2,o8 (aE sub 0 (ax u l)++news),fun i v hv=> ?_,s2,fun e=>absurd e Y7,fun _=> ?_⟩
   ·rw [s1] at hv
    rcases e6 with ⟨_,h2,_⟩|⟨b,pre,rest,e0,h1,h2,h3,_⟩
    ·have:=(List.getElem?_eq_some_iff.1 hv).1
     rw [List.length_append,hvl,hnl,<- Nat.add_mul,h2] at this;omega
    ·refine ⟨_,h2,?_,fun e=>absurd e Y7⟩
     have e1:(⟨b,pre.length,none⟩:Addr).add i=⟨b,pre.length+i,none⟩:=by unfold Addr.add;split<;>simp_all
     rw [e1,bL h3,List.getElem?_append_right (by omega),Nat.add_sub_cancel_left,List.getElem?_append_left (List.getElem?_eq_some_iff.1 hv).1];exact hv
   ·rw [s1,List.length_append]
    have e6:=e6.to (ZF:=nr rk f) Hs
    rw [zK,hsz] at e6
    exact e6
theorem St.none (w:World) (ρ:Env):St K2 w ρ (fun _=>False) (fun _=>none) w:=
 ⟨Fr.refl _ _,fun n o h=>(by cases h),fun n o h=>(by cases h),fun n m b h=>(by cases h),fun n b h=>(by cases h),fun b ⟨m,S,h,_⟩=>(by cases h),fun n o h=>(by cases h)⟩
theorem Pv {t:Ty} {z:t.T} {v:Value} {tc:List Nat} (hf:t.flat=true) (h:ck (fun _=>none) t (jP v)=some (z,[],tc)) (w:World):v.cells.toList=(t.aQ z).map bJ:=by
 obtain ⟨ys,e,_,ha⟩:=j7 _ t _ _ _ _ h
 have:=ha K2 w (fun _=> {}) (fun _=>False) (fun _=>none) w (fun _ _=>rfl) (St.none w _)
 rw [List.append_nil] at e
 rw [<- e,jP,Ac] at this
 have key: ∀(cs:List cl) (vs:List Value),(∀c∈cs,∃v,c= .flat v)->bK (Ay w (KA w)) cs vs->vs=cs.map bJ:=by
  intro cs
  induction cs with
  |nil=>intro vs _ h;cases vs<;>first|rfl|exact h.elim
  |cons c r ih=>
   intro vs hc h
   cases vs with
   |nil=>exact h.elim
   |cons v s=>
    obtain ⟨u,rfl⟩:=hc c (by simp)
    have h1:v=u:=h.1
    rw [h1,ih s (fun c hm=>hc c (by simp [hm])) h.2];rfl
 exact key _ _ (fun c hc=>fI hf hc) this
theorem vx (t:Ty) (z:t.T): ∀n,aX t (List.replicate n z)=(List.replicate n ((t.aQ z).map bJ)).flatten
 |0=>by simp [aX,ax]
 |n+1=>by
  have:=vx t z n
  simp only [aX] at this ⊢
  rw [List.replicate_succ,gu,List.map_append,this,List.replicate_succ,List.flatten_cons]
theorem ET (l:List Value) (d:Value) (hl:0<l.length): ∀n,(List.range (n*l.length)).map (fun i=>l.getD (i % l.length) d)=(List.replicate n l).flatten
 |0=>by simp
 |n+1=>by
  rw [Nat.succ_mul,List.range_add,List.map_append,ET l d hl n,List.replicate_succ',List.flatten_append]
  congr 1
  apply List.ext_getElem?
  intro j
  simp only [List.map_map,List.getElem?_map,List.flatten_cons,List.flatten_nil,List.append_nil]
  rcases Nat.lt_or_ge j l.length with hj|hj
  ·rw [List.getElem?_range hj]
   simp only [Option.map_some,Function.comp]
   rw [Nat.mul_comm,Nat.mul_add_mod,Nat.mod_eq_of_lt hj,List.getD,List.getElem?_eq_getElem hj];rfl
  ·rw [List.getElem?_eq_none (by simpa using hj),List.getElem?_eq_none hj];rfl
theorem Cc (f:Nat->Value):(Array.range 0).map f= #[]:=by apply Array.ext';simp [Array.toList_range]
theorem rM (hT:aO P ctx.tt) {t:TypeId} {i:TI} (ht:aJ ctx.tt t=some i) {x y:AV} (h:kg ctx i x y nm k):
  ∃r,aM P ctx.X hp nm (fun _=>True) (fun ρ=>Instr.makeSlice t (x.af ρ) (y.af ρ)) (fun ρ=>r.val.af ρ) r/\ k r:=by
 unfold kg at h
 split at h
 rotate_left
 ·exact h.elim
 rename_i d e n c hd
 split at h
 rotate_left
 ·exact h.elim
 rename_i ei jR
 split at h
 rotate_left
 ·exact h.elim
 rename_i u hu
 split at h
 rotate_left
 ·exact h.elim
 rename_i hc
 obtain ⟨hf,hsz,hby,hz0⟩:=hc
 split at h
 rotate_left
 ·exact h.elim
 rename_i z tcz hz
 obtain ⟨hb,h⟩:=br h
 simp only [Bool.and_eq_true,decide_eq_true_eq] at hb
 obtain ⟨⟨hn0,hnc⟩,ad9⟩:=hb
 have Kl:c<(1099511627776:Int):=by omega
 refine ⟨_,⟨fun p hp=>absurd hp (by simp),?_⟩,h⟩
 intro ay W ρ Kn Γ w _ _ _ hfr hst
 have hn: ¬Kn nm:=by simpa using hfr 0 (by simp)
 obtain ⟨inf,hi,zK,YP,Z3,_⟩:=(hT e ei jR).2.2
 have hpos:=(hT e ei jR).2.1
 have hzv:=Pv hf hz w
 have hzs:ei.zero.cells.size=ei.size:=by rw [<- hz0];simp [jP]
 have Zb:P.underlying t=some (.slice e):=by rw [(hT t i ht).1,hd]
 have wr: ∀q:Int,0<=q->q<1099511627776->IntKind.i64.wrap q=q:=fun q h1 h2=>by rw [IntKind.wrap_i64];omega
 let cells:Array Value:=(Array.range (c.toNat*inf.size)).map (ei.zero.cells[· % ei.zero.cells.size]!)
 have Kk:cells.toList=(List.replicate c.toNat ei.zero.cells.toList).flatten:=by
  have:=ET ei.zero.cells.toList default (by rw [Array.length_toList,hzs];exact hpos) c.toNat
  rw [<- this]
  simp only [cells,Array.toList_map,Array.toList_range,Array.length_toList,hzs,zK]
  refine List.map_congr_left fun j _=> ?_
  rw [List.getD,Array.getElem?_toList,getElem!_def]
  cases ei.zero.cells[j % ei.size]? <;>rfl
 have hrun:(Instr.makeSlice t (.int .i64 n) (.int .i64 c)).run P w= .ok (.slice (some ⟨w.heap.size,0,none⟩) n.toNat c.toNat) (w.alloc (.cells cells e (0,0))):=by
  have fQ:(inf.bytes:Int)*c<=281474976710656:=by
   have h1:(inf.bytes:Int)*c<=128*c:=Int.mul_le_mul_of_nonneg_right (by omega) (by omega)
   omega
  have t1: ¬(281474976710656:Int)<(inf.bytes:Int)*c:=by omega
  have t2: ¬(c<0):=by omega
  have t3: ¬(n<0):=by omega
  have t4: ¬(c<n):=by omega
  have wn:=wr n hn0 (by omega)
  have wc:=wr c (by omega) Kl
  have hp2:inf.size≠0:=by omega
  by_cases hc0:c<=0
  ·obtain rfl:c=0:=by omega
   obtain rfl:n=0:=by omega
   have e0:cells= #[]:=by simp [cells]
   rw [e0]
   simp [Instr.makeSlice,run_underlying Zb,asInt,asIntOf,typeInfo,hi,wc,sizeOf,newRow]
   rw [Cc]
  ·simp [Instr.makeSlice,run_underlying Zb,asInt,asIntOf,typeInfo,hi,wn,wc,t1,t2,t3,t4,sizeOf,zeroValue,Z3,hc0,hp2,newRow,cells]
   intro h0;rw [h0,Cc,Cc]
 let x':Loc:= {bW:=some w.heap.size,base:=some ⟨w.heap.size,0,none⟩,len:=n.toNat,cap:=c.toNat,es:=u.size}
 have hx':bq ρ nm x' nm=x':=by simp [bq]
 refine ⟨bq ρ nm x',w.alloc (.cells cells e (0,0)),?_,ie hn,.inr (by simp),?_⟩
 ·show (Instr.makeSlice t (.int .i64 n) (.int .i64 c)).run P w= .ok (.slice (bq ρ nm x' nm).base (bq ρ nm x' nm).len (bq ρ nm x' nm).cap) _
  rw [hx'];exact hrun
 ·rw [Aa]
  have ea:bX {val:= .v (.one (.full nm)),fresh:= [.row u (List.replicate n.toNat z) 2]} nm Γ=eN Γ nm (.row u (List.replicate n.toNat z) 2):=by
   funext q;simp only [bX,eN,List.length_singleton,cg]
   by_cases h:q=nm
   ·subst h;simp [live]
   ·have: ¬(nm≤q∧q<nm+1):=by omega
    simp [h,this]
  rw [ea]
  refine hst.swap (G:= []) (o:= .row u (List.replicate n.toNat z) 2) (x:=x') hn (hst.fr.alloc _) (fun b hb _=>Below.heap_alloc _ _ _ hb) (fun b hb=>by cases hb;exact ⟨.inl (Nat.le_refl _),.inl hst.fr.size⟩) (fun m p hp=> ?_) trivial (fun _ h=>by cases h) fun _ _=> ?_
  ·unfold eN at hp
   split at hp
   ·rename_i e1;cases hp;exact .inl ⟨e1,rfl⟩
   ·rename_i e1;exact .inr ⟨e1,by simp,hp⟩
  ·rw [bg,hx']
   have hfl:aE (fun _=>(none,0)) 0 (ax u (List.replicate n.toNat z))=aX u (List.replicate n.toNat z):=by
    have: ∀(cs:List cl) q,(∀c∈cs,∃v,c= .flat v)->aE (fun _=>(none,0)) q cs=cs.map bJ:=by
     intro cs
     induction cs with
     |nil=>intro q _;rfl
     |cons c r ih=>
      intro q hc
      obtain ⟨v,rfl⟩:=hc c (by simp)
      simp only [aE,List.map_cons]
      rw [ih (q+1) fun c hm=>hc c (by simp [hm])];rfl
    exact this _ 0 fun c hc=>eH hf hc
   have QV:cells.toList=aX u (List.replicate n.toNat z)++(List.replicate (c.toNat- n.toNat) ei.zero.cells.toList).flatten:=by
    rw [Kk,vx,<- hzv,<- List.flatten_append,List.replicate_append_replicate,show n.toNat+(c.toNat- n.toNat)=c.toNat by omega]
   have hheap:(w.alloc (.cells cells e (0,0))).heap[w.heap.size]? =some (.cells (aX u (List.replicate n.toNat z)++(List.replicate (c.toNat- n.toNat) ei.zero.cells.toList).flatten).toArray e (0,0)):=by
    rw [heap_alloc_new,<- QV]
   refine ⟨by simp [x'],rfl,by simp [x'];omega,fun _=>(none,0),fun i v hv=>⟨_,rfl,?_,fun e=>by cases e⟩,fun q u' l' hq=> ?_,fun e=>(by cases e),fun _=>gK.new (.inr ⟨w.heap.size,_,e,rfl,rfl,by rw [hfl];exact hheap,?_⟩)⟩
   ·have e1:(⟨w.heap.size,0,none⟩:Addr).add i=⟨w.heap.size,i,none⟩:=by unfold Addr.add;split<;>simp_all
    rw [hfl] at hv
    rw [e1,bL hheap,List.getElem?_append_left (List.getElem?_eq_some_iff.1 hv).1];exact hv
   ·obtain ⟨v,hv⟩:=eH hf (List.mem_of_getElem? hq)
    cases hv
   ·refine ⟨?_,by show c.toNat≤_;omega⟩
    rw [hfl,<- QV]
    simp only [x',cells,Array.length_toList,Array.size_map,Array.size_range,zK,hsz]
theorem DF (hT:aO P ctx.tt) {t:TypeId} {i:TI} (ht:aJ ctx.tt t=some i) (h:kg ctx i (.v (.one (.raw (.int .i64 0)))) (.v (.one (.raw (.int .i64 0)))) nm k):
  ∃r,aM P ctx.X hp nm (fun _=>True) (fun _=>Instr.buildSlice t 0 #[]) (fun ρ=>r.val.af ρ) r/\ k r:=by
 have hd': ∃e ei,i.desc= .slice e/\ aJ ctx.tt e=some ei:=by
  unfold kg at h
  cases hd:i.desc<;>rw [hd] at h<;>try (exact h.elim)
  rename_i e
  dsimp only at h
  cases jR:aJ ctx.tt e with
  |none=>rw [jR] at h;exact h.elim
  |some ei=>exact ⟨e,ei,rfl,jR⟩
 obtain ⟨e,ei,hd,jR⟩:=hd'
 obtain ⟨r,h1,h2⟩:=rM (hp:=hp) hT ht h
 refine ⟨r,⟨h1.1,fun ay W ρ Kn Γ w a1 a2 a3 a4 a5=> ?_⟩,h2⟩
 obtain ⟨ρ',w',e1,rest⟩:=h1.2 ay W ρ Kn Γ w a1 a2 a3 a4 a5
 refine ⟨ρ',w',?_,rest⟩
 have Zb:P.underlying t=some (.slice e):=by rw [(hT t i ht).1,hd]
 obtain ⟨inf,hi,zK,YP,Z3,_⟩:=(hT e ei jR).2.2
 have w0:IntKind.i64.wrap 0=0:=by rw [IntKind.wrap_i64];omega
 have hb:(Instr.buildSlice t 0 #[]).run P w= .ok (.slice (some ⟨w.heap.size,0,none⟩) 0 0) (w.alloc (.cells #[] e (0,0))):=by
  simp [Instr.buildSlice,run_underlying Zb,hT.sz jR,newRow,Instr.fill,Cc]
 have hm:(Instr.makeSlice t (.int .i64 0) (.int .i64 0)).run P w= .ok (.slice (some ⟨w.heap.size,0,none⟩) 0 0) (w.alloc (.cells #[] e (0,0))):=by
  simp [Instr.makeSlice,run_underlying Zb,asInt,asIntOf,typeInfo,hi,w0,sizeOf,newRow]
  rw [Cc]
 rw [hb,<- hm]
 exact e1
theorem kR {u:Ty} (hf:u.flat=true) (sub:Nat->Option Addr×Nat) (l:List u.T):aE sub 0 (ax u l)=aX u l:=by
 have key: ∀(cs:List cl) (q:Nat),(∀c∈cs,∃v,c= .flat v)->aE sub q cs=cs.map bJ:=by
  intro cs
  induction cs with
  |nil=>intro q _;rfl
  |cons c r ih=>
   intro q hc
   obtain ⟨v,rfl⟩:=hc c (by simp)
   simp only [aE,List.map_cons,ih (q+1) fun c hm=>hc c (by simp [hm])]
   rfl
 exact key _ 0 fun c hc=>eH hf hc
theorem EH {w:World} {ok:Nat->Prop} : ∀ {cs:List cl} {vs:List Value},(∀c∈cs,∃v,c= .flat v)->bK (dr w ok) cs vs->vs=cs.map bJ
 | [],[],_,_=>rfl
 |c::r,v::s,hc,h=>by
  obtain ⟨q,rfl⟩:=hc c (by simp)
  have h1:v=q:=h.1
  rw [EH (fun c hm=>hc c (by simp [hm])) h.2,h1];rfl
 | [],_::_,_,h=>h.elim
 |_::_,[],_,h=>h.elim
theorem fS {u:Ty} (l:List u.T):(aX u l).length=l.length*u.size:=by simp [aX,bw]
theorem Ny {α:Type} (l ys:List α) (s d:Nat) (h:d<=l.length- s) (hs:s<=l.length):(iz l s d ys).length=l.length:=by
 unfold iz nE
 have:Nat.min ys.length d<=d:=Nat.min_le_right _ _
 have:Nat.min ys.length d<=ys.length:=Nat.min_le_left _ _
 simp only [List.length_append,List.length_take,List.length_drop]
 omega
theorem Nx (hT:aO P ctx.tt) {t t' e ty:TypeId} {ei:TI} (ht:P.underlying t=some (.slice e)) (jR:aJ ctx.tt e=some ei) {x y:AV} (h:Qa x y ei hp k):
  ∃r,aM P ctx.X hp nm (fun Kn=>x.ok Kn/\ y.ok Kn) (fun ρ=>Builtin.copy_ #[t,t'] ty #[x.af ρ,y.af ρ]) (fun ρ=>r.val.af ρ) r/\ k r:=by
 unfold Qa at h
 split at h
 rotate_left
 ·exact h.elim
 rename_i p yc
 obtain ⟨n,s,q,u,l,o0,xL,tc,he,h,lI,hp1,Y0,_,hle,_,_,hall⟩:=nV h
 obtain ⟨rk,he⟩: ∃rk,hp n=some (.row u l rk):=by
  rcases o0.2 with ⟨rk,e⟩|⟨g,c,kk,x,e⟩|⟨c,st,kn,e⟩
  ·exact ⟨rk,by rw [he,e]⟩
  ·rw [e] at he;rw [he] at h;exact h.elim
  ·rw [e] at he;rw [he] at h;exact h.elim
 rw [he] at h
 dsimp only at h
 split at h
 rotate_left
 ·exact h.elim
 rename_i hc
 obtain ⟨⟨oa,QO⟩,hf,hsz⟩:=hc
 split at h
 rotate_left
 ·exact h.elim
 rename_i ys uW hys
 have h:=h.2 _ rfl
 refine ⟨_,⟨fun z hz=>by simp at hz;subst hz;rw [he];simp,?_⟩,h⟩
 intro ay W ρ Kn Γ w _ hk iC hfr hst
 have bN:Γ n=some (.row u l rk):=by rw [iC n (by simp),he]
 obtain ⟨a,c,news,ey,hyc,hnews,hcell⟩:=yz (ab:= []) (f:=true) hys (by simp [xH,hf]) ay W ρ Kn Γ w (fun m hm=>iC m (by simp [hm])) hst
 obtain ⟨g1,g2,g3,g4,g5,_,_,gj⟩:=hall ay W ρ Kn Γ w (fun m hm=>iC m (by simp [hm])) hst
 have hnews:news=aX u ys:=EH (fun c hc=>eH hf hc) hnews
 subst hnews
 obtain ⟨inf,hi,zK,_,_,_⟩:=(hT e ei jR).2.2
 have abG:inf.size=u.size:=by rw [zK,hsz]
 let k0:=Nat.min ys.length xL
 have G9:nE xL ys.length=k0:=rfl
 have VW:k0<=ys.length:=Nat.min_le_left _ _
 have YS:k0<=xL:=Nat.min_le_right _ _
 let V:List Value:=(aX u ys).take (k0*u.size)
 have ZY:V.length=k0*u.size:=by
  show ((aX u ys).take (k0*u.size)).length=_
  rw [List.length_take,fS]
  exact Nat.min_eq_left (Nat.mul_le_mul_right _ VW)
 have Kp:(Builtin.firstCells inf.size k0 (.slice a ys.length c)).run P w= .ok V.toArray w:=by
  cases a with
  |some ad=>
   refine run_firstCells_some (P:=P) w inf.size k0 ad ys.length c V (by rw [ZY,abG]) fun j v hv=> ?_
   have N7:(aX u ys)[j]? =some v:=by
    have:=hv
    simp only [V,List.getElem?_take] at this
    split at this
    ·exact this
    ·cases this
   obtain ⟨ad',e1,e2⟩:=hcell j v N7
   cases e1;exact e2
  |none=>
   have:V= []:=by
    cases hV:V with
    |nil=>rfl
    |cons v r=>
     have hv:V[0]? =some v:=by rw [hV];rfl
     simp only [V,List.getElem?_take] at hv
     split at hv
     ·obtain ⟨_,e1,_⟩:=hcell 0 v hv;cases e1
     ·cases hv
   rw [this]
   exact run_firstCells_none (P:=P) (w:=w) _ _ _ _
 have hlen:(iz l (fV s 0) xL ys).length=l.length:=by
  by_cases h0:k0=0
  ·unfold iz;rw [G9,h0];simp
  ·exact Ny l ys _ _ hle (by have:=Y0 0 (by omega);omega)
 have eSt: ∀(v:AV) (tcs:List Nat),lK Kn nm {val:=v,writes:= [(n,aF.row u (iz l (fV s 0) xL ys) rk)],aD:=tcs} =Kn:=fun v tcs=>fM _ _ _ _ _
 by_cases h0:k0=0
 ·
  have hl':iz l (fV s 0) xL ys=l:=by unfold iz;rw [G9,h0];simp
  have hV0:V= []:=List.eq_nil_of_length_eq_zero (by rw [ZY,h0,Nat.zero_mul])
  refine ⟨ρ,w,?_,fun _ _=>rfl,trivial,?_⟩
  ·show (Builtin.copy_ #[t,t'] ty #[.slice (ρ p).base (ρ p).len (ρ p).cap,yc.af ρ]).run P w=_
   rw [ey,g4]
   simp only [Builtin.copy_]
   have Z6:Nat.min ys.length xL=k0:=rfl
   cases hb:(ρ p).base with
   |none=>simp [run_underlying ht,Builtin.lenOf,sizeOf,typeInfo,hi,Z6,Kp,goInt,hV0,fT,AV.af,A0.af,Cell.af,G9]
   |some ad=>simp [run_underlying ht,Builtin.lenOf,sizeOf,typeInfo,hi,Z6,Kp,goInt,hV0,fT,AV.af,A0.af,Cell.af,G9,storeCells]
  ·rw [eSt,jW _ _ _ _ _ _ rfl,hl']
   have:eN Γ n (.row u l rk)=Γ:=by
    funext m;unfold eN;split
    ·rename_i e1;subst e1;exact bN.symm
    ·rfl
   rw [this];exact hst
 ·obtain ⟨o1,o2,o3,sub,m1,m2,m3,m4⟩:=hst.at_ n _ bN
  have hd0:0<xL:=by omega
  have Y1:=Y0 0 hd0
  rcases (m4 oa).old QO with ⟨_,z0,_⟩|⟨b,rest,e0,hb,hbase,hh,hcap⟩
  ·subst z0;simp at Y1
  obtain ⟨aN,aP,q1,q2,q3⟩:=gj 0 hd0
  rw [hbase] at q1;cases q1
  have abq:fV s 0+k0<=l.length:=by omega
  have hP:aP=⟨b,fV s 0*u.size,none⟩:=by
   have:aP.add (0*u.size)=aP:=by simp [Addr.add]
   rw [this] at q3
   rw [q3];unfold Addr.add;split<;>simp_all
  rw [kR hf] at hh hcap
  have hF:aX u (iz l (fV s 0) xL ys)=(aX u l).take (fV s 0*u.size)++V++(aX u l).drop (fV s 0*u.size+k0*u.size):=by
   unfold iz
   rw [G9]
   show (ax u _).map bJ=_
   rw [lT,lT,List.map_append,List.map_append,iO,iO,gw,List.map_take,List.map_take,List.map_drop,Nat.add_mul]
   rfl
  have ad4:fV s 0*u.size+k0*u.size<=l.length*u.size:=by rw [<- Nat.add_mul];exact Nat.mul_le_mul_right _ abq
  have hone: ∀v∈V,v.oneCell'=true:=fun v hv=>by
   have hv:=List.mem_of_mem_take hv
   obtain ⟨c,hc,rfl⟩:=List.mem_map.1 hv
   obtain ⟨v,rfl⟩:=eH hf hc
   exact row_one _ hc v rfl
  have xS:=run_storeCells_at P b (fV s 0*u.size) e0 V 0 _ w hh (by simp only [List.size_toArray,List.length_append,fS,ZY];omega) hone
  have Kk:((aX u l++rest).toArray.toList.take (fV s 0*u.size+0)++V++(aX u l++rest).toArray.toList.drop (fV s 0*u.size+0+V.length))=aX u (iz l (fV s 0) xL ys)++rest:=by
   rw [hF,Nat.add_zero,ZY]
   rw [List.take_append_of_le_length (by rw [fS];omega),List.drop_append_of_le_length (by rw [fS];omega)]
   simp only [List.append_assoc]
  rw [Kk] at xS
  have Z6:Nat.min ys.length xL=k0:=rfl
  have hrun:(Builtin.copy_ #[t,t'] ty #[.slice (ρ p).base (ρ p).len (ρ p).cap,yc.af ρ]).run P w= .ok (.int .i64 (k0:Nat)) (w.setRow b (aX u (iz l (fV s 0) xL ys)++rest).toArray):=by
   rw [ey,g4,q2,hP]
   simp [Builtin.copy_,run_underlying ht,Builtin.lenOf,sizeOf,typeInfo,hi,Z6,Kp,goInt,xS]
  refine ⟨ρ,_,hrun,fun _ _=>rfl,trivial,?_⟩
  rw [eSt,jW _ _ _ _ _ _ rfl]
  refine hst.write bN hb trivial (fun _ h=>by cases h) fun hfz=> ?_
  have JV:=setRow_heap w b _ (aX u (iz l (fV s 0) xL ys)++rest).toArray _ _ hh
  refine ⟨by rw [hlen];exact o1,o2,by rw [hlen];exact o3,sub,fun m v hm=> ?_,fun m u' l' hm=> ?_,m3,fun _=>gK.new (.inr ⟨b,rest,e0,hb,hbase,by rw [kR hf];exact JV,?_⟩)⟩
  ·refine ⟨_,hbase,?_,fun e=>absurd e oa⟩
   rw [kR hf] at hm
   have e1:(⟨b,0,none⟩:Addr).add m=⟨b,m,none⟩:=by unfold Addr.add;split<;>simp_all
   rw [e1,bL JV,List.getElem?_append_left (List.getElem?_eq_some_iff.1 hm).1];exact hm
  ·obtain ⟨v,hv⟩:=eH hf (List.mem_of_getElem? hm);cases hv
  ·exact ⟨by rw [hcap.1,kR hf];simp [fS,hlen],hcap.2⟩
end
end Go.Ev
