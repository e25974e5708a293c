/- 'append', 'make' and other built-ins. -/
import Derived.Test.YtfgdjlhilladhaaGreatEvD2
import Derived.Laws.AppendOwn
import Derived.MapKept
noncomputable section
set_option linter.unusedSectionVars false
set_option linter.unusedVariables false
set_option linter.unusedSimpArgs false
namespace Go.Ev
open Go.RowKit
section
variable {P:Program} {ctx:Ctx} {hp:HP} {nm:Nat} {k:Rec->Prop}
def okN (aC:mY) (W:World) (ρ:Env) (Γ:HP) (w:World) (ns:List Nat) (f:Bool) (b:Nat):Prop:=
 (∃m,m∈ns/\ (Γ m).isSome=true/\ (ρ m).bR=some b/\ bS w b)\/ (lV ρ Γ w b/\ (f=true->VR aC W b))
theorem okN.mono {aC:mY} {W:World} {ρ:Env} {Γ:HP} {w:World} {ns ns':List Nat} {f f':Bool} {b:Nat} (h:okN aC W ρ Γ w ns f b) (hn: ∀m∈ns,m∈ns') (hf:f'=true->f=true):okN aC W ρ Γ w ns' f' b:=by
 rcases h with ⟨m,h1,h2⟩|⟨h1,h2⟩
 ·exact .inl ⟨m,hn m h1,h2⟩
 ·exact .inr ⟨h1,fun e=>h2 (hf e)⟩
theorem sK.ro {fz pm:Nat->Prop} {w:World} {o:Loc} {t:Ty} {l:List t.T} {sub:Nat->Option Addr×Nat} (h:sK fz pm w o t l 0 sub) (ht:t.flat=true): ∀i v,(bk t l)[i]? =some v-> ∃a,o.base=some a/\ w.cell? (a.add i)=some v/\ fz a.block:=by
 intro i v hv
 have e:aL sub 0 (aD t l)=bk t l:=by
  have: ∀(cs:List cD) q,(∀c∈cs,∃v,c= .flat v)->aL sub q cs=cs.map aT:=by
   intro cs
   induction cs with
   |nil=>intro q _;rfl
   |cons c r ih=>
    intro q hc
    obtain ⟨v,rfl⟩:=hc c (by simp)
    simp only [aL,List.map_cons]
    rw [ih (q+1) fun c hm=>hc c (by simp [hm])];rfl
  exact this _ 0 fun c hc=>iF ht hc
 obtain ⟨a,h1,h2,h3⟩:=h.1 i v (by rw [e];exact hv)
 exact ⟨a,h1,h2,h3 rfl⟩
theorem Gh: ∀(t:Ty) (cs:List Cell) (x:t.T) (r r':List Cell) (tc ns:List Nat) (f:Bool),cN hp t cs=some (x,r,tc)->B6 hp t cs=some (ns,f,r')->
  r'=r/\ ∃ys,cs=ys++r/\ ys.length=t.size/\ ∀aC W ρ Kn Γ w,(∀m∈tc,Γ m=hp m)->St aC W ρ Kn Γ w->bN (eF w (okN aC W ρ Γ w ns f)) (t.aM x) (ys.map (Cell.af ρ))
 | .int k,cs,x,r,r',tc,ns,f,h,ho=>by
  simp only [cN] at h
  split at h
  ·split at h
   ·rename_i e;subst e;cases h
    simp only [B6,Option.some.injEq,Prod.mk.injEq] at ho
    exact ⟨ho.2.2.symm,[_],rfl,rfl,fun _ _ _ _ _ _ _ _=>⟨rfl,trivial⟩⟩
   ·cases h
  ·cases h
 | .bool,cs,x,r,r',tc,ns,f,h,ho=>by
  simp only [cN] at h
  split at h
  ·cases h
   simp only [B6,Option.some.injEq,Prod.mk.injEq] at ho
   exact ⟨ho.2.2.symm,[_],rfl,rfl,fun _ _ _ _ _ _ _ _=>⟨rfl,trivial⟩⟩
  ·cases h
 | .str,cs,x,r,r',tc,ns,f,h,ho=>by
  simp only [cN] at h
  split at h
  ·cases h
   simp only [B6,Option.some.injEq,Prod.mk.injEq] at ho
   exact ⟨ho.2.2.symm,[_],rfl,rfl,fun _ _ _ _ _ _ _ _=>⟨rfl,trivial⟩⟩
  ·cases h
 | .prod a b,cs,x,r,r',tc,ns,f,h,ho=>by
  simp only [cN] at h
  split at h
  ·rename_i x1 r1 Z0 h1
   split at h
   ·rename_i x2 r2 tc2 h2
    cases h
    simp only [B6] at ho
    split at ho
    ·rename_i n1 f1 q1 o1
     split at ho
     ·rename_i n2 f2 q2 o2
      cases ho
      obtain ⟨rfl,ys,rfl,hy,ha⟩:=Gh a _ _ _ _ _ _ _ h1 o1
      obtain ⟨rfl,zs,rfl,hz,hb⟩:=Gh b _ _ _ _ _ _ _ h2 o2
      refine ⟨rfl,ys++zs,by simp,by simp [hy,hz,Ty.size],fun aC W ρ Kn Γ w ht hst=> ?_⟩
      rw [List.map_append]
      refine ((ha aC W ρ Kn Γ w (fun m hm=>ht m (by simp [hm])) hst).mono (eF.weak fun b hb=>hb.mono (fun m hm=>by simp [hm]) fun e=>by simp at e;exact e.1)).append
       ((hb aC W ρ Kn Γ w (fun m hm=>ht m (by simp [hm])) hst).mono (eF.weak fun b hb=>hb.mono (fun m hm=>by simp [hm]) fun e=>by simp at e;exact e.2))
     ·cases ho
    ·cases ho
   ·cases h
  ·cases h
 | .sl u,cs,x,r,r',tc,ns,f,h,ho=>by
  have hd:=lq hp (.sl u) cs x r tc h
  simp only [B6] at ho
  split at ho
  rotate_left
  ·cases ho
  rename_i hu
  simp only [cN] at h
  have fin: ∀(c:Cell) (r0:List Cell),cs=c::r0->(r'=r0)->(∀aC W ρ Kn Γ w,(∀m∈tc,Γ m=hp m)->St aC W ρ Kn Γ w-> ∀a cap,c.af ρ= .slice a x.length cap-> ∀i v,(bk u x)[i]? =some v-> ∃ad,a=some ad/\ w.cell? (ad.add i)=some v/\ okN aC W ρ Γ w ns f ad.block)->
    r'=r/\ ∃ys,cs=ys++r/\ ys.length=(Ty.sl u).size/\ ∀aC W ρ Kn Γ w,(∀m∈tc,Γ m=hp m)->St aC W ρ Kn Γ w->bN (eF w (okN aC W ρ Γ w ns f)) ((Ty.sl u).aM x) (ys.map (Cell.af ρ)):=fun c r0 ec er hm=>by
   obtain ⟨ys,e,hy,ha⟩:=hd
   match ys,hy with
   | [y],_=>
    rw [ec] at e
    simp only [List.cons_append,List.nil_append,List.cons.injEq] at e
    obtain ⟨rfl,rfl⟩:=e
    refine ⟨er,[c],ec,rfl,fun aC W ρ Kn Γ w ht hst=>⟨?_,trivial⟩⟩
    obtain ⟨a,cap,e1,e2,e3⟩:=(ha aC W ρ Kn Γ w ht hst).1
    exact ⟨a,cap,e1,hu,e2,fun i v hv=>hm aC W ρ Kn Γ w ht hst a cap e1 i v hv⟩
  split at ho
  ·cases ho
   simp only [Option.some.injEq,Prod.mk.injEq] at h
   obtain ⟨rfl,rfl,rfl⟩:=h
   exact fin _ _ rfl rfl fun _ _ _ _ _ _ _ _ a cap _ i v hv=>by simp [bk,aD] at hv
  ·rename_i n r1
   split at ho
   ·rename_i t l rk he
    simp only [he] at h
    split at h
    rotate_left
    ·cases h
    rename_i l' hl
    obtain ⟨rfl,rfl⟩:=fJ hl
    cases h
    split at ho
    ·rename_i C5
     subst C5
     cases ho
     refine fin _ _ rfl rfl fun aC W ρ Kn Γ w ht hst a cap ec i v hv=> ?_
     have dw:Γ n=some (.row t l 0):=by rw [ht n (by simp),he]
     obtain ⟨_,_,_,sub,hm⟩:=hst.at_ n _ dw
     obtain ⟨ad,e1,e2,e3⟩:=hm.ro hu i v hv
     simp only [Cell.af,Value.slice.injEq] at ec
     exact ⟨ad,by rw [<- ec.1,e1],e2,.inr ⟨e3,fun e=>by cases e⟩⟩
    ·rename_i C5
     cases ho
     refine fin _ _ rfl rfl fun aC W ρ Kn Γ w ht hst a cap ec i v hv=> ?_
     have dw:Γ n=some (.row t l rk):=by rw [ht n (by simp),he]
     obtain ⟨_,_,_,sub,h1,_,_,h4⟩:=hst.at_ n _ dw
     have hfl:aL sub 0 (aD t l)=bk t l:=by
      have: ∀(cs:List cD) q,(∀c∈cs,∃v,c= .flat v)->aL sub q cs=cs.map aT:=by
       intro cs
       induction cs with
       |nil=>intro q _;rfl
       |cons c r ih=>
        intro q hc
        obtain ⟨v,rfl⟩:=hc c (by simp)
        simp only [aL,List.map_cons]
        rw [ih (q+1) fun c hm=>hc c (by simp [hm])];rfl
      exact this _ 0 fun c hc=>iF hu hc
     obtain ⟨ad,e1,e2,_⟩:=h1 i v (by rw [hfl];exact hv)
     simp only [Cell.af,Value.slice.injEq] at ec
     refine ⟨ad,by rw [<- ec.1,e1],e2,.inl ⟨n,by simp,by simp [dw],?_,by have:=bS.of (by assumption:w.cell? _=some _);rwa [jM] at this⟩⟩
     rcases h4 C5 with ⟨_,h5,_⟩|⟨b,rest,e,h5,h6,_⟩
     ·subst h5;simp [bk,aD] at hv
     ·rw [e1] at h6;cases h6;exact h5
   ·rename_i m s q he
    split at ho
    rotate_left
    ·cases ho
    rename_i t l rk he3
    split at ho
    rotate_left
    ·cases ho
    rename_i C5
    subst C5
    cases ho
    simp only [he,he3] at h
    split at h
    rotate_left
    ·cases h
    rename_i l' hl
    obtain ⟨rfl,rfl⟩:=fJ hl
    cases h
    refine fin _ _ rfl rfl fun aC W ρ Kn Γ w ht hst a cap ec i v hv=> ?_
    have dw:Γ m=some (.row t l 0):=by rw [ht m (by simp),he3]
    obtain ⟨o1,o2,o3,sub,hm⟩:=hst.at_ m _ dw
    obtain ⟨_,p1,p2,p3,p4⟩:=hst.at_ n _ (show Γ n=some (.alias m s q) by rw [ht n (by simp),he])
    have hr:oA w (fun b=>lV ρ Γ w b) (ρ n).base t (oM l s q):=by
     refine oA.part (a:=(ρ m).base) ⟨bk t l,?_,fun i v hv=>hm.ro hu i v hv⟩ s q fun hne=> ?_
     ·have: ∀(cs:List cD),(∀c∈cs,∃v,c= .flat v)→bN (eF w (fun b=>lV ρ Γ w b)) cs (cs.map aT):=by
       intro cs
       induction cs with
       |nil=>intro _;trivial
       |cons c r ih=>
        intro hc
        obtain ⟨v,rfl⟩:=hc c (by simp)
        exact ⟨rfl,ih fun c hm=>hc c (by simp [hm])⟩
      exact this _ fun c hc=>iF hu hc
     ·rw [p4 (by rw [p1,o1];exact hne),o2]
    simp only [Cell.af,Value.slice.injEq] at ec
    obtain ⟨ad,e1,e2,e3⟩:=(hr.nest (c:=(oM l s q).length) hu (Nat.le_refl _)).2.2 i v hv
    exact ⟨ad,by rw [<- ec.1];exact e1,e2,.inr ⟨e3,fun e=>by cases e⟩⟩
   ·cases ho
  ·rename_i n off len cap r1
   split at ho
   rotate_left
   ·cases ho
   cases ho
   dsimp only at h
   split at h
   rotate_left
   ·cases h
   rename_i hc
   simp only [Bool.and_eq_true,decide_eq_true_eq] at hc
   split at h
   rotate_left
   ·cases h
   rename_i cs' e he
   split at h
   rotate_left
   ·cases h
   rename_i l Z0 hl
   cases h
   refine fin _ _ rfl rfl fun aC W ρ Kn Γ w ht hst a cap' ec i v hv=> ?_
   obtain ⟨ys,ey,hy,ha⟩:=hd
   match ys,hy with
   | [y],_=>
    simp only [List.cons_append,List.nil_append,List.cons.injEq] at ey
    obtain ⟨rfl,_⟩:=ey
    obtain ⟨a1,c1,e1,e2,e3⟩:=(ha aC W ρ Kn Γ w ht hst).1
    have dw:Γ n=some (.cells cs' e):=by rw [ht n (by simp),he]
    obtain ⟨b,hb,hh⟩:=hst.at_ n _ dw
    obtain ⟨ad,f1,f2,f3⟩:=(e3.nest (c:=x.length) hu (Nat.le_refl _)).2.2 i v hv
    replace f1:a1=some ad:=f1
    rw [ec] at e1
    simp only [Value.slice.injEq] at e1
    refine ⟨ad,by rw [e1.1,f1],f2,.inl ⟨n,by simp,by simp [dw],?_,by have:=bS.of (by assumption:w.cell? _=some _);rwa [jM] at this⟩⟩
    simp only [Cell.af,addrOf,hb,Option.map_some,Value.slice.injEq] at ec
    rw [e1.1,f1] at ec
    have:=ec.1
    simp only [Option.some.injEq] at this
    rw [<- this,hb]
  ·cases ho
theorem OS {u:Ty} : ∀(n:Nat) (cs:List Cell) (l:List u.T) (tc ns:List Nat) (f:Bool),BM (cN hp u) n cs=some (l,tc)->W7 hp u n cs=some (ns,f)->
  ∃ys r,cs=ys++r/\ ys.length=n*u.size/\ ∀aC W ρ Kn Γ w,(∀m∈tc,Γ m=hp m)->St aC W ρ Kn Γ w->bN (eF w (okN aC W ρ Γ w ns f)) (aD u l) (ys.map (Cell.af ρ))
 |0,cs,l,tc,ns,f,h,ho=>by
  simp only [BM,Option.some.injEq,Prod.mk.injEq] at h
  obtain ⟨rfl,rfl⟩:=h
  exact ⟨[],cs,rfl,by simp,fun _ _ _ _ _ _ _ _=>trivial⟩
 |n+1,cs,l,tc,ns,f,h,ho=>by
  simp only [BM] at h
  split at h
  ·rename_i x r Z0 h1
   split at h
   ·rename_i l1 tc2 h2
    cases h
    simp only [W7] at ho
    split at ho
    ·rename_i n1 f1 q1 o1
     split at ho
     ·rename_i n2 f2 o2
      cases ho
      obtain ⟨rfl,ys,rfl,hy,ha⟩:=Gh u _ _ _ _ _ _ _ h1 o1
      obtain ⟨zs,r2,rfl,hz,hb⟩:=OS n _ _ _ _ _ h2 o2
      refine ⟨ys++zs,r2,by simp,by simp [hy,hz,Nat.succ_mul,Nat.add_comm],fun aC W ρ Kn Γ w ht hst=> ?_⟩
      rw [jb,List.map_append]
      refine ((ha aC W ρ Kn Γ w (fun m hm=>ht m (by simp [hm])) hst).mono (eF.weak fun b hb=>hb.mono (fun m hm=>by simp [hm]) fun e=>by simp at e;exact e.1)).append
       ((hb aC W ρ Kn Γ w (fun m hm=>ht m (by simp [hm])) hst).mono (eF.weak fun b hb=>hb.mono (fun m hm=>by simp [hm]) fun e=>by simp at e;exact e.2))
     ·cases ho
    ·cases ho
   ·cases h
  ·cases h
theorem GV {t:Ty} {yc:Cell} {ys:List t.T} {tc ab:List Nat} {f:Bool} (h:cN hp (.sl t) [yc]=some (ys,[],tc)) (ho:FN hp t (.v (.one yc))=some (ab,f)):
  ∀aC W ρ Kn Γ w,(∀m∈tc,Γ m=hp m)->St aC W ρ Kn Γ w-> ∃a c vals,yc.af ρ= .slice a ys.length c/\ ys.length<=c/\ bN (eF w (okN aC W ρ Γ w ab f)) (aD t ys) vals/\ ∀i v,vals[i]? =some v-> ∃ad,a=some ad/\ w.cell? (ad.add i)=some v:=by
 intro aC W ρ Kn Γ w ht hst
 obtain ⟨zs,ez,hz,ha⟩:=lq hp (.sl t) _ _ _ _ h
 match zs,hz with
 | [z],_=>
 simp only [List.append_nil,List.cons.injEq,and_true] at ez
 subst ez
 obtain ⟨a,c,e1,e2,vals,e3,e4⟩:=(ha aC W ρ Kn Γ w ht hst).1
 have plain: ∀ {ok:Nat->Prop},(∀(q:Nat) (u:Ty) (l':List u.T),(aD t ys)[q]? =some (cD.sl u l')-> ∀(a:Option Addr) (c:Nat),vals[q]? =some (Value.slice a l'.length c)->gF w ok (a,c) u l')-> ∃a c vals,yc.af ρ= .slice a ys.length c/\ ys.length<=c/\ bN (eF w ok) (aD t ys) vals/\ ∀i v,vals[i]? =some v-> ∃ad,a=some ad/\ w.cell? (ad.add i)=some v:=fun {ok} hn=>by
  refine ⟨a,c,vals,e1,e2,?_,fun i v hv=>by obtain ⟨ad,h1,h2,_⟩:=e4 i v hv;exact ⟨ad,h1,h2⟩⟩
  have: ∀(cs:List cD) (vs:List Value),bN (eF w (VQ w)) cs vs->(∀(q:Nat) (u:Ty) (l':List u.T),cs[q]? =some (cD.sl u l')-> ∀(a:Option Addr) (c:Nat),vs[q]? =some (Value.slice a l'.length c)->gF w ok (a,c) u l')->bN (eF w ok) cs vs:=by
   intro cs
   induction cs with
   |nil=>intro vs h _;cases vs<;>first|trivial|exact h.elim
   |cons q r ih=>
    intro vs h hh
    cases vs with
    |nil=>exact h.elim
    |cons v s=>
     refine ⟨?_,ih s h.2 fun q u l' hq a c hv=>hh (q+1) u l' (by simpa using hq) a c (by simpa using hv)⟩
     cases q with
     |flat u=>exact h.1
     |sl u l'=>
      obtain ⟨a,c,e,_⟩:=h.1
      exact ⟨a,c,e,hh 0 u l' rfl a c (by simp [e])⟩
  exact this _ _ e3 hn
 unfold FN at ho
 split at ho
 ·rename_i hf
  cases ho
  exact plain fun q u l' hq=>by
   obtain ⟨v,hv⟩:=iF hf (List.mem_of_getElem? hq)
   cases hv
 ·split at ho
  ·rename_i n off len cap heq
   cases heq
   split at ho
   ·rename_i cs e he
    simp only [cN] at h
    split at h
    ·rename_i hc
     rw [he] at h
     dsimp only at h
     split at h
     ·rename_i l Z0 hl
      cases h
      obtain ⟨zs,r2,hy,hyl,hb⟩:=OS _ _ _ _ _ _ hl ho
      have dw:Γ n=some (.cells cs e):=by rw [ht n (by simp),he]
      obtain ⟨b,hb',hh⟩:=hst.at_ n _ dw
      refine ⟨some ⟨b,off,none⟩,cap,zs.map (Cell.af ρ),?_,?_,hb aC W ρ Kn Γ w (fun m hm=>ht m (by simp [hm])) hst,fun i v hv=>⟨_,rfl,?_⟩⟩
      ·simp only [Cell.af,addrOf,hb',Option.map_some,Value.slice.injEq] at e1 ⊢
       exact ⟨trivial,e1.2.1,trivial⟩
      ·simp only [Cell.af,addrOf,hb',Option.map_some,Value.slice.injEq] at e1
       rw [<- e1.2.2] at e2;exact e2
      ·have e1:(⟨b,off,none⟩:Addr).add i=⟨b,off+i,none⟩:=by unfold Addr.add;split<;>simp_all
       rw [e1,cg hh]
       have e3:(cs.map (Cell.af ρ))[off+i]? =((cs.drop off).map (Cell.af ρ))[i]? :=by rw [List.getElem?_map,List.getElem?_map,List.getElem?_drop]
       rw [e3,hy,List.map_append,List.getElem?_append_left (List.getElem?_eq_some_iff.1 hv).1];exact hv
     ·cases h
    ·cases h
   ·cases ho
  ·rename_i n heq
   cases heq
   have row: ∀(l:List t.T) (rk:Nat) (m:Nat),Γ m=some (.row t l rk)-> ∃sub,(∀i v,(aL sub 0 (aD t l))[i]? =some v-> ∃ad,(ρ m).base=some ad/\ w.cell? (ad.add i)=some v)/\ ∀q u l',(aD t l)[q]? =some (.sl u l')->gF w (fun b=>lV ρ Γ w b/\ (rk=2->VR aC W b)) (sub q) u l':=fun l rk m hm=>by
    obtain ⟨_,_,_,sub,h1,h2,_⟩:=hst.at_ m _ hm
    exact ⟨sub,fun i v hv=>by obtain ⟨ad,a1,a2,_⟩:=h1 i v hv;exact ⟨ad,a1,a2⟩,h2⟩
   split at ho
   ·rename_i t2 l2 rk he
    simp only [cN,he] at h
    split at h
    ·rename_i l' hl
     obtain ⟨rfl,rfl⟩:=fJ hl
     cases h
     obtain ⟨sub,s1,s2⟩:=row _ rk n (by rw [ht n (by simp),he])
     refine plain fun q u l' hq a' c' hv=> ?_
     obtain ⟨ad,h1,h2,_⟩:=e4 q _ hv
     obtain ⟨ad2,g1,g2⟩:=s1 q (nG (sub q) (.sl u l')) (by rw [dJ,hq];simp)
     simp only [Cell.af,Value.slice.injEq] at e1
     rw [e1.1,h1] at g1;cases g1
     rw [h2] at g2
     simp only [nG,Option.some.injEq,Value.slice.injEq,true_and] at g2
     have:=s2 q u l' hq
     rw [show (a',c')=sub q by rw [g2.1,g2.2]]
     refine this.weak fun b hb=> .inr ⟨hb.1,fun e=>hb.2 ?_⟩
     split at ho
     ·assumption
     ·cases ho;cases e
    ·cases h
   ·rename_i m s q0 he
    cases ho
    simp only [cN,he] at h
    split at h
    ·rename_i t2 l2 rk VP
     split at h
     ·rename_i l' hl
      obtain ⟨rfl,rfl⟩:=fJ hl
      cases h
      obtain ⟨sub,s1,s2⟩:=row _ rk m (by rw [ht m (by simp),VP])
      have dw:Γ m=some (.row t2 l2 rk):=by rw [ht m (by simp),VP]
      obtain ⟨o1,o2,_⟩:=hst.at_ m _ dw
      obtain ⟨_,p1,p2,p3,p4⟩:=hst.at_ n _ (show Γ n=some (.alias m s q0) by rw [ht n (by simp),he])
      refine plain fun q u l' hq a' c' hv=> ?_
      obtain ⟨ad,h1,h2,_⟩:=e4 q _ hv
      have hql:=(List.getElem?_eq_some_iff.1 hq).1
      rw [bA,pV] at hql
      have hne:gy l2.length s q0≠0:=by rintro e;rw [e] at hql;omega
      have hq2:(aD t2 l2)[s*t2.size+q]? =some (.sl u l'):=by
       cases q0 with
       |none=>simp only [oM,jc,List.getElem?_drop] at hq;exact hq
       |some z=>
        simp only [oM,kB,jc,List.getElem?_take] at hq
        split at hq
        ·rw [List.getElem?_drop] at hq;exact hq
        ·cases hq
      obtain ⟨ad2,g1,g2⟩:=s1 (s*t2.size+q) (nG (sub (s*t2.size+q)) (.sl u l')) (by rw [dJ,hq2];simp)
      simp only [Cell.af,Value.slice.injEq] at e1
      have hb:=p4 (by rw [p1,o1];exact hne)
      rw [g1,o2,e1.1,h1] at hb
      simp only [Option.map_some,Option.some.injEq] at hb
      rw [hb,eY,g2] at h2
      simp only [nG,Option.some.injEq,Value.slice.injEq,true_and] at h2
      rw [show (a',c')=sub (s*t2.size+q) by rw [<- h2.1,<- h2.2]]
      exact (s2 _ u l' hq2).weak fun b hb=> .inr ⟨hb.1,fun e=>by cases e⟩
     ·cases h
    ·cases h
   ·cases ho
  ·rename_i c0 heq
   cases heq
   cases ho
   simp only [cN,Option.some.injEq,Prod.mk.injEq] at h
   obtain ⟨rfl,_⟩:=h
   exact plain fun q u l' hq=>by simp [aD] at hq
  ·cases ho
theorem xW: ∀ {l:List Nat},xV l=true->l.Nodup
 | [],_=>List.nodup_nil
 |x::r,h=>by
  simp only [xV,Bool.and_eq_true,Bool.not_eq_true',List.contains_eq_mem,decide_eq_false_iff_not] at h
  exact List.nodup_cons.2 ⟨h.1,xW h.2⟩
theorem QN {t t' e e' ty:TypeId} (ht:P.underlying t=some (.slice e)) (ht':P.underlying t'=some (.slice e')) (a:Option Addr) (n c:Nat) (y:Value) (w:World):
  (Builtin.append_ #[t,t'] ty #[.slice a n c,y]).run P w=(Builtin.append_ #[t,t] ty #[.slice a n c,y]).run P w:=by
 simp [Builtin.append_,run_underlying ht,run_underlying ht']
theorem GC (w:World) (t ty e e0:TypeId) (i:TypeInfo) (ht:P.underlying t=some (.slice e)) (hi:P.info? e=some i)
  (g sLen sCap:Nat) (cur:Array Value) (hg:w.heap[g]? =some (.cells cur e0 (0,0)))
  (a:Addr) (m c:Nat) (news:List Value) (hl:news.length=m*i.size) (hnews: ∀j u,news[j]? =some u->w.cell? (a.add j)=some u) (h1: ∀u∈news,u.oneCell'=true)
  (hroom:sLen+m<=sCap) (hfit:sLen*i.size+news.length<=cur.size):
  (Builtin.append_ #[t,t] ty #[.slice (some ⟨g,0,none⟩) sLen sCap,.slice (some a) m c]).run P w=
   .ok (.slice (some ⟨g,0,none⟩) (sLen+m) sCap) (w.setRow g (cur.toList.take (sLen*i.size)++news++cur.toList.drop (sLen*i.size+news.length)).toArray):=by
 have hf:=run_firstCells_some (P:=P) w i.size m a m c news hl hnews
 have hst:=run_storeCells_at P g (sLen*i.size) e0 news 0 cur w hg (by simpa using hfit) h1
 simp only [Nat.add_zero] at hst
 simp [Builtin.append_,run_underlying ht,sizeOf,typeInfo,hi,Builtin.lenOf,hroom,hf,Addr.add_lit,hst]
theorem T5 {w:World} {ok:Nat->Prop} : ∀ {cs:List cD} {vs:List Value},(∀c∈cs,∀v,c= .flat v->v.oneCell'=true)->bN (eF w ok) cs vs-> ∀u∈vs,u.oneCell'=true
 | [],[],_,_,u,hu=>by simp at hu
 |c::r,v::s,hc,h,u,hu=>by
  rcases List.mem_cons.1 hu with rfl|hu
  ·cases c with
   |flat q=>have:u=q:=h.1;subst this;exact hc _ (by simp) _ rfl
   |sl q l=>obtain ⟨a,c,e,_⟩:=h.1;subst e;rfl
  ·exact T5 (fun c hm=>hc c (by simp [hm])) h.2 u hu
 | [],_::_,_,h,_,_=>h.elim
 |_::_,[],_,h,_,_=>h.elim
theorem FP: ∀(t:Ty) (x:t.T) (c:cD),c∈t.aM x-> ∀v,c= .flat v->v.oneCell'=true
 | .int _,x,c,hc,v,e=>by simp [Ty.aM] at hc;rw [hc] at e;cases e;rfl
 | .bool,x,c,hc,v,e=>by simp [Ty.aM] at hc;rw [hc] at e;cases e;rfl
 | .str,x,c,hc,v,e=>by simp [Ty.aM] at hc;rw [hc] at e;cases e;rfl
 | .prod a b,x,c,hc,v,e=>by
  simp only [Ty.aM,List.mem_append] at hc
  rcases hc with hc|hc
  ·exact FP a _ c hc v e
  ·exact FP b _ c hc v e
 | .sl _,x,c,hc,v,e=>by simp [Ty.aM] at hc;rw [hc] at e;cases e
theorem row_one {t:Ty} {l:List t.T} (c:cD) (hc:c∈aD t l): ∀v,c= .flat v->v.oneCell'=true:=by
 obtain ⟨x,_,hx⟩:=List.mem_flatMap.1 hc
 exact FP t x c hx
def yY (vals:List Value) (q:Nat):Option Addr×Nat:=match vals[q]? with
 |some (.slice a _ c)=>(a,c)
 |_=>(none,0)
theorem q8 {w:World} {ok:Nat->Prop} {cs:List cD} {vals:List Value} (h:bN (eF w ok) cs vals):aL (yY vals) 0 cs=vals/\ ∀q u l',cs[q]? =some (.sl u l')->gF w ok (yY vals q) u l':=by
 have hq: ∀q c,cs[q]? =some c->vals[q]? =some (nG (yY vals q) c)/\ ∀u l',c= .sl u l'->gF w ok (yY vals q) u l':=fun q c hc=>by
  obtain ⟨v,hv,hn⟩:=h.get q c hc
  cases c with
  |flat u=>have:v=u:=hn;subst this;exact ⟨hv,fun _ _ e=>by cases e⟩
  |sl u l'=>
   obtain ⟨a,c,rfl,hn⟩:=hn
   have e:yY vals q=(a,c):=by unfold yY;rw [hv]
   rw [e]
   exact ⟨hv,fun _ _ e=>by cases e;exact hn⟩
 refine ⟨?_,fun q u l' hc=>(hq q _ hc).2 u l' rfl⟩
 apply List.ext_getElem?
 intro q
 rw [dJ,Nat.zero_add]
 cases hc:cs[q]? with
 |some c=>exact (hq q c hc).1.symm
 |none=>
  have:=h.length
  rw [List.getElem?_eq_none_iff] at hc
  rw [List.getElem?_eq_none (by omega)];rfl
theorem NQ (w:World) (t ty e:TypeId) (i:TypeInfo) (z:Value) (ht:P.underlying t=some (.slice e)) (hi:P.info? e=some i) (hz:i.zero=some z) (hzs:z.cells.size=i.size) (hby:i.bytes<=128) (hsz:0<i.size)
  (o:Loc) (n:Nat) (vals:List Value) (hv:vals.length=n*i.size) (ho:o.len=n)
  (hown:(o.bR=none/\ n=0/\ o.cap=0/\ o.base=none)\/ ∃b rest e0,o.bR=some b/\ o.base=some ⟨b,0,none⟩/\ w.heap[b]? =some (.cells (vals++rest).toArray e0 (0,0))/\ o.cap*i.size=(vals++rest).length/\ o.cap<=9223372036854775807) (hcap:n<=o.cap)
  (a:Option Addr) (m c:Nat) (news:List Value) (hl:news.length=m*i.size) (hnews: ∀j u,news[j]? =some u-> ∃ad,a=some ad/\ w.cell? (ad.add j)=some u) (h1: ∀u∈news,u.oneCell'=true) (hb:n+m<1099511627776):
  ∃(o':Loc) (w':World),(Builtin.append_ #[t,t] ty #[.slice o.base o.len o.cap,.slice a m c]).run P w= .ok (.slice o'.base o'.len o'.cap) w'/\ o'.len=n+m/\ n+m<=o'.cap/\
   (∀aC W,Fr aC W w->(∀b,o.bR=some b->W.heap.size<=b\/ aC b)->Fr aC W w')/\ (∀b,b<w.heap.size->o'.bR≠some b->w'.heap[b]? =w.heap[b]?)/\ (∀b,o'.bR=some b->b=w.heap.size\/ o.bR=some b)/\
   ((o'.bR=none/\ n+m=0/\ o'.cap=0/\ o'.base=none)\/ ∃b rest e0,o'.bR=some b/\ o'.base=some ⟨b,0,none⟩/\ w'.heap[b]? =some (.cells (vals++news++rest).toArray e0 (0,0))/\ o'.cap*i.size=(vals++news++rest).length/\ o'.cap<=9223372036854775807):=by
 have hbytes:(n+m)*i.bytes<=140737488355328:=by
  have:=Nat.mul_le_mul (show n+m<=1099511627776 by omega) hby
  omega
 have h63:n+m<=maxLen:=by simp only [maxLen];omega
 by_cases hm:m=0/\ a=none
 ·obtain ⟨rfl,rfl⟩:=hm
  have hn:news= []:=List.eq_nil_of_length_eq_zero (by simpa using hl)
  subst hn
  refine ⟨o,w,?_,ho,hcap,fun _ _ h _=>h,fun _ _ _=>rfl,fun b hb=> .inr hb,?_⟩
  ·rw [ho]
   have hc: ¬(o.cap<n):=by omega
   rcases hown with ⟨_,rfl,h3,h4⟩|⟨b,rest,e0,_,h4,_⟩
   ·rw [h3,h4];simp [Builtin.append_,run_underlying ht,sizeOf,typeInfo,hi,Builtin.lenOf,Builtin.firstCells]
   ·rw [h4];simp [Builtin.append_,run_underlying ht,sizeOf,typeInfo,hi,Builtin.lenOf,Builtin.firstCells,hcap,storeCells]
  ·rcases hown with h|⟨b,rest,e0,h2,h3,h4,h5⟩
   ·exact .inl h
   ·exact .inr ⟨b,rest,e0,h2,h3,by simpa using h4,by simpa using h5.1,h5.2⟩
 ·obtain ⟨ad,rfl⟩: ∃ad,a=some ad:=by
   cases a with
   |some ad=>exact ⟨ad,rfl⟩
   |none=>
    have hm0:m≠0:=fun e=>hm ⟨e,rfl⟩
    have hp:0<news.length:=by rw [hl];exact Nat.mul_pos (by omega) hsz
    obtain ⟨ad,h,_⟩:=hnews 0 _ (List.getElem?_eq_getElem hp)
    cases h
  have Ws: ∀j u,news[j]? =some u->w.cell? (ad.add j)=some u:=fun j u hj=>by
   obtain ⟨ad',h,h'⟩:=hnews j u hj
   cases h;exact h'
  rcases hown with ⟨h2,rfl,h3,h4⟩|⟨b,rest,e0,h2,h3,h4,h5⟩
  ·have hv0:vals= []:=List.eq_nil_of_length_eq_zero (by simpa using hv)
   subst hv0
   by_cases hm0:m=0
   ·subst hm0
    have hn:news= []:=List.eq_nil_of_length_eq_zero (by simpa using hl)
    subst hn
    refine ⟨o,w,?_,ho,hcap,fun _ _ h _=>h,fun _ _ _=>rfl,fun b hb=> .inr hb,.inl ⟨h2,rfl,h3,h4⟩⟩
    rw [ho,h3,h4]
    simp [Builtin.append_,run_underlying ht,sizeOf,typeInfo,hi,Builtin.lenOf,Builtin.firstCells,loadCells,loadCellsFrom]
   ·have hr:=run_append_nil (P:=P) w t ty e i z ht hi hz ad m c news hl Ws (by omega) (by omega) (by simp only [Nat.zero_add] at hbytes;omega)
    have hge:=grownCap_ge w m 0 e
    refine ⟨{bR:=some w.heap.size,base:=some ⟨w.heap.size,0,none⟩,len:=m,cap:=grownCap w m 0 e},w.drew.alloc (.cells (news.toArray++Builtin.zeroCells z.cells (grownCap w m 0 e- m)) e),?_,by simp,by simpa using hge,fun aC W hf _=>Fr.alloc (w:=w.drew) ⟨hf.os,hf.tape,hf.output,hf.size,hf.block⟩ _,fun b hb _=>Below.heap_alloc w.drew _ b hb,fun b hb=>by cases hb;exact .inl rfl,.inr ⟨w.heap.size,(Builtin.zeroCells z.cells (grownCap w m 0 e- m)).toList,e,rfl,rfl,?_,?_⟩⟩
    ·rw [ho,h3,h4];exact hr
    ·rw [show (([]:List Value)++news++(Builtin.zeroCells z.cells (grownCap w m 0 e- m)).toList).toArray=news.toArray++Builtin.zeroCells z.cells (grownCap w m 0 e- m) by apply Array.ext';simp]
     exact heap_alloc_new w.drew _
    ·refine ⟨?_,grownCap_le_maxLen w m 0 e (by omega)⟩
     simp only [List.nil_append,List.length_append,Array.length_toList,size_zeroCells,hzs,hl,<- Nat.add_mul]
     congr 1;omega
  ·by_cases hroom:n+m≤o.cap
   ·have hfit:n*i.size+news.length≤(vals++rest).toArray.size:=by
     rw [List.size_toArray,<- h5.1,hl,<- Nat.add_mul];exact Nat.mul_le_mul_right _ hroom
    have hr:=GC (P:=P) w t ty e e0 i ht hi b n o.cap _ h4 ad m c news hl Ws h1 hroom hfit
    have e1:(vals++rest).take (n*i.size)=vals:=by rw [<- hv];exact List.take_left
    have e2:(vals++rest).drop (n*i.size+news.length)=rest.drop news.length:=by rw [<- hv,List.drop_append,List.drop_of_length_le (by omega),List.nil_append];congr 1;omega
    simp only [e1,e2] at hr
    refine ⟨{o with len:=n+m},_,?_,rfl,hroom,fun aC W hf hp=>hf.setRow (hp b h2) _,fun k hk hne=>setRow_other w b k _ (by rintro rfl;exact hne h2),fun b hb=> .inr hb,.inr ⟨b,rest.drop news.length,e0,h2,h3,setRow_heap w b _ _ e0 _ h4,?_⟩⟩
    ·rw [ho,h3];exact hr
    ·refine ⟨?_,h5.2⟩
     show o.cap*i.size=_
     rw [h5.1]
     simp only [List.length_append,List.length_drop]
     rw [List.size_toArray,List.length_append] at hfit
     omega
   ·have holds: ∀j u,vals[j]? =some u→w.cell? ((⟨b,0,none⟩:Addr).add j)=some u:=fun j u hj=>by
     have e1:(⟨b,0,none⟩:Addr).add j=⟨b,j,none⟩:=by unfold Addr.add;split<;>simp_all
     rw [e1,cg h4,List.getElem?_append_left (List.getElem?_eq_some_iff.1 hj).1];exact hj
    have hr:=run_append_grow (P:=P) w t ty e i z ht hi hz ⟨b,0,none⟩ n o.cap vals hv holds ad m c news hl Ws (by omega) (by omega) (growslice_fits (by omega) hbytes)
    have hge:=grownCap_ge w (n+m) o.cap e
    refine ⟨{bR:=some w.heap.size,base:=some ⟨w.heap.size,0,none⟩,len:=n+m,cap:=grownCap w (n+m) o.cap e},w.drew.alloc (.cells (vals.toArray++news.toArray++Builtin.zeroCells z.cells (grownCap w (n+m) o.cap e- (n+m))) e),?_,rfl,hge,fun aC W hf _=>Fr.alloc (w:=w.drew) ⟨hf.os,hf.tape,hf.output,hf.size,hf.block⟩ _,fun b hb _=>Below.heap_alloc w.drew _ b hb,fun b hb=>by cases hb;exact .inl rfl,.inr ⟨w.heap.size,(Builtin.zeroCells z.cells (grownCap w (n+m) o.cap e- (n+m))).toList,e,rfl,rfl,?_,?_⟩⟩
    ·rw [ho,h3];exact hr
    ·rw [show (vals++news++(Builtin.zeroCells z.cells (grownCap w (n+m) o.cap e- (n+m))).toList).toArray=vals.toArray++news.toArray++Builtin.zeroCells z.cells (grownCap w (n+m) o.cap e- (n+m)) by apply Array.ext';simp]
     exact heap_alloc_new w.drew _
    ·refine ⟨?_,grownCap_le_maxLen w (n+m) o.cap e (by omega)⟩
     simp only [List.length_append,Array.length_toList,size_zeroCells,hzs,hl,hv,<- Nat.add_mul]
     congr 1;omega
theorem QL {i:Option Ty} {x:AV} {kk:(t:Ty)->List t.T->Nat->List Nat->Prop} (h:QK i x hp kk): ∃t l rk gone,kk t l rk gone/\ rk≠0/\
  ((x= .v (.one (.raw (.slice none 0 0)))/\ l= []/\ gone= [])\/ ∃n,x= .v (.one (.full n))/\ gone= [n]/\ hp n=some (.row t l rk)):=by
 unfold QK at h
 split at h
 ·split at h
  ·exact ⟨_,[],2,[],h,by decide,.inl ⟨rfl,rfl,rfl⟩⟩
  ·exact h.elim
 ·rename_i n
  split at h
  ·rename_i t l rk he
   split at h
   ·exact h.elim
   ·rename_i C5
    exact ⟨t,l,rk,[n],h,C5,.inr ⟨n,rfl,rfl,he⟩⟩
  ·exact h.elim
 ·exact h.elim
theorem KF {ns:List Nat} {m:Nat} :dP (ns.map fun n=>(n,aX.gone)) m=if m∈ns then some .gone else none:=by
 induction ns with
 |nil=>simp [dP]
 |cons a r ih=>
  simp only [List.map_cons,dP,ih,List.mem_cons]
  by_cases h1:m∈r
  ·simp [h1]
  ·by_cases h2:a=m
   ·subst h2;simp [h1]
   ·simp [h1,h2,Ne.symm h2]
theorem Gg: ∀(t:Ty) (cs r:List Cell) (ns:List Nat) (f:Bool),B6 hp t cs=some (ns,f,r)-> ∀n,n∈ns->hp n≠none
 | .int _,cs,r,ns,f,h,n,hn=>by
  simp only [B6] at h
  split at h<;>cases h;simp at hn
 | .bool,cs,r,ns,f,h,n,hn=>by
  simp only [B6] at h
  split at h<;>cases h;simp at hn
 | .str,cs,r,ns,f,h,n,hn=>by
  simp only [B6] at h
  split at h<;>cases h;simp at hn
 | .prod a b,cs,r,ns,f,h,n,hn=>by
  simp only [B6] at h
  split at h
  ·rename_i h1
   split at h
   ·rename_i h2
    cases h
    rcases List.mem_append.1 hn with hn|hn
    ·exact Gg a _ _ _ _ h1 n hn
    ·exact Gg b _ _ _ _ h2 n hn
   ·cases h
  ·cases h
 | .sl u,cs,r,ns,f,h,n,hn=>by
  simp only [B6] at h
  split at h
  ·split at h
   ·cases h;simp at hn
   ·split at h
    ·rename_i he
     split at h
     ·cases h;simp at hn
     ·cases h;simp at hn;subst hn;rw [he];simp
    ·split at h
     ·split at h<;>cases h
      simp at hn
     ·cases h
    ·cases h
   ·split at h
    ·rename_i he
     cases h;simp at hn;subst hn;rw [he];simp
    ·cases h
   ·cases h
  ·cases h
theorem OR {t:Ty} : ∀(k:Nat) (cs:List Cell) (ns:List Nat) (f:Bool),W7 hp t k cs=some (ns,f)-> ∀n,n∈ns->hp n≠none
 |0,cs,ns,f,h,n,hn=>by simp only [W7,Option.some.injEq,Prod.mk.injEq] at h;rw [<- h.1] at hn;simp at hn
 |k+1,cs,ns,f,h,n,hn=>by
  simp only [W7] at h
  split at h
  ·rename_i h1
   split at h
   ·rename_i h2
    cases h
    rcases List.mem_append.1 hn with hn|hn
    ·exact Gg t _ _ _ _ h1 n hn
    ·exact OR k _ _ _ h2 n hn
   ·cases h
  ·cases h
theorem SZ {t:Ty} {y:AV} {ab:List Nat} {f:Bool} (h:FN hp t y=some (ab,f)): ∀n,n∈ab->hp n≠none:=by
 intro n hn
 unfold FN at h
 split at h
 ·cases h;simp at hn
 ·split at h
  ·split at h
   ·exact OR _ _ _ _ h n hn
   ·cases h
  ·split at h
   ·split at h<;>cases h<;>simp at hn
   ·cases h;simp at hn
   ·cases h
  ·cases h;simp at hn
  ·cases h
theorem S1 (hT:aW P ctx.tt) {t t' e e' ty:TypeId} {ei:TI} (ht:P.underlying t=some (.slice e)) (ht':P.underlying t'=some (.slice e')) (mW:aJ ctx.tt e=some ei) {x y:AV} (h:QM x y ei hp nm k):
  ∃r,aS P ctx.X hp nm (fun Kn=>x.ok Kn/\ y.ok Kn) (fun ρ=>Builtin.append_ #[t,t'] ty #[x.af ρ,y.af ρ]) (fun ρ=>r.val.af ρ) r/\ k r:=by
 unfold QM at h
 obtain ⟨u,l,rk,gone,hq,C5,hx⟩:=QL h
 clear h
 have h:=hq
 clear hq
 split at h
 rotate_left
 ·exact h.elim
 rename_i hc
 obtain ⟨hsz,hby,hz0⟩:=hc
 split at h
 rotate_left
 ·exact h.elim
 rename_i yc
 split at h
 rotate_left
 ·exact h.elim
 rename_i ys tc hys
 split at h
 rotate_left
 ·exact h.elim
 rename_i ab f hab
 split at h
 rotate_left
 ·exact h.elim
 rename_i Tt
 have Tt:=xW Tt
 obtain ⟨hlen,h⟩:=cl h
 have hlen:=of_decide_eq_true hlen
 have hgl: ∀n,n∈gone-> ∃rk,hp n=some (.row u l rk):=fun n hn=>by
  rcases hx with ⟨_,_,rfl⟩|⟨m,_,rfl,he⟩
  ·simp at hn
  ·simp at hn;subst hn;exact ⟨_,he⟩
 have amO: ∀n,n∈ab->hp n≠none:=SZ hab
 refine ⟨_,⟨fun p m6=> ?_,?_⟩,h⟩
 ·obtain ⟨n,hn,rfl⟩:=List.mem_map.1 m6
  rcases List.mem_append.1 hn with hn|hn
  ·obtain ⟨_,e⟩:=hgl n hn;rw [e];simp
  ·exact amO n hn
 intro aC W ρ Kn Γ w _ hk kI hfr hst
 have hn: ¬Kn nm:=by simpa using hfr 0 (by simp)
 obtain ⟨inf,hi,IT,alj,hiz,_⟩:=(hT e ei mW).2.2
 have hz:ei.zero.cells.size=inf.size:=by rw [IT,<- hz0];simp [kj]
 obtain ⟨a,c,news,ey,hyc,hnews,hcell⟩:=GV hys hab aC W ρ Kn Γ w (fun m hm=>kI m (by simp [hm])) hst
 have hnl:news.length=ys.length*inf.size:=by rw [<- hnews.length,bA,IT,hsz]
 have hold: ∃(o:Loc) (sub:Nat->Option Addr×Nat),x.af ρ= .slice o.base o.len o.cap/\ o.len=l.length/\ l.length<=o.cap/\
   ((o.bR=none/\ l.length=0/\ o.cap=0/\ o.base=none)\/ ∃b rest e0,o.bR=some b/\ o.base=some ⟨b,0,none⟩/\ w.heap[b]? =some (.cells (aL sub 0 (aD u l)++rest).toArray e0 (0,0))/\ o.cap*inf.size=(aL sub 0 (aD u l)++rest).length/\ o.cap<=9223372036854775807)/\
   (∀q u' l',(aD u l)[q]? =some (.sl u' l')->gF w (fun b=>lV ρ Γ w b/\ (rk=2->VR aC W b)) (sub q) u' l')/\ ∀b,o.bR=some b-> ∃g,g∈gone/\ (Γ g).isSome=true/\ (ρ g).bR=some b:=by
  rcases hx with ⟨rfl,rfl,rfl⟩|⟨n,rfl,rfl,he⟩
  ·exact ⟨{},fun _=>(none,0),rfl,rfl,Nat.le_refl _,.inl ⟨rfl,rfl,rfl,rfl⟩,fun q u' l' hq=>by simp [aD] at hq,fun b hb=>by cases hb⟩
  ·have dw:Γ n=some (.row u l rk):=by rw [kI n (by simp),he]
   obtain ⟨o1,o2,o3,sub,m1,m2,m3,m4⟩:=hst.at_ n _ dw
   refine ⟨ρ n,sub,rfl,o1,o3,?_,m2,fun b hb=>⟨n,by simp,by simp [dw],hb⟩⟩
   rcases m4 C5 with ⟨h1,h2,h3,h4⟩|⟨b,rest,e0,h1,h2,h3,h4⟩
   ·exact .inl ⟨h1,by simp [h2],h3,h4⟩
   ·exact .inr ⟨b,rest,e0,h1,h2,h3,by rw [IT,hsz];exact h4⟩
 obtain ⟨o,sub,ex,ol,oc,anN,al1,ajV⟩:=hold
 have hvl:(aL sub 0 (aD u l)).length=l.length*inf.size:=by rw [bM,bA,IT,hsz]
 obtain ⟨o',w',hrun,e1,e2,e3,e4,e5,e6⟩:=NQ (P:=P) (ty:=ty) w t e inf ei.zero ht hi hiz hz (by omega) (by rw [IT];exact (hT e ei mW).2.1) o l.length _ hvl ol anN oc a ys.length c news hnl hcell
  (T5 (fun c hc=>row_one c hc) hnews) hlen
 have hown: ∀b,o.bR=some b->W.heap.size<=b\/ aC b:=fun b hb=>by
  obtain ⟨g,_,h2,h3⟩:=ajV b hb
  exact hst.own g b h2 h3
 have amZ:=e3 aC W hst.fr hown
 let x':Loc:= {o' with es:=u.size,BR:= []}
 have hx':b9 ρ nm x' nm=x':=by simp [b9]
 have w5: ∀b,o'.bR=some b->(w.heap.size<=b\/ ∃g,g∈gone++ab/\ (Γ g).isSome=true/\ (ρ g).bR=some b)/\ (W.heap.size<=b\/ aC b):=fun b hb=>by
  rcases e5 b hb with rfl|h1
  ·exact ⟨.inl (Nat.le_refl _),.inl hst.fr.size⟩
  ·obtain ⟨g,h2,h3,h4⟩:=ajV b h1
   exact ⟨.inr ⟨g,by simp [h2],h3,h4⟩,hown b h1⟩
 refine ⟨b9 ρ nm x',w',?_,pc hn,.inr (by simp),?_⟩
 ·show (Builtin.append_ #[t,t'] ty #[x.af ρ,yc.af ρ]).run P w= .ok (.slice (b9 ρ nm x' nm).base (b9 ρ nm x' nm).len (b9 ρ nm x' nm).cap) w'
  rw [hx',ex,ey,QN ht ht'];exact hrun
 ·rw [show tP Kn nm {val:=AV.v (.one (.full nm)),fresh:= [aX.row u (l++ys) (if f then rk else 1)],writes:=(gone++ab).map fun n=>(n,.gone),aO:=gone++ab++tc} =YY Kn nm by
   funext m;simp only [tP,YY,List.length_singleton];congr 1;apply propext;omega]
  refine hst.swap (G:=gone++ab) (o:=aX.row u (l++ys) (if f then rk else 1)) (x:=x') hn amZ (fun b hb hne=>e4 b hb hne) w5 (fun m p hp=> ?_) trivial (fun _ h=>by cases h) fun hfz Tq=> ?_
  ·simp only [dO,List.length_singleton,KF] at hp
   by_cases h1:nm<=m/\ m<nm+1
   ·rw [if_pos h1,show m- nm=0 by omega] at hp
    simp only [List.getElem?_cons_zero,live,Option.some.injEq] at hp
    exact .inl ⟨by omega,hp.symm⟩
   ·rw [if_neg h1] at hp
    by_cases h2:m∈gone++ab
    ·rw [if_pos h2] at hp;cases hp
    ·rw [if_neg h2] at hp
     exact .inr ⟨by omega,h2,hp⟩
  ·rw [dF,hx']
   have alc:bN (eF w' (fun b=>lV (b9 ρ nm x') (dO {val:=AV.v (.one (.full nm)),fresh:= [aX.row u (l++ys) (if f then rk else 1)],writes:=(gone++ab).map fun n=>(n,.gone),aO:=gone++ab++tc} nm Γ) w' b/\ ((if f then rk else 1)=2->VR aC W b))) (aD u (l++ys)) (aL sub 0 (aD u l)++news):=by
    rw [pD]
    refine bN.append ?_ (hnews.mono fun c v hcv=> ?_)
    ·have: ∀(cs:List cD) (q:Nat),(∀i u' l',cs[i]? =some (cD.sl u' l')→gF w (fun b=>lV ρ Γ w b∧(rk=2→VR aC W b)) (sub (q+i)) u' l')→bN (eF w' (fun b=>lV (b9 ρ nm x') (dO {val:=AV.v (.one (.full nm)),fresh:= [aX.row u (l++ys) (if f then rk else 1)],writes:=(gone++ab).map fun n=>(n,.gone),aO:=gone++ab++tc} nm Γ) w' b∧((if f then rk else 1)=2→VR aC W b))) cs (aL sub q cs):=by
      intro cs
      induction cs with
      |nil=>intro q _;trivial
      |cons c r ih=>
       intro q hcq
       refine ⟨?_,ih (q+1) fun i u' l' hi=>by
        have:=hcq (i+1) u' l' (by simpa using hi)
        rwa [show q+(i+1)=q+1+i by omega] at this⟩
       cases c with
       |flat v=>rfl
       |sl u' l'=>
        refine ⟨_,_,rfl,(hcq 0 u' l' rfl).mono fun b hb=>⟨⟨(hfz b hb.1).1,fun e=>hb.2 ?_⟩,(hfz b hb.1).2⟩⟩
        cases f with
        |true=>simpa using e
        |false=>simp at e
     exact this _ 0 fun i u' l' hi=>by simpa using al1 i u' l' hi
    ·cases c with
     |flat v0=>exact hcv
     |sl u' l'=>
      obtain ⟨a',c',rfl,hn'⟩:=hcv
      refine ⟨a',c',rfl,hn'.mono fun b hb=> ?_⟩
      rcases hb with ⟨m,h1,h2,h3,h4c⟩|⟨h1,h2⟩
      ·have lX:b<w.heap.size:=by
        obtain ⟨p,hp⟩:=Option.isSome_iff_exists.1 h2
        exact KV (hst.at_ m p hp) h3
       have kH:o'.bR≠some b:=fun e=>by
        rcases e5 b e with rfl|h5
        ·omega
        ·obtain ⟨g,g1,g2,g3⟩:=ajV b h5
         have:=hst.inj g m b g2 h2 g3 h3
         subst this
         exact (List.nodup_append.1 Tt).2.2 g g1 g h1 rfl
       exact ⟨⟨Tq m b (by simp [h1]) h2 h3 kH h4c (fun hh=>(hst.F5 b hh).2 ⟨m,h2,.inl h3⟩),fun _=>(hst.own m b h2 h3).imp_right .inl⟩,e4 b lX kH⟩
      ·refine ⟨⟨(hfz b h1).1,fun e=>h2 ?_⟩,(hfz b h1).2⟩
       cases f with
       |true=>rfl
       |false=>simp at e
   obtain ⟨s1,s2⟩:=q8 alc
   have alC:(if f then rk else 1)≠0:=by split<;>simp_all
   refine ⟨by simp [x',e1],rfl,by simpa [x'] using e2,yY (aL sub 0 (aD u l)++news),fun i v hv=> ?_,s2,fun e=>absurd e alC,fun _=> ?_⟩
   ·rw [s1] at hv
    rcases e6 with ⟨_,h2,_⟩|⟨b,rest,e0,h1,h2,h3,_⟩
    ·have:=(List.getElem?_eq_some_iff.1 hv).1
     rw [List.length_append,hvl,hnl,<- Nat.add_mul,h2] at this;omega
    ·refine ⟨_,h2,?_,fun e=>absurd e alC⟩
     have e1:(⟨b,0,none⟩:Addr).add i=⟨b,i,none⟩:=by unfold Addr.add;split<;>simp_all
     rw [e1,cg h3,List.getElem?_append_left (List.getElem?_eq_some_iff.1 hv).1];exact hv
   ·rw [s1]
    rcases e6 with ⟨h1,h2,h3,h4⟩|⟨b,rest,e0,h1,h2,h3,h4⟩
    ·exact .inl ⟨h1,List.eq_nil_of_length_eq_zero (by simpa using h2),h3,h4⟩
    ·exact .inr ⟨b,rest,e0,h1,h2,h3,by rw [IT,hsz] at h4;exact h4⟩
theorem St.none (w:World) (ρ:Env):St W3 w ρ (fun _=>False) (fun _=>none) w:=
 ⟨Fr.refl _ _,fun n o h=>(by cases h),fun n o h=>(by cases h),fun n m b h=>(by cases h),fun n b h=>(by cases h),fun b ⟨m,S,h,_⟩=>(by cases h),fun n o h=>(by cases h)⟩
theorem QF {t:Ty} {z:t.T} {v:Value} {tc:List Nat} (hf:t.flat=true) (h:cN (fun _=>none) t (kj v)=some (z,[],tc)) (w:World):v.cells.toList=(t.aM z).map aT:=by
 obtain ⟨ys,e,_,ha⟩:=lq _ t _ _ _ _ h
 have:=ha W3 w (fun _=> {}) (fun _=>False) (fun _=>none) w (fun _ _=>rfl) (St.none w _)
 rw [List.append_nil] at e
 rw [<- e,kj,Jk] at this
 have key: ∀(cs:List cD) (vs:List Value),(∀c∈cs,∃v,c= .flat v)->bN (IK w (VQ w)) cs vs->vs=cs.map aT:=by
  intro cs
  induction cs with
  |nil=>intro vs _ h;cases vs<;>first|rfl|exact h.elim
  |cons c r ih=>
   intro vs hc h
   cases vs with
   |nil=>exact h.elim
   |cons v s=>
    obtain ⟨u,rfl⟩:=hc c (by simp)
    have h1:v=u:=h.1
    rw [h1,ih s (fun c hm=>hc c (by simp [hm])) h.2];rfl
 exact key _ _ (fun c hc=>fW hf hc) this
theorem CW (t:Ty) (z:t.T): ∀n,bk t (List.replicate n z)=(List.replicate n ((t.aM z).map aT)).flatten
 |0=>by simp [bk,aD]
 |n+1=>by
  have:=CW t z n
  simp only [bk] at this ⊢
  rw [List.replicate_succ,jb,List.map_append,this,List.replicate_succ,List.flatten_cons]
theorem Pk (l:List Value) (d:Value) (hl:0<l.length): ∀n,(List.range (n*l.length)).map (fun i=>l.getD (i % l.length) d)=(List.replicate n l).flatten
 |0=>by simp
 |n+1=>by
  rw [Nat.succ_mul,List.range_add,List.map_append,Pk l d hl n,List.replicate_succ',List.flatten_append]
  congr 1
  apply List.ext_getElem?
  intro j
  simp only [List.map_map,List.getElem?_map,List.flatten_cons,List.flatten_nil,List.append_nil]
  rcases Nat.lt_or_ge j l.length with hj|hj
  ·rw [List.getElem?_range hj]
   simp only [Option.map_some,Function.comp]
   rw [Nat.mul_comm,Nat.mul_add_mod,Nat.mod_eq_of_lt hj,List.getD,List.getElem?_eq_getElem hj];rfl
  ·rw [List.getElem?_eq_none (by simpa using hj),List.getElem?_eq_none hj];rfl
theorem LA (f:Nat->Value):(Array.range 0).map f= #[]:=by apply Array.ext';simp [Array.toList_range]
theorem xL (hT:aW P ctx.tt) {t:TypeId} {i:TI} (ht:aJ ctx.tt t=some i) {x y:AV} (h:m9 ctx i x y nm k):
  ∃r,aS P ctx.X hp nm (fun _=>True) (fun ρ=>Instr.makeSlice t (x.af ρ) (y.af ρ)) (fun ρ=>r.val.af ρ) r/\ k r:=by
 unfold m9 at h
 split at h
 rotate_left
 ·exact h.elim
 rename_i d e n c hd
 split at h
 rotate_left
 ·exact h.elim
 rename_i ei mW
 split at h
 rotate_left
 ·exact h.elim
 rename_i u hu
 split at h
 rotate_left
 ·exact h.elim
 rename_i hc
 obtain ⟨hf,hsz,hby,hz0⟩:=hc
 split at h
 rotate_left
 ·exact h.elim
 rename_i z tcz hz
 obtain ⟨hb,h⟩:=cl h
 simp only [Bool.and_eq_true,decide_eq_true_eq] at hb
 obtain ⟨⟨hn0,hnc⟩,apk⟩:=hb
 have hcl:c<(1099511627776:Int):=by omega
 refine ⟨_,⟨fun p hp=>absurd hp (by simp),?_⟩,h⟩
 intro aC W ρ Kn Γ w _ _ _ hfr hst
 have hn: ¬Kn nm:=by simpa using hfr 0 (by simp)
 obtain ⟨inf,hi,IT,alj,hiz,_⟩:=(hT e ei mW).2.2
 have hpos:=(hT e ei mW).2.1
 have hzv:=QF hf hz w
 have hzs:ei.zero.cells.size=ei.size:=by rw [<- hz0];simp [kj]
 have hut:P.underlying t=some (.slice e):=by rw [(hT t i ht).1,hd]
 have wr: ∀q:Int,0<=q->q<1099511627776->IntKind.i64.wrap q=q:=fun q h1 h2=>by rw [IntKind.wrap_i64];omega
 let cells:Array Value:=(Array.range (c.toNat*inf.size)).map (ei.zero.cells[· % ei.zero.cells.size]!)
 have Wp:cells.toList=(List.replicate c.toNat ei.zero.cells.toList).flatten:=by
  have:=Pk ei.zero.cells.toList default (by rw [Array.length_toList,hzs];exact hpos) c.toNat
  rw [<- this]
  simp only [cells,Array.toList_map,Array.toList_range,Array.length_toList,hzs,IT]
  refine List.map_congr_left fun j _=> ?_
  rw [List.getD,Array.getElem?_toList,getElem!_def]
  cases ei.zero.cells[j % ei.size]? <;>rfl
 have hrun:(Instr.makeSlice t (.int .i64 n) (.int .i64 c)).run P w= .ok (.slice (some ⟨w.heap.size,0,none⟩) n.toNat c.toNat) (w.alloc (.cells cells e (0,0))):=by
  have lX:(inf.bytes:Int)*c<=281474976710656:=by
   have h1:(inf.bytes:Int)*c<=128*c:=Int.mul_le_mul_of_nonneg_right (by omega) (by omega)
   omega
  have t1: ¬(281474976710656:Int)<(inf.bytes:Int)*c:=by omega
  have t2: ¬(c<0):=by omega
  have t3: ¬(n<0):=by omega
  have t4: ¬(c<n):=by omega
  have wn:=wr n hn0 (by omega)
  have wc:=wr c (by omega) hcl
  have hp2:inf.size≠0:=by omega
  by_cases hc0:c<=0
  ·obtain rfl:c=0:=by omega
   obtain rfl:n=0:=by omega
   have e0:cells= #[]:=by simp [cells]
   rw [e0]
   simp [Instr.makeSlice,run_underlying hut,asInt,asIntOf,typeInfo,hi,wc,sizeOf,newRow]
   rw [LA]
  ·simp [Instr.makeSlice,run_underlying hut,asInt,asIntOf,typeInfo,hi,wn,wc,t1,t2,t3,t4,sizeOf,zeroValue,hiz,hc0,hp2,newRow,cells]
   intro h0;rw [h0,LA,LA]
 let x':Loc:= {bR:=some w.heap.size,base:=some ⟨w.heap.size,0,none⟩,len:=n.toNat,cap:=c.toNat,es:=u.size}
 have hx':b9 ρ nm x' nm=x':=by simp [b9]
 refine ⟨b9 ρ nm x',w.alloc (.cells cells e (0,0)),?_,pc hn,.inr (by simp),?_⟩
 ·show (Instr.makeSlice t (.int .i64 n) (.int .i64 c)).run P w= .ok (.slice (b9 ρ nm x' nm).base (b9 ρ nm x' nm).len (b9 ρ nm x' nm).cap) _
  rw [hx'];exact hrun
 ·rw [Df]
  have ea:dO {val:= .v (.one (.full nm)),fresh:= [.row u (List.replicate n.toNat z) 2]} nm Γ=eX Γ nm (.row u (List.replicate n.toNat z) 2):=by
   funext q;simp only [dO,eX,List.length_singleton,dP]
   by_cases h:q=nm
   ·subst h;simp [live]
   ·have: ¬(nm≤q∧q<nm+1):=by omega
    simp [h,this]
  rw [ea]
  refine hst.swap (G:= []) (o:= .row u (List.replicate n.toNat z) 2) (x:=x') hn (hst.fr.alloc _) (fun b hb _=>Below.heap_alloc _ _ _ hb) (fun b hb=>by cases hb;exact ⟨.inl (Nat.le_refl _),.inl hst.fr.size⟩) (fun m p hp=> ?_) trivial (fun _ h=>by cases h) fun _ _=> ?_
  ·unfold eX at hp
   split at hp
   ·rename_i e1;cases hp;exact .inl ⟨e1,rfl⟩
   ·rename_i e1;exact .inr ⟨e1,by simp,hp⟩
  ·rw [dF,hx']
   have hfl:aL (fun _=>(none,0)) 0 (aD u (List.replicate n.toNat z))=bk u (List.replicate n.toNat z):=by
    have: ∀(cs:List cD) q,(∀c∈cs,∃v,c= .flat v)->aL (fun _=>(none,0)) q cs=cs.map aT:=by
     intro cs
     induction cs with
     |nil=>intro q _;rfl
     |cons c r ih=>
      intro q hc
      obtain ⟨v,rfl⟩:=hc c (by simp)
      simp only [aL,List.map_cons]
      rw [ih (q+1) fun c hm=>hc c (by simp [hm])];rfl
    exact this _ 0 fun c hc=>iF hf hc
   have adS:cells.toList=bk u (List.replicate n.toNat z)++(List.replicate (c.toNat- n.toNat) ei.zero.cells.toList).flatten:=by
    rw [Wp,CW,<- hzv,<- List.flatten_append,List.replicate_append_replicate,show n.toNat+(c.toNat- n.toNat)=c.toNat by omega]
   have aiz:(w.alloc (.cells cells e (0,0))).heap[w.heap.size]? =some (.cells (bk u (List.replicate n.toNat z)++(List.replicate (c.toNat- n.toNat) ei.zero.cells.toList).flatten).toArray e (0,0)):=by
    rw [heap_alloc_new,<- adS]
   refine ⟨by simp [x'],rfl,by simp [x'];omega,fun _=>(none,0),fun i v hv=>⟨_,rfl,?_,fun e=>by cases e⟩,fun q u' l' hq=> ?_,fun e=>(by cases e),fun _=> .inr ⟨w.heap.size,_,e,rfl,rfl,by rw [hfl];exact aiz,?_⟩⟩
   ·have e1:(⟨w.heap.size,0,none⟩:Addr).add i=⟨w.heap.size,i,none⟩:=by unfold Addr.add;split<;>simp_all
    rw [hfl] at hv
    rw [e1,cg aiz,List.getElem?_append_left (List.getElem?_eq_some_iff.1 hv).1];exact hv
   ·obtain ⟨v,hv⟩:=iF hf (List.mem_of_getElem? hq)
    cases hv
   ·refine ⟨?_,by show c.toNat≤_;omega⟩
    rw [hfl,<- adS]
    simp only [x',cells,Array.length_toList,Array.size_map,Array.size_range,IT,hsz]
theorem Nk (hT:aW P ctx.tt) {t:TypeId} {i:TI} (ht:aJ ctx.tt t=some i) (h:m9 ctx i (.v (.one (.raw (.int .i64 0)))) (.v (.one (.raw (.int .i64 0)))) nm k):
  ∃r,aS P ctx.X hp nm (fun _=>True) (fun _=>Instr.buildSlice t 0 #[]) (fun ρ=>r.val.af ρ) r/\ k r:=by
 have hd': ∃e ei,i.desc= .slice e/\ aJ ctx.tt e=some ei:=by
  unfold m9 at h
  cases hd:i.desc<;>rw [hd] at h<;>try (exact h.elim)
  rename_i e
  dsimp only at h
  cases mW:aJ ctx.tt e with
  |none=>rw [mW] at h;exact h.elim
  |some ei=>exact ⟨e,ei,rfl,mW⟩
 obtain ⟨e,ei,hd,mW⟩:=hd'
 obtain ⟨r,h1,h2⟩:=xL (hp:=hp) hT ht h
 refine ⟨r,⟨h1.1,fun aC W ρ Kn Γ w a1 a2 a3 a4 a5=> ?_⟩,h2⟩
 obtain ⟨ρ',w',e1,rest⟩:=h1.2 aC W ρ Kn Γ w a1 a2 a3 a4 a5
 refine ⟨ρ',w',?_,rest⟩
 have hut:P.underlying t=some (.slice e):=by rw [(hT t i ht).1,hd]
 obtain ⟨inf,hi,IT,alj,hiz,_⟩:=(hT e ei mW).2.2
 have w0:IntKind.i64.wrap 0=0:=by rw [IntKind.wrap_i64];omega
 have hb:(Instr.buildSlice t 0 #[]).run P w= .ok (.slice (some ⟨w.heap.size,0,none⟩) 0 0) (w.alloc (.cells #[] e (0,0))):=by
  simp [Instr.buildSlice,run_underlying hut,hT.sz mW,newRow,Instr.fill,LA]
 have hm:(Instr.makeSlice t (.int .i64 0) (.int .i64 0)).run P w= .ok (.slice (some ⟨w.heap.size,0,none⟩) 0 0) (w.alloc (.cells #[] e (0,0))):=by
  simp [Instr.makeSlice,run_underlying hut,asInt,asIntOf,typeInfo,hi,w0,sizeOf,newRow]
  rw [LA]
 rw [hb,<- hm]
 exact e1
theorem oz {u:Ty} (hf:u.flat=true) (sub:Nat->Option Addr×Nat) (l:List u.T):aL sub 0 (aD u l)=bk u l:=by
 have key: ∀(cs:List cD) (q:Nat),(∀c∈cs,∃v,c= .flat v)->aL sub q cs=cs.map aT:=by
  intro cs
  induction cs with
  |nil=>intro q _;rfl
  |cons c r ih=>
   intro q hc
   obtain ⟨v,rfl⟩:=hc c (by simp)
   simp only [aL,List.map_cons,ih (q+1) fun c hm=>hc c (by simp [hm])]
   rfl
 exact key _ 0 fun c hc=>iF hf hc
theorem OM {w:World} {ok:Nat->Prop} : ∀ {cs:List cD} {vs:List Value},(∀c∈cs,∃v,c= .flat v)->bN (eF w ok) cs vs->vs=cs.map aT
 | [],[],_,_=>rfl
 |c::r,v::s,hc,h=>by
  obtain ⟨q,rfl⟩:=hc c (by simp)
  have h1:v=q:=h.1
  rw [OM (fun c hm=>hc c (by simp [hm])) h.2,h1];rfl
 | [],_::_,_,h=>h.elim
 |_::_,[],_,h=>h.elim
theorem iE {u:Ty} (l:List u.T):(bk u l).length=l.length*u.size:=by simp [bk,bA]
theorem aal {α:Type} (l ys:List α) (s d:Nat) (h:d<=l.length- s) (hs:s<=l.length):(j8 l s d ys).length=l.length:=by
 unfold j8 rH
 have:Nat.min ys.length d<=d:=Nat.min_le_right _ _
 have:Nat.min ys.length d<=ys.length:=Nat.min_le_left _ _
 simp only [List.length_append,List.length_take,List.length_drop]
 omega
theorem aak (hT:aW P ctx.tt) {t t' e ty:TypeId} {ei:TI} (ht:P.underlying t=some (.slice e)) (mW:aJ ctx.tt e=some ei) {x y:AV} (h:ada x y ei hp k):
  ∃r,aS P ctx.X hp nm (fun Kn=>x.ok Kn/\ y.ok Kn) (fun ρ=>Builtin.copy_ #[t,t'] ty #[x.af ρ,y.af ρ]) (fun ρ=>r.val.af ρ) r/\ k r:=by
 unfold ada at h
 split at h
 rotate_left
 ·exact h.elim
 rename_i p yc
 obtain ⟨n,s,q,u,l,o0,FT,tc,he,h,Ng,hp1,alw,_,hle,_,_,pA⟩:=sI h
 obtain ⟨rk,he⟩: ∃rk,hp n=some (.row u l rk):=by
  rcases o0.2 with ⟨rk,e⟩|⟨g,c,kk,x,e⟩
  ·exact ⟨rk,by rw [he,e]⟩
  ·rw [e] at he;rw [he] at h;exact h.elim
 rw [he] at h
 dsimp only at h
 split at h
 rotate_left
 ·exact h.elim
 rename_i hc
 obtain ⟨C5,hf,hsz⟩:=hc
 split at h
 rotate_left
 ·exact h.elim
 rename_i ys GM hys
 have h:=h.2 _ rfl
 refine ⟨_,⟨fun z hz=>by simp at hz;subst hz;rw [he];simp,?_⟩,h⟩
 intro aC W ρ Kn Γ w _ hk kI hfr hst
 have dw:Γ n=some (.row u l rk):=by rw [kI n (by simp),he]
 obtain ⟨a,c,news,ey,hyc,hnews,hcell⟩:=GV (ab:= []) (f:=true) hys (by simp [FN,hf]) aC W ρ Kn Γ w (fun m hm=>kI m (by simp [hm])) hst
 obtain ⟨g1,g2,g3,g4,g5,_,_,gj⟩:=pA aC W ρ Kn Γ w (fun m hm=>kI m (by simp [hm])) hst
 have hnews:news=bk u ys:=OM (fun c hc=>iF hf hc) hnews
 subst hnews
 obtain ⟨inf,hi,IT,_,_,_⟩:=(hT e ei mW).2.2
 have ant:inf.size=u.size:=by rw [IT,hsz]
 let k0:=Nat.min ys.length FT
 have hk0:rH FT ys.length=k0:=rfl
 have hk1:k0<=ys.length:=Nat.min_le_left _ _
 have hk2:k0<=FT:=Nat.min_le_right _ _
 let V:List Value:=(bk u ys).take (k0*u.size)
 have hVl:V.length=k0*u.size:=by
  show ((bk u ys).take (k0*u.size)).length=_
  rw [List.length_take,iE]
  exact Nat.min_eq_left (Nat.mul_le_mul_right _ hk1)
 have Wr:(Builtin.firstCells inf.size k0 (.slice a ys.length c)).run P w= .ok V.toArray w:=by
  cases a with
  |some ad=>
   refine run_firstCells_some (P:=P) w inf.size k0 ad ys.length c V (by rw [hVl,ant]) fun j v hv=> ?_
   have hv':(bk u ys)[j]? =some v:=by
    have:=hv
    simp only [V,List.getElem?_take] at this
    split at this
    ·exact this
    ·cases this
   obtain ⟨ad',e1,e2⟩:=hcell j v hv'
   cases e1;exact e2
  |none=>
   have:V= []:=by
    cases hV:V with
    |nil=>rfl
    |cons v r=>
     have hv:V[0]? =some v:=by rw [hV];rfl
     simp only [V,List.getElem?_take] at hv
     split at hv
     ·obtain ⟨_,e1,_⟩:=hcell 0 v hv;cases e1
     ·cases hv
   rw [this]
   exact run_firstCells_none (P:=P) (w:=w) _ _ _ _
 have hlen:(j8 l (iL s 0) FT ys).length=l.length:=by
  by_cases h0:k0=0
  ·unfold j8;rw [hk0,h0];simp
  ·exact aal l ys _ _ hle (by have:=alw 0 (by omega);omega)
 have eSt: ∀(v:AV) (tcs:List Nat),tP Kn nm {val:=v,writes:= [(n,aX.row u (j8 l (iL s 0) FT ys) rk)],aO:=tcs} =Kn:=fun v tcs=>jN _ _ _ _ _
 by_cases h0:k0=0
 ·
  have hl':j8 l (iL s 0) FT ys=l:=by unfold j8;rw [hk0,h0];simp
  have hV0:V= []:=List.eq_nil_of_length_eq_zero (by rw [hVl,h0,Nat.zero_mul])
  refine ⟨ρ,w,?_,fun _ _=>rfl,trivial,?_⟩
  ·show (Builtin.copy_ #[t,t'] ty #[.slice (ρ p).base (ρ p).len (ρ p).cap,yc.af ρ]).run P w=_
   rw [ey,g4]
   simp only [Builtin.copy_]
   have hnn:Nat.min ys.length FT=k0:=rfl
   cases hb:(ρ p).base with
   |none=>simp [run_underlying ht,Builtin.lenOf,sizeOf,typeInfo,hi,hnn,Wr,goInt,hV0,iI,AV.af,A0.af,Cell.af,hk0]
   |some ad=>simp [run_underlying ht,Builtin.lenOf,sizeOf,typeInfo,hi,hnn,Wr,goInt,hV0,iI,AV.af,A0.af,Cell.af,hk0,storeCells]
  ·rw [eSt,mZ _ _ _ _ _ _ rfl,hl']
   have:eX Γ n (.row u l rk)=Γ:=by
    funext m;unfold eX;split
    ·rename_i e1;subst e1;exact dw.symm
    ·rfl
   rw [this];exact hst
 ·obtain ⟨o1,o2,o3,sub,m1,m2,m3,m4⟩:=hst.at_ n _ dw
  have hd0:0<FT:=by omega
  have alx:=alw 0 hd0
  rcases m4 C5 with ⟨_,z0,_⟩|⟨b,rest,e0,hb,hbase,hh,hcap⟩
  ·subst z0;simp at alx
  obtain ⟨aN,aP,q1,q2,q3⟩:=gj 0 hd0
  rw [hbase] at q1;cases q1
  have anb:iL s 0+k0<=l.length:=by omega
  have hP:aP=⟨b,iL s 0*u.size,none⟩:=by
   have:aP.add (0*u.size)=aP:=by simp [Addr.add]
   rw [this] at q3
   rw [q3];unfold Addr.add;split<;>simp_all
  rw [oz hf] at hh hcap
  have hF:bk u (j8 l (iL s 0) FT ys)=(bk u l).take (iL s 0*u.size)++V++(bk u l).drop (iL s 0*u.size+k0*u.size):=by
   unfold j8
   rw [hk0]
   show (aD u _).map aT=_
   rw [pD,pD,List.map_append,List.map_append,kB,kB,jc,List.map_take,List.map_take,List.map_drop,Nat.add_mul]
   rfl
  have api:iL s 0*u.size+k0*u.size<=l.length*u.size:=by rw [<- Nat.add_mul];exact Nat.mul_le_mul_right _ anb
  have hone: ∀v∈V,v.oneCell'=true:=fun v hv=>by
   have hv:=List.mem_of_mem_take hv
   obtain ⟨c,hc,rfl⟩:=List.mem_map.1 hv
   obtain ⟨v,rfl⟩:=iF hf hc
   exact row_one _ hc v rfl
  have Nh:=run_storeCells_at P b (iL s 0*u.size) e0 V 0 _ w hh (by simp only [List.size_toArray,List.length_append,iE,hVl];omega) hone
  have Wp:((bk u l++rest).toArray.toList.take (iL s 0*u.size+0)++V++(bk u l++rest).toArray.toList.drop (iL s 0*u.size+0+V.length))=bk u (j8 l (iL s 0) FT ys)++rest:=by
   rw [hF,Nat.add_zero,hVl]
   rw [List.take_append_of_le_length (by rw [iE];omega),List.drop_append_of_le_length (by rw [iE];omega)]
   simp only [List.append_assoc]
  rw [Wp] at Nh
  have hnn:Nat.min ys.length FT=k0:=rfl
  have hrun:(Builtin.copy_ #[t,t'] ty #[.slice (ρ p).base (ρ p).len (ρ p).cap,yc.af ρ]).run P w= .ok (.int .i64 (k0:Nat)) (w.setRow b (bk u (j8 l (iL s 0) FT ys)++rest).toArray):=by
   rw [ey,g4,q2,hP]
   simp [Builtin.copy_,run_underlying ht,Builtin.lenOf,sizeOf,typeInfo,hi,hnn,Wr,goInt,Nh]
  refine ⟨ρ,_,hrun,fun _ _=>rfl,trivial,?_⟩
  rw [eSt,mZ _ _ _ _ _ _ rfl]
  refine hst.write dw hb trivial (fun _ h=>by cases h) fun hfz=> ?_
  have IS:=setRow_heap w b _ (bk u (j8 l (iL s 0) FT ys)++rest).toArray _ _ hh
  refine ⟨by rw [hlen];exact o1,o2,by rw [hlen];exact o3,sub,fun m v hm=> ?_,fun m u' l' hm=> ?_,m3,fun _=> .inr ⟨b,rest,e0,hb,hbase,by rw [oz hf];exact IS,?_⟩⟩
  ·refine ⟨_,hbase,?_,fun e=>absurd e C5⟩
   rw [oz hf] at hm
   have e1:(⟨b,0,none⟩:Addr).add m=⟨b,m,none⟩:=by unfold Addr.add;split<;>simp_all
   rw [e1,cg IS,List.getElem?_append_left (List.getElem?_eq_some_iff.1 hm).1];exact hm
  ·obtain ⟨v,hv⟩:=iF hf (List.mem_of_getElem? hm);cases hv
  ·exact ⟨by rw [hcap.1,oz hf];simp [iE,hlen],hcap.2⟩
end
end Go.Ev
