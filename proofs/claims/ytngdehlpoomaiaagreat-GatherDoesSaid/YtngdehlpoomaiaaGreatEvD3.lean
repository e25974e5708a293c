/- 'append', 'make' and other built-ins. -/
import Derived.Test.YtngdehlpoomaiaaGreatEvD2
import Derived.Laws.AppendOwn
import Derived.MapKept
noncomputable section
set_option linter.unusedSectionVars false
set_option linter.unusedVariables false
set_option linter.unusedSimpArgs false
namespace Go.Ev
open Go.RowKit
section
variable {P:Program} {ctx:Ctx} {hp:HP} {nm:Nat} {k:Rec->Prop}
def okN (av:fG) (W:World) (ρ:Env) (Γ:HP) (w:World) (ns:List Nat) (f:Bool) (b:Nat):Prop:=
 (∃m,m∈ns/\ (Γ m).isSome=true/\ (ρ m).blk=some b/\ bj w b)\/ (dV ρ Γ w b/\ (f=true->uk av W b/\ YG w b))
theorem okN.mono {av:fG} {W:World} {ρ:Env} {Γ:HP} {w:World} {ns ns':List Nat} {f f':Bool} {b:Nat} (h:okN av W ρ Γ w ns f b) (hn: ∀m∈ns,m∈ns') (hf:f'=true->f=true):okN av W ρ Γ w ns' f' b:=by
 rcases h with ⟨m,h1,h2⟩|⟨h1,h2⟩
 ·exact .inl ⟨m,hn m h1,h2⟩
 ·exact .inr ⟨h1,fun e=>h2 (hf e)⟩
theorem sI.ro {fz pm:Nat->Prop} {w:World} {o:Loc} {t:Ty} {l:List t.T} {sub:Nat->Option Addr×Nat} (h:sI fz pm w o t l 0 sub) (ht:t.flat=true): ∀i v,(bf t l)[i]? =some v-> ∃a,o.base=some a/\ w.cell? (a.add i)=some v/\ fz a.block:=by
 intro i v hv
 have e:aJ sub 0 (ay t l)=bf t l:=by
  have: ∀(cs:List cw) q,(∀c∈cs,∃v,c= .flat v)->aJ sub q cs=cs.map bJ:=by
   intro cs
   induction cs with
   |nil=>intro q _;rfl
   |cons c r ih=>
    intro q hc
    obtain ⟨v,rfl⟩:=hc c (by simp)
    simp only [aJ,List.map_cons]
    rw [ih (q+1) fun c hm=>hc c (by simp [hm])];rfl
  exact this _ 0 fun c hc=>fb ht hc
 obtain ⟨a,h1,h2,h3⟩:=h.1 i v (by rw [e];exact hv)
 exact ⟨a,h1,h2,h3 rfl⟩
theorem Gv: ∀(t:Ty) (cs:List Cell) (x:t.T) (r r':List Cell) (tc ns:List Nat) (f:Bool),ct hp t cs=some (x,r,tc)->Ch hp t cs=some (ns,f,r')->
  r'=r/\ ∃ys,cs=ys++r/\ ys.length=t.size/\ ∀av W ρ Kn Γ w,(∀m∈tc,Γ m=hp m)->St av W ρ Kn Γ w->bN (dQ w (okN av W ρ Γ w ns f)) (t.aU x) (ys.map (Cell.ae ρ))
 | .int k,cs,x,r,r',tc,ns,f,h,ho=>by
  simp only [ct] at h
  split at h
  ·split at h
   ·rename_i e;subst e;cases h
    simp only [Ch,Option.some.injEq,Prod.mk.injEq] at ho
    exact ⟨ho.2.2.symm,[_],rfl,rfl,fun _ _ _ _ _ _ _ _=>⟨rfl,trivial⟩⟩
   ·cases h
  ·cases h
 | .bool,cs,x,r,r',tc,ns,f,h,ho=>by
  simp only [ct] at h
  split at h
  ·cases h
   simp only [Ch,Option.some.injEq,Prod.mk.injEq] at ho
   exact ⟨ho.2.2.symm,[_],rfl,rfl,fun _ _ _ _ _ _ _ _=>⟨rfl,trivial⟩⟩
  ·cases h
 | .str,cs,x,r,r',tc,ns,f,h,ho=>by
  simp only [ct] at h
  split at h
  ·cases h
   simp only [Ch,Option.some.injEq,Prod.mk.injEq] at ho
   exact ⟨ho.2.2.symm,[_],rfl,rfl,fun _ _ _ _ _ _ _ _=>⟨rfl,trivial⟩⟩
  ·cases h
 | .prod a b,cs,x,r,r',tc,ns,f,h,ho=>by
  simp only [ct] at h
  split at h
  ·rename_i x1 r1 J8 h1
   split at h
   ·rename_i x2 r2 w7 h2
    cases h
    simp only [Ch] at ho
    split at ho
    ·rename_i n1 f1 q1 o1
     split at ho
     ·rename_i n2 f2 q2 o2
      cases ho
      obtain ⟨rfl,ys,rfl,hy,ha⟩:=Gv a _ _ _ _ _ _ _ h1 o1
      obtain ⟨rfl,zs,rfl,hz,hb⟩:=Gv b _ _ _ _ _ _ _ h2 o2
      refine ⟨rfl,ys++zs,by simp,by simp [hy,hz,Ty.size],fun av W ρ Kn Γ w ht hst=> ?_⟩
      rw [List.map_append]
      refine ((ha av W ρ Kn Γ w (fun m hm=>ht m (by simp [hm])) hst).mono (dQ.weak fun b hb=>hb.mono (fun m hm=>by simp [hm]) fun e=>by simp at e;exact e.1)).append
       ((hb av W ρ Kn Γ w (fun m hm=>ht m (by simp [hm])) hst).mono (dQ.weak fun b hb=>hb.mono (fun m hm=>by simp [hm]) fun e=>by simp at e;exact e.2))
     ·cases ho
    ·cases ho
   ·cases h
  ·cases h
 | .sl u,cs,x,r,r',tc,ns,f,h,ho=>by
  have hd:=mT hp (.sl u) cs x r tc h
  simp only [Ch] at ho
  split at ho
  rotate_left
  ·cases ho
  rename_i hu
  simp only [ct] at h
  have fin: ∀(c:Cell) (r0:List Cell),cs=c::r0->(r'=r0)->(∀av W ρ Kn Γ w,(∀m∈tc,Γ m=hp m)->St av W ρ Kn Γ w-> ∀a cap,c.ae ρ= .slice a x.length cap-> ∀i v,(bf u x)[i]? =some v-> ∃ad,a=some ad/\ w.cell? (ad.add i)=some v/\ okN av W ρ Γ w ns f ad.block)->
    r'=r/\ ∃ys,cs=ys++r/\ ys.length=(Ty.sl u).size/\ ∀av W ρ Kn Γ w,(∀m∈tc,Γ m=hp m)->St av W ρ Kn Γ w->bN (dQ w (okN av W ρ Γ w ns f)) ((Ty.sl u).aU x) (ys.map (Cell.ae ρ)):=fun c r0 ec er hm=>by
   obtain ⟨ys,e,hy,ha⟩:=hd
   match ys,hy with
   | [y],_=>
    rw [ec] at e
    simp only [List.cons_append,List.nil_append,List.cons.injEq] at e
    obtain ⟨rfl,rfl⟩:=e
    refine ⟨er,[c],ec,rfl,fun av W ρ Kn Γ w ht hst=>⟨?_,trivial⟩⟩
    obtain ⟨a,cap,e1,e2,e3⟩:=(ha av W ρ Kn Γ w ht hst).1
    exact ⟨a,cap,e1,hu,e2,fun i v hv=>hm av W ρ Kn Γ w ht hst a cap e1 i v hv⟩
  split at ho
  ·cases ho
   simp only [Option.some.injEq,Prod.mk.injEq] at h
   obtain ⟨rfl,rfl,rfl⟩:=h
   exact fin _ _ rfl rfl fun _ _ _ _ _ _ _ _ a cap _ i v hv=>by simp [bf,ay] at hv
  ·rename_i n r1
   split at ho
   ·rename_i t l rk he
    simp only [he] at h
    split at h
    rotate_left
    ·cases h
    rename_i l' hl
    obtain ⟨rfl,rfl⟩:=cr hl
    cases h
    split at ho
    ·rename_i sQ
     subst sQ
     cases ho
     refine fin _ _ rfl rfl fun av W ρ Kn Γ w ht hst a cap ec i v hv=> ?_
     have bQ:Γ n=some (.row t l 0):=by rw [ht n (by simp),he]
     obtain ⟨_,_,_,sub,hm⟩:=hst.at_ n _ bQ
     obtain ⟨ad,e1,e2,e3⟩:=hm.ro hu i v hv
     simp only [Cell.ae,Value.slice.injEq] at ec
     exact ⟨ad,by rw [<- ec.1,e1],e2,.inr ⟨e3,fun e=>by cases e⟩⟩
    ·rename_i sQ
     cases ho
     refine fin _ _ rfl rfl fun av W ρ Kn Γ w ht hst a cap ec i v hv=> ?_
     have bQ:Γ n=some (.row t l rk):=by rw [ht n (by simp),he]
     obtain ⟨_,_,_,sub,h1,_,_,h4⟩:=hst.at_ n _ bQ
     have hfl:aJ sub 0 (ay t l)=bf t l:=by
      have: ∀(cs:List cw) q,(∀c∈cs,∃v,c= .flat v)->aJ sub q cs=cs.map bJ:=by
       intro cs
       induction cs with
       |nil=>intro q _;rfl
       |cons c r ih=>
        intro q hc
        obtain ⟨v,rfl⟩:=hc c (by simp)
        simp only [aJ,List.map_cons]
        rw [ih (q+1) fun c hm=>hc c (by simp [hm])];rfl
      exact this _ 0 fun c hc=>fb hu hc
     obtain ⟨ad,e1,e2,_⟩:=h1 i v (by rw [hfl];exact hv)
     simp only [Cell.ae,Value.slice.injEq] at ec
     refine ⟨ad,by rw [<- ec.1,e1],e2,.inl ⟨n,by simp,by simp [bQ],?_,by have:=bj.of (by assumption:w.cell? _=some _);rwa [fU] at this⟩⟩
     rcases h4 sQ with ⟨_,h5,_⟩|⟨b,pre,rest,e,h5,h6,_⟩
     ·rw [List.eq_nil_of_length_eq_zero h5] at hv;simp [bf,ay] at hv
     ·rw [e1] at h6;cases h6;exact h5
   ·rename_i m s q he
    split at ho
    rotate_left
    ·cases ho
    rename_i t l rk he3
    split at ho
    rotate_left
    ·cases ho
    rename_i sQ
    subst sQ
    cases ho
    simp only [he,he3] at h
    split at h
    rotate_left
    ·cases h
    rename_i l' hl
    obtain ⟨rfl,rfl⟩:=cr hl
    cases h
    refine fin _ _ rfl rfl fun av W ρ Kn Γ w ht hst a cap ec i v hv=> ?_
    have bQ:Γ m=some (.row t l 0):=by rw [ht m (by simp),he3]
    obtain ⟨o1,o2,o3,sub,hm⟩:=hst.at_ m _ bQ
    obtain ⟨_,p1,p2,p3,p4⟩:=hst.at_ n _ (show Γ n=some (.alias m s q) by rw [ht n (by simp),he])
    have hr:mH w (fun b=>dV ρ Γ w b) (ρ n).base t (ov l s q):=by
     refine mH.part (a:=(ρ m).base) ⟨bf t l,?_,fun i v hv=>hm.ro hu i v hv⟩ s q fun hne=> ?_
     ·have: ∀(cs:List cw),(∀c∈cs,∃v,c= .flat v)→bN (dQ w (fun b=>dV ρ Γ w b)) cs (cs.map bJ):=by
       intro cs
       induction cs with
       |nil=>intro _;trivial
       |cons c r ih=>
        intro hc
        obtain ⟨v,rfl⟩:=hc c (by simp)
        exact ⟨rfl,ih fun c hm=>hc c (by simp [hm])⟩
      exact this _ fun c hc=>fb hu hc
     ·rw [p4 (by rw [p1,o1];exact hne),o2]
    simp only [Cell.ae,Value.slice.injEq] at ec
    obtain ⟨ad,e1,e2,e3⟩:=(hr.nest (c:=(ov l s q).length) hu (Nat.le_refl _)).2.2 i v hv
    exact ⟨ad,by rw [<- ec.1];exact e1,e2,.inr ⟨e3,fun e=>by cases e⟩⟩
   ·cases ho
  ·rename_i n off len cap r1
   split at ho
   rotate_left
   ·cases ho
   cases ho
   dsimp only at h
   split at h
   rotate_left
   ·cases h
   rename_i hc
   simp only [Bool.and_eq_true,decide_eq_true_eq] at hc
   split at h
   rotate_left
   ·cases h
   rename_i cs' e he
   split at h
   rotate_left
   ·cases h
   rename_i l J8 hl
   cases h
   refine fin _ _ rfl rfl fun av W ρ Kn Γ w ht hst a cap' ec i v hv=> ?_
   obtain ⟨ys,ey,hy,ha⟩:=hd
   match ys,hy with
   | [y],_=>
    simp only [List.cons_append,List.nil_append,List.cons.injEq] at ey
    obtain ⟨rfl,_⟩:=ey
    obtain ⟨a1,c1,e1,e2,e3⟩:=(ha av W ρ Kn Γ w ht hst).1
    have bQ:Γ n=some (.cells cs' e):=by rw [ht n (by simp),he]
    obtain ⟨b,hb,hh⟩:=hst.at_ n _ bQ
    obtain ⟨ad,f1,f2,f3⟩:=(e3.nest (c:=x.length) hu (Nat.le_refl _)).2.2 i v hv
    replace f1:a1=some ad:=f1
    rw [ec] at e1
    simp only [Value.slice.injEq] at e1
    refine ⟨ad,by rw [e1.1,f1],f2,.inl ⟨n,by simp,by simp [bQ],?_,by have:=bj.of (by assumption:w.cell? _=some _);rwa [fU] at this⟩⟩
    simp only [Cell.ae,addrOf,hb,Option.map_some,Value.slice.injEq] at ec
    rw [e1.1,f1] at ec
    have:=ec.1
    simp only [Option.some.injEq] at this
    rw [<- this,hb]
  ·cases ho
theorem Qf {u:Ty} : ∀(n:Nat) (cs:List Cell) (l:List u.T) (tc ns:List Nat) (f:Bool),BR (ct hp u) n cs=some (l,tc)->Z4 hp u n cs=some (ns,f)->
  ∃ys r,cs=ys++r/\ ys.length=n*u.size/\ ∀av W ρ Kn Γ w,(∀m∈tc,Γ m=hp m)->St av W ρ Kn Γ w->bN (dQ w (okN av W ρ Γ w ns f)) (ay u l) (ys.map (Cell.ae ρ))
 |0,cs,l,tc,ns,f,h,ho=>by
  simp only [BR,Option.some.injEq,Prod.mk.injEq] at h
  obtain ⟨rfl,rfl⟩:=h
  exact ⟨[],cs,rfl,by simp,fun _ _ _ _ _ _ _ _=>trivial⟩
 |n+1,cs,l,tc,ns,f,h,ho=>by
  simp only [BR] at h
  split at h
  ·rename_i x r J8 h1
   split at h
   ·rename_i l1 w7 h2
    cases h
    simp only [Z4] at ho
    split at ho
    ·rename_i n1 f1 q1 o1
     split at ho
     ·rename_i n2 f2 o2
      cases ho
      obtain ⟨rfl,ys,rfl,hy,ha⟩:=Gv u _ _ _ _ _ _ _ h1 o1
      obtain ⟨zs,r2,rfl,hz,hb⟩:=Qf n _ _ _ _ _ h2 o2
      refine ⟨ys++zs,r2,by simp,by simp [hy,hz,Nat.succ_mul,Nat.add_comm],fun av W ρ Kn Γ w ht hst=> ?_⟩
      rw [iU,List.map_append]
      refine ((ha av W ρ Kn Γ w (fun m hm=>ht m (by simp [hm])) hst).mono (dQ.weak fun b hb=>hb.mono (fun m hm=>by simp [hm]) fun e=>by simp at e;exact e.1)).append
       ((hb av W ρ Kn Γ w (fun m hm=>ht m (by simp [hm])) hst).mono (dQ.weak fun b hb=>hb.mono (fun m hm=>by simp [hm]) fun e=>by simp at e;exact e.2))
     ·cases ho
    ·cases ho
   ·cases h
  ·cases h
theorem Hf {t:Ty} {yc:Cell} {ys:List t.T} {tc ab:List Nat} {f:Bool} (h:ct hp (.sl t) [yc]=some (ys,[],tc)) (ho:FV hp t (.v (.one yc))=some (ab,f)):
  ∀av W ρ Kn Γ w,(∀m∈tc,Γ m=hp m)->St av W ρ Kn Γ w-> ∃a c vals,yc.ae ρ= .slice a ys.length c/\ ys.length<=c/\ bN (dQ w (okN av W ρ Γ w ab f)) (ay t ys) vals/\ ∀i v,vals[i]? =some v-> ∃ad,a=some ad/\ w.cell? (ad.add i)=some v:=by
 intro av W ρ Kn Γ w ht hst
 obtain ⟨zs,ez,hz,ha⟩:=mT hp (.sl t) _ _ _ _ h
 match zs,hz with
 | [z],_=>
 simp only [List.append_nil,List.cons.injEq,and_true] at ez
 subst ez
 obtain ⟨a,c,e1,e2,vals,e3,e4⟩:=(ha av W ρ Kn Γ w ht hst).1
 have plain: ∀ {ok:Nat->Prop},(∀(q:Nat) (u:Ty) (l':List u.T),(ay t ys)[q]? =some (cw.sl u l')-> ∀(a:Option Addr) (c:Nat),vals[q]? =some (Value.slice a l'.length c)->fH w ok (a,c) u l')-> ∃a c vals,yc.ae ρ= .slice a ys.length c/\ ys.length<=c/\ bN (dQ w ok) (ay t ys) vals/\ ∀i v,vals[i]? =some v-> ∃ad,a=some ad/\ w.cell? (ad.add i)=some v:=fun {ok} hn=>by
  refine ⟨a,c,vals,e1,e2,?_,fun i v hv=>by obtain ⟨ad,h1,h2,_⟩:=e4 i v hv;exact ⟨ad,h1,h2⟩⟩
  have: ∀(cs:List cw) (vs:List Value),bN (dQ w (Zx w)) cs vs->(∀(q:Nat) (u:Ty) (l':List u.T),cs[q]? =some (cw.sl u l')-> ∀(a:Option Addr) (c:Nat),vs[q]? =some (Value.slice a l'.length c)->fH w ok (a,c) u l')->bN (dQ w ok) cs vs:=by
   intro cs
   induction cs with
   |nil=>intro vs h _;cases vs<;>first|trivial|exact h.elim
   |cons q r ih=>
    intro vs h hh
    cases vs with
    |nil=>exact h.elim
    |cons v s=>
     refine ⟨?_,ih s h.2 fun q u l' hq a c hv=>hh (q+1) u l' (by simpa using hq) a c (by simpa using hv)⟩
     cases q with
     |flat u=>exact h.1
     |sl u l'=>
      obtain ⟨a,c,e,_⟩:=h.1
      exact ⟨a,c,e,hh 0 u l' rfl a c (by simp [e])⟩
  exact this _ _ e3 hn
 unfold FV at ho
 split at ho
 ·rename_i hf
  cases ho
  exact plain fun q u l' hq=>by
   obtain ⟨v,hv⟩:=fb hf (List.mem_of_getElem? hq)
   cases hv
 ·split at ho
  ·rename_i n off len cap heq
   cases heq
   split at ho
   ·rename_i cs e he
    simp only [ct] at h
    split at h
    ·rename_i hc
     rw [he] at h
     dsimp only at h
     split at h
     ·rename_i l J8 hl
      cases h
      obtain ⟨zs,r2,hy,hyl,hb⟩:=Qf _ _ _ _ _ _ hl ho
      have bQ:Γ n=some (.cells cs e):=by rw [ht n (by simp),he]
      obtain ⟨b,hb',hh⟩:=hst.at_ n _ bQ
      refine ⟨some ⟨b,off,none⟩,cap,zs.map (Cell.ae ρ),?_,?_,hb av W ρ Kn Γ w (fun m hm=>ht m (by simp [hm])) hst,fun i v hv=>⟨_,rfl,?_⟩⟩
      ·simp only [Cell.ae,addrOf,hb',Option.map_some,Value.slice.injEq] at e1 ⊢
       exact ⟨trivial,e1.2.1,trivial⟩
      ·simp only [Cell.ae,addrOf,hb',Option.map_some,Value.slice.injEq] at e1
       rw [<- e1.2.2] at e2;exact e2
      ·have e1:(⟨b,off,none⟩:Addr).add i=⟨b,off+i,none⟩:=by unfold Addr.add;split<;>simp_all
       rw [e1,bL hh]
       have e3:(cs.map (Cell.ae ρ))[off+i]? =((cs.drop off).map (Cell.ae ρ))[i]? :=by rw [List.getElem?_map,List.getElem?_map,List.getElem?_drop]
       rw [e3,hy,List.map_append,List.getElem?_append_left (List.getElem?_eq_some_iff.1 hv).1];exact hv
     ·cases h
    ·cases h
   ·cases ho
  ·rename_i n heq
   cases heq
   have row: ∀(l:List t.T) (rk:Nat) (m:Nat),Γ m=some (.row t l rk)-> ∃sub,(∀i v,(aJ sub 0 (ay t l))[i]? =some v-> ∃ad,(ρ m).base=some ad/\ w.cell? (ad.add i)=some v)/\ ∀q u l',(ay t l)[q]? =some (.sl u l')->fH w (fun b=>dV ρ Γ w b/\ (rk=2->uk av W b/\ YG w b)) (sub q) u l':=fun l rk m hm=>by
    obtain ⟨_,_,_,sub,h1,h2,_⟩:=hst.at_ m _ hm
    exact ⟨sub,fun i v hv=>by obtain ⟨ad,a1,a2,_⟩:=h1 i v hv;exact ⟨ad,a1,a2⟩,h2⟩
   split at ho
   ·rename_i t2 l2 rk he
    simp only [ct,he] at h
    split at h
    ·rename_i l' hl
     obtain ⟨rfl,rfl⟩:=cr hl
     cases h
     obtain ⟨sub,s1,s2⟩:=row _ rk n (by rw [ht n (by simp),he])
     refine plain fun q u l' hq a' c' hv=> ?_
     obtain ⟨ad,h1,h2,_⟩:=e4 q _ hv
     obtain ⟨ad2,g1,g2⟩:=s1 q (nt (sub q) (.sl u l')) (by rw [dF,hq];simp)
     simp only [Cell.ae,Value.slice.injEq] at e1
     rw [e1.1,h1] at g1;cases g1
     rw [h2] at g2
     simp only [nt,Option.some.injEq,Value.slice.injEq,true_and] at g2
     have:=s2 q u l' hq
     rw [show (a',c')=sub q by rw [g2.1,g2.2]]
     refine this.weak fun b hb=> .inr ⟨hb.1,fun e=>hb.2 ?_⟩
     split at ho
     ·assumption
     ·cases ho;cases e
    ·cases h
   ·rename_i m s q0 he
    cases ho
    simp only [ct,he] at h
    split at h
    ·rename_i t2 l2 rk Pr
     split at h
     ·rename_i l' hl
      obtain ⟨rfl,rfl⟩:=cr hl
      cases h
      obtain ⟨sub,s1,s2⟩:=row _ rk m (by rw [ht m (by simp),Pr])
      have bQ:Γ m=some (.row t2 l2 rk):=by rw [ht m (by simp),Pr]
      obtain ⟨o1,o2,_⟩:=hst.at_ m _ bQ
      obtain ⟨_,p1,p2,p3,p4⟩:=hst.at_ n _ (show Γ n=some (.alias m s q0) by rw [ht n (by simp),he])
      refine plain fun q u l' hq a' c' hv=> ?_
      obtain ⟨ad,h1,h2,_⟩:=e4 q _ hv
      have hql:=(List.getElem?_eq_some_iff.1 hq).1
      rw [bE,pK] at hql
      have hne:fT l2.length s q0≠0:=by rintro e;rw [e] at hql;omega
      have hq2:(ay t2 l2)[s*t2.size+q]? =some (.sl u l'):=by
       cases q0 with
       |none=>simp only [ov,iV,List.getElem?_drop] at hq;exact hq
       |some z=>
        simp only [ov,kq,iV,List.getElem?_take] at hq
        split at hq
        ·rw [List.getElem?_drop] at hq;exact hq
        ·cases hq
      obtain ⟨ad2,g1,g2⟩:=s1 (s*t2.size+q) (nt (sub (s*t2.size+q)) (.sl u l')) (by rw [dF,hq2];simp)
      simp only [Cell.ae,Value.slice.injEq] at e1
      have hb:=p4 (by rw [p1,o1];exact hne)
      rw [g1,o2,e1.1,h1] at hb
      simp only [Option.map_some,Option.some.injEq] at hb
      rw [hb,eA,g2] at h2
      simp only [nt,Option.some.injEq,Value.slice.injEq,true_and] at h2
      rw [show (a',c')=sub (s*t2.size+q) by rw [<- h2.1,<- h2.2]]
      exact (s2 _ u l' hq2).weak fun b hb=> .inr ⟨hb.1,fun e=>by cases e⟩
     ·cases h
    ·cases h
   ·cases ho
  ·rename_i c0 heq
   cases heq
   cases ho
   simp only [ct,Option.some.injEq,Prod.mk.injEq] at h
   obtain ⟨rfl,_⟩:=h
   exact plain fun q u l' hq=>by simp [ay] at hq
  ·cases ho
theorem fq: ∀ {l:List Nat},eV l=true->l.Nodup
 | [],_=>List.nodup_nil
 |x::r,h=>by
  simp only [eV,Bool.and_eq_true,Bool.not_eq_true',List.contains_eq_mem,decide_eq_false_iff_not] at h
  exact List.nodup_cons.2 ⟨h.1,fq h.2⟩
theorem R7 {t t' e e' ty:TypeId} (ht:P.underlying t=some (.slice e)) (ht':P.underlying t'=some (.slice e')) (a:Option Addr) (n c:Nat) (y:Value) (w:World):
  (Builtin.append_ #[t,t'] ty #[.slice a n c,y]).run P w=(Builtin.append_ #[t,t] ty #[.slice a n c,y]).run P w:=by
 simp [Builtin.append_,run_underlying ht,run_underlying ht']
theorem GQ (w:World) (t ty e e0:TypeId) (i:TypeInfo) (ht:P.underlying t=some (.slice e)) (hi:P.info? e=some i)
  (g sLen sCap:Nat) (cur:Array Value) (hg:w.heap[g]? =some (.cells cur e0 (0,0)))
  (a:Addr) (m c:Nat) (news:List Value) (hl:news.length=m*i.size) (hnews: ∀j u,news[j]? =some u->w.cell? (a.add j)=some u) (h1: ∀u∈news,u.oneCell'=true)
  (off:Nat) (hroom:sLen+m<=sCap) (hfit:off+sLen*i.size+news.length<=cur.size):
  (Builtin.append_ #[t,t] ty #[.slice (some ⟨g,off,none⟩) sLen sCap,.slice (some a) m c]).run P w=
   .ok (.slice (some ⟨g,off,none⟩) (sLen+m) sCap) (w.setRow g (cur.toList.take (off+sLen*i.size)++news++cur.toList.drop (off+sLen*i.size+news.length)).toArray):=by
 have hf:=run_firstCells_some (P:=P) w i.size m a m c news hl hnews
 have hst:=run_storeCells_at P g (off+sLen*i.size) e0 news 0 cur w hg (by simpa using hfit) h1
 have Oj:(⟨g,off,none⟩:Addr).add (sLen*i.size)=⟨g,off+sLen*i.size,none⟩:=by unfold Addr.add;split<;>simp_all
 simp only [Nat.add_zero] at hst
 simp [Builtin.append_,run_underlying ht,sizeOf,typeInfo,hi,Builtin.lenOf,hroom,hf,Oj,hst]
theorem Wg {w:World} {ok:Nat->Prop} : ∀ {cs:List cw} {vs:List Value},(∀c∈cs,∀v,c= .flat v->v.oneCell'=true)->bN (dQ w ok) cs vs-> ∀u∈vs,u.oneCell'=true
 | [],[],_,_,u,hu=>by simp at hu
 |c::r,v::s,hc,h,u,hu=>by
  rcases List.mem_cons.1 hu with rfl|hu
  ·cases c with
   |flat q=>have:u=q:=h.1;subst this;exact hc _ (by simp) _ rfl
   |sl q l=>obtain ⟨a,c,e,_⟩:=h.1;subst e;rfl
  ·exact Wg (fun c hm=>hc c (by simp [hm])) h.2 u hu
 | [],_::_,_,h,_,_=>h.elim
 |_::_,[],_,h,_,_=>h.elim
theorem FY: ∀(t:Ty) (x:t.T) (c:cw),c∈t.aU x-> ∀v,c= .flat v->v.oneCell'=true
 | .int _,x,c,hc,v,e=>by simp [Ty.aU] at hc;rw [hc] at e;cases e;rfl
 | .bool,x,c,hc,v,e=>by simp [Ty.aU] at hc;rw [hc] at e;cases e;rfl
 | .str,x,c,hc,v,e=>by simp [Ty.aU] at hc;rw [hc] at e;cases e;rfl
 | .prod a b,x,c,hc,v,e=>by
  simp only [Ty.aU,List.mem_append] at hc
  rcases hc with hc|hc
  ·exact FY a _ c hc v e
  ·exact FY b _ c hc v e
 | .sl _,x,c,hc,v,e=>by simp [Ty.aU] at hc;rw [hc] at e;cases e
theorem row_one {t:Ty} {l:List t.T} (c:cw) (hc:c∈ay t l): ∀v,c= .flat v->v.oneCell'=true:=by
 obtain ⟨x,_,hx⟩:=List.mem_flatMap.1 hc
 exact FY t x c hx
def uK (vals:List Value) (q:Nat):Option Addr×Nat:=match vals[q]? with
 |some (.slice a _ c)=>(a,c)
 |_=>(none,0)
theorem kS {w:World} {ok:Nat->Prop} {cs:List cw} {vals:List Value} (h:bN (dQ w ok) cs vals):aJ (uK vals) 0 cs=vals/\ ∀q u l',cs[q]? =some (.sl u l')->fH w ok (uK vals q) u l':=by
 have hq: ∀q c,cs[q]? =some c->vals[q]? =some (nt (uK vals q) c)/\ ∀u l',c= .sl u l'->fH w ok (uK vals q) u l':=fun q c hc=>by
  obtain ⟨v,hv,hn⟩:=h.get q c hc
  cases c with
  |flat u=>have:v=u:=hn;subst this;exact ⟨hv,fun _ _ e=>by cases e⟩
  |sl u l'=>
   obtain ⟨a,c,rfl,hn⟩:=hn
   have e:uK vals q=(a,c):=by unfold uK;rw [hv]
   rw [e]
   exact ⟨hv,fun _ _ e=>by cases e;exact hn⟩
 refine ⟨?_,fun q u l' hc=>(hq q _ hc).2 u l' rfl⟩
 apply List.ext_getElem?
 intro q
 rw [dF,Nat.zero_add]
 cases hc:cs[q]? with
 |some c=>exact (hq q c hc).1.symm
 |none=>
  have:=h.length
  rw [List.getElem?_eq_none_iff] at hc
  rw [List.getElem?_eq_none (by omega)];rfl
theorem OO (w:World) (t ty e:TypeId) (i:TypeInfo) (z:Value) (ht:P.underlying t=some (.slice e)) (hi:P.info? e=some i) (hz:i.zero=some z) (hzs:z.cells.size=i.size) (hby:i.bytes<=128) (hsz:0<i.size)
  (o:Loc) (n rk:Nat) (vals:List Value) (hv:vals.length=n*i.size) (ho:o.len=n)
  (m:Nat) (hown:jk w o rk n i.size vals\/ (o.blk=none/\ n=0/\ (∃ad,o.base=some ad)/\ o.cap<m)) (hcap:n<=o.cap)
  (a:Option Addr) (c:Nat) (news:List Value) (hl:news.length=m*i.size) (hnews: ∀j u,news[j]? =some u-> ∃ad,a=some ad/\ w.cell? (ad.add j)=some u) (h1: ∀u∈news,u.oneCell'=true) (hb:n+m<1099511627776):
  ∃(o':Loc) (w':World),(Builtin.append_ #[t,t] ty #[.slice o.base o.len o.cap,.slice a m c]).run P w= .ok (.slice o'.base o'.len o'.cap) w'/\ o'.len=n+m/\ n+m<=o'.cap/\
   (∀av W,Fr av W w->(∀b,o.blk=some b->W.heap.size<=b\/ av b)->Fr av W w')/\ (∀b,b<w.heap.size->o'.blk≠some b->w'.heap[b]? =w.heap[b]?)/\ (∀b,o'.blk=some b->b=w.heap.size\/ o.blk=some b)/\
   jk w' o' rk (n+m) i.size (vals++news):=by
 have hbytes:(n+m)*i.bytes<=140737488355328:=by
  have:=Nat.mul_le_mul (show n+m<=1099511627776 by omega) hby
  omega
 have h63:n+m<=maxLen:=by simp only [maxLen];omega
 have Oj: ∀(b q j:Nat),(⟨b,q,none⟩:Addr).add j=⟨b,q+j,none⟩:=fun b q j=>by unfold Addr.add;split<;>simp_all
 have grow: ∀ad0:Addr,o.base=some ad0->(∀j u,vals[j]? =some u->w.cell? (ad0.add j)=some u)-> ∀ad,a=some ad-> ¬(n+m<=o.cap)-> ∃(o':Loc) (w':World),(Builtin.append_ #[t,t] ty #[.slice o.base o.len o.cap,.slice a m c]).run P w= .ok (.slice o'.base o'.len o'.cap) w'/\ o'.len=n+m/\ n+m<=o'.cap/\
   (∀av W,Fr av W w->(∀b,o.blk=some b->W.heap.size<=b\/ av b)->Fr av W w')/\ (∀b,b<w.heap.size->o'.blk≠some b->w'.heap[b]? =w.heap[b]?)/\ (∀b,o'.blk=some b->b=w.heap.size\/ o.blk=some b)/\
   jk w' o' rk (n+m) i.size (vals++news):=by
  intro ad0 h3 holds ad ea hroom
  subst ea
  have SQ: ∀j u,news[j]? =some u->w.cell? (ad.add j)=some u:=fun j u hj=>by
   obtain ⟨ad',h,h'⟩:=hnews j u hj
   cases h;exact h'
  have hr:=run_append_grow (P:=P) w t ty e i z ht hi hz ad0 n o.cap vals hv holds ad m c news hl SQ (by omega) (by omega) (growslice_fits (by omega) hbytes)
  have hge:=grownCap_ge w (n+m) o.cap e
  refine ⟨{blk:=some w.heap.size,base:=some ⟨w.heap.size,0,none⟩,len:=n+m,cap:=grownCap w (n+m) o.cap e},w.drew.alloc (.cells (vals.toArray++news.toArray++Builtin.zeroCells z.cells (grownCap w (n+m) o.cap e- (n+m))) e),?_,rfl,hge,fun av W hf _=>Fr.alloc (w:=w.drew) ⟨hf.os,hf.tape,hf.output,hf.size,hf.block,Nat.le_succ_of_le hf.Pd⟩ _,fun b hb _=>Below.heap_alloc w.drew _ b hb,fun b hb=>by cases hb;exact .inl rfl,.inr ⟨w.heap.size,[],(Builtin.zeroCells z.cells (grownCap w (n+m) o.cap e- (n+m))).toList,e,rfl,rfl,?_,?_,?_,fun _=>rfl⟩⟩
  ·rw [ho,h3];exact hr
  ·rw [show (([]:List Value)++(vals++news++(Builtin.zeroCells z.cells (grownCap w (n+m) o.cap e- (n+m))).toList)).toArray=vals.toArray++news.toArray++Builtin.zeroCells z.cells (grownCap w (n+m) o.cap e- (n+m)) by apply Array.ext';simp]
   exact heap_alloc_new w.drew _
  ·simp only [List.length_append,Array.length_toList,size_zeroCells,hzs,hl,hv,←Nat.add_mul]
   congr 1;omega
  ·exact grownCap_le_maxLen w (n+m) o.cap e (by omega)
 by_cases hm:m=0/\ a=none
 ·obtain ⟨rfl,rfl⟩:=hm
  have hn:news= []:=List.eq_nil_of_length_eq_zero (by simpa using hl)
  subst hn
  have hown:=hown.resolve_right fun q=>Nat.not_lt_zero _ q.2.2.2
  refine ⟨o,w,?_,ho,hcap,fun _ _ h _=>h,fun _ _ _=>rfl,fun b hb=> .inr hb,by simpa using hown⟩
  rw [ho]
  have hc: ¬(o.cap<n):=by omega
  cases hbs:o.base with
  |none=>
   have:n=0/\ o.cap=0:=by
    rcases hown with ⟨_,q1,q2,_⟩|⟨b,pre,rest,e0,_,h4,_⟩
    ·exact ⟨q1,q2⟩
    ·rw [hbs] at h4;cases h4
   obtain ⟨rfl,h3⟩:=this
   rw [h3];simp [Builtin.append_,run_underlying ht,sizeOf,typeInfo,hi,Builtin.lenOf,Builtin.firstCells]
  |some ad0=>simp [Builtin.append_,run_underlying ht,sizeOf,typeInfo,hi,Builtin.lenOf,Builtin.firstCells,hcap,storeCells]
 ·obtain ⟨ad,rfl⟩: ∃ad,a=some ad:=by
   cases a with
   |some ad=>exact ⟨ad,rfl⟩
   |none=>
    have hm0:m≠0:=fun e=>hm ⟨e,rfl⟩
    have hp:0<news.length:=by rw [hl];exact Nat.mul_pos (by omega) hsz
    obtain ⟨ad,h,_⟩:=hnews 0 _ (List.getElem?_eq_getElem hp)
    cases h
  have SQ: ∀j u,news[j]? =some u->w.cell? (ad.add j)=some u:=fun j u hj=>by
   obtain ⟨ad',h,h'⟩:=hnews j u hj
   cases h;exact h'
  rcases hown with (⟨h2,rfl,h3,h4⟩|⟨b,pre,rest,e0,h2,h3,h4,h5,h6,h7⟩)|⟨h2,rfl,⟨ad0,hbs⟩,h5⟩
  rotate_right
  ·have hv0:vals= []:=List.eq_nil_of_length_eq_zero (by simpa using hv)
   subst hv0
   exact grow ad0 hbs (fun j u hj=>by simp at hj) ad rfl (by omega)
  ·have hv0:vals= []:=List.eq_nil_of_length_eq_zero (by simpa using hv)
   subst hv0
   by_cases hm0:m=0
   ·subst hm0
    have hn:news= []:=List.eq_nil_of_length_eq_zero (by simpa using hl)
    subst hn
    refine ⟨o,w,?_,ho,hcap,fun _ _ h _=>h,fun _ _ _=>rfl,fun b hb=> .inr hb,.inl ⟨h2,rfl,h3,h4⟩⟩
    rw [ho,h3]
    cases hbs:o.base with
    |none=>simp [Builtin.append_,run_underlying ht,sizeOf,typeInfo,hi,Builtin.lenOf,Builtin.firstCells,loadCells,loadCellsFrom]
    |some ad0=>simp [Builtin.append_,run_underlying ht,sizeOf,typeInfo,hi,Builtin.lenOf,Builtin.firstCells,loadCells,loadCellsFrom,storeCells]
   ·cases hbs:o.base with
    |some ad0=>
     have:=grow ad0 hbs (fun j u hj=>by simp at hj) ad rfl (by omega)
     rw [hbs] at this;exact this
    |none=>
    have hr:=run_append_nil (P:=P) w t ty e i z ht hi hz ad m c news hl SQ (by omega) (by omega) (by simp only [Nat.zero_add] at hbytes;omega)
    have hge:=grownCap_ge w m 0 e
    refine ⟨{blk:=some w.heap.size,base:=some ⟨w.heap.size,0,none⟩,len:=m,cap:=grownCap w m 0 e},w.drew.alloc (.cells (news.toArray++Builtin.zeroCells z.cells (grownCap w m 0 e- m)) e),?_,by simp,by simpa using hge,fun av W hf _=>Fr.alloc (w:=w.drew) ⟨hf.os,hf.tape,hf.output,hf.size,hf.block,Nat.le_succ_of_le hf.Pd⟩ _,fun b hb _=>Below.heap_alloc w.drew _ b hb,fun b hb=>by cases hb;exact .inl rfl,.inr ⟨w.heap.size,[],(Builtin.zeroCells z.cells (grownCap w m 0 e- m)).toList,e,rfl,rfl,?_,?_,?_,fun _=>rfl⟩⟩
    ·rw [ho,h3];exact hr
    ·rw [show (([]:List Value)++(([]:List Value)++news++(Builtin.zeroCells z.cells (grownCap w m 0 e- m)).toList)).toArray=news.toArray++Builtin.zeroCells z.cells (grownCap w m 0 e- m) by apply Array.ext';simp]
     exact heap_alloc_new w.drew _
    ·simp only [List.nil_append,List.length_append,Array.length_toList,size_zeroCells,hzs,hl,←Nat.add_mul]
     congr 1;omega
    ·exact grownCap_le_maxLen w m 0 e (by omega)
  ·by_cases hroom:n+m≤o.cap
   ·have hfit:pre.length+n*i.size+news.length≤(pre++(vals++rest)).toArray.size:=by
     have:=Nat.mul_le_mul_right i.size hroom
     rw [h5,Nat.add_mul] at this
     simp only [List.size_toArray,List.length_append] at this ⊢
     rw [hl];omega
    have hr:=GQ (P:=P) w t ty e e0 i ht hi b n o.cap _ h4 ad m c news hl SQ h1 pre.length hroom hfit
    have e1:(pre++(vals++rest)).take (pre.length+n*i.size)=pre++vals:=by
     rw [List.take_append,List.take_of_length_le (by omega),Nat.add_sub_cancel_left,<- hv,List.take_left]
    have e2:(pre++(vals++rest)).drop (pre.length+n*i.size+news.length)=rest.drop news.length:=by
     rw [List.drop_append,List.drop_of_length_le (by omega),List.nil_append,<- hv,List.drop_append,List.drop_of_length_le (by omega),List.nil_append];congr 1;omega
    simp only [e1,e2] at hr
    refine ⟨{o with len:=n+m},w.setRow b (pre++vals++news++rest.drop news.length).toArray,?_,rfl,hroom,fun av W hf hp=>hf.setRow (hp b h2) _,fun k hk hne=>setRow_other w b k _ (by rintro rfl;exact hne h2),fun b hb=> .inr hb,.inr ⟨b,pre,rest.drop news.length,e0,h2,h3,?_,?_,h6,h7⟩⟩
    ·rw [ho,h3];exact hr
    ·rw [show pre++(vals++news++rest.drop news.length)=pre++vals++news++rest.drop news.length by simp]
     exact setRow_heap w b _ _ e0 _ h4
    ·show o.cap*i.size=_
     rw [h5]
     simp only [List.length_append,List.length_drop]
     simp only [List.size_toArray,List.length_append] at hfit
     omega
   ·refine grow _ h3 (fun j u hj=> ?_) ad rfl hroom
    rw [Oj,bL h4,List.getElem?_append_right (by omega),Nat.add_sub_cancel_left,List.getElem?_append_left (List.getElem?_eq_some_iff.1 hj).1];exact hj
theorem jk.to {w:World} {o:Loc} {rk rk' n s:Nat} {vals:List Value} (h:jk w o rk n s vals) (hr:rk=3->rk'=3):jk w o rk' n s vals:=by
 rcases h with ⟨h1,h2,h3,h4⟩|⟨b,pre,rest,e,h1,h2,h3,h4,h5,h6⟩
 ·exact .inl ⟨h1,h2,h3,fun q=>h4 fun q'=>q (hr q')⟩
 ·exact .inr ⟨b,pre,rest,e,h1,h2,h3,h4,h5,fun q=>h6 fun q'=>q (hr q')⟩
theorem agV {rk:Nat} {f:Bool} (h:rk≠0):rC rk f≠0:=by
 unfold rC
 split
 ·exact h
 ·split<;>decide
theorem zF {rk:Nat} {f:Bool} (h:rC rk f=2):rk=2/\ f=true:=by
 unfold rC at h
 split at h
 ·exact ⟨h,rfl⟩
 ·split at h<;>cases h
theorem US {rk:Nat} {f:Bool} (h:rk=3):rC rk f=3:=by
 subst h
 cases f<;>rfl
theorem R5 {i:Option Ty} {x:AV} {kk:(t:Ty)->List t.T->Nat->List Nat->Nat->List Nat->Prop} (h:R4 i x hp kk): ∃t l rk gone c tb,kk t l rk gone c tb/\ rk≠0/\
  ((x= .v (.one (.raw (.slice none 0 0)))/\ l= []/\ gone= []/\ c=0)\/ (∃n,x= .v (.one (.full n))/\ gone= [n]/\ c=0/\ hp n=some (.row t l rk))\/ ∃n off cs et,x= .v (.one (.sl n off 0 c))/\ l= []/\ gone= []/\ rk=3/\ tb= [n]/\ hp n=some (.cells cs et)):=by
 unfold R4 at h
 split at h
 ·split at h
  ·exact ⟨_,[],2,[],0,[],h,by decide,.inl ⟨rfl,rfl,rfl,rfl⟩⟩
  ·exact h.elim
 ·rename_i n
  split at h
  ·rename_i t l rk he
   split at h
   ·exact h.elim
   ·rename_i sQ
    exact ⟨t,l,rk,[n],0,[],h,sQ,.inr (.inl ⟨n,rfl,rfl,rfl,he⟩)⟩
  ·exact h.elim
 ·rename_i n off c
  split at h
  ·split at h
   ·rename_i cs et he
    exact ⟨_,[],3,[],c,[n],h,by decide,.inr (.inr ⟨n,off,cs,et,rfl,rfl,rfl,rfl,rfl,he⟩)⟩
   ·exact h.elim
  ·exact h.elim
 ·exact h.elim
theorem LL {ns:List Nat} {m:Nat} :cm (ns.map fun n=>(n,aD.gone)) m=if m∈ns then some .gone else none:=by
 induction ns with
 |nil=>simp [cm]
 |cons a r ih=>
  simp only [List.map_cons,cm,ih,List.mem_cons]
  by_cases h1:m∈r
  ·simp [h1]
  ·by_cases h2:a=m
   ·subst h2;simp [h1]
   ·simp [h1,h2,Ne.symm h2]
theorem Gu: ∀(t:Ty) (cs r:List Cell) (ns:List Nat) (f:Bool),Ch hp t cs=some (ns,f,r)-> ∀n,n∈ns->hp n≠none
 | .int _,cs,r,ns,f,h,n,hn=>by
  simp only [Ch] at h
  split at h<;>cases h;simp at hn
 | .bool,cs,r,ns,f,h,n,hn=>by
  simp only [Ch] at h
  split at h<;>cases h;simp at hn
 | .str,cs,r,ns,f,h,n,hn=>by
  simp only [Ch] at h
  split at h<;>cases h;simp at hn
 | .prod a b,cs,r,ns,f,h,n,hn=>by
  simp only [Ch] at h
  split at h
  ·rename_i h1
   split at h
   ·rename_i h2
    cases h
    rcases List.mem_append.1 hn with hn|hn
    ·exact Gu a _ _ _ _ h1 n hn
    ·exact Gu b _ _ _ _ h2 n hn
   ·cases h
  ·cases h
 | .sl u,cs,r,ns,f,h,n,hn=>by
  simp only [Ch] at h
  split at h
  ·split at h
   ·cases h;simp at hn
   ·split at h
    ·rename_i he
     split at h
     ·cases h;simp at hn
     ·cases h;simp at hn;subst hn;rw [he];simp
    ·split at h
     ·split at h<;>cases h
      simp at hn
     ·cases h
    ·cases h
   ·split at h
    ·rename_i he
     cases h;simp at hn;subst hn;rw [he];simp
    ·cases h
   ·cases h
  ·cases h
theorem Qe {t:Ty} : ∀(k:Nat) (cs:List Cell) (ns:List Nat) (f:Bool),Z4 hp t k cs=some (ns,f)-> ∀n,n∈ns->hp n≠none
 |0,cs,ns,f,h,n,hn=>by simp only [Z4,Option.some.injEq,Prod.mk.injEq] at h;rw [<- h.1] at hn;simp at hn
 |k+1,cs,ns,f,h,n,hn=>by
  simp only [Z4] at h
  split at h
  ·rename_i h1
   split at h
   ·rename_i h2
    cases h
    rcases List.mem_append.1 hn with hn|hn
    ·exact Gu t _ _ _ _ h1 n hn
    ·exact Qe k _ _ _ h2 n hn
   ·cases h
  ·cases h
theorem UR {t:Ty} {y:AV} {ab:List Nat} {f:Bool} (h:FV hp t y=some (ab,f)): ∀n,n∈ab->hp n≠none:=by
 intro n hn
 unfold FV at h
 split at h
 ·cases h;simp at hn
 ·split at h
  ·split at h
   ·exact Qe _ _ _ _ h n hn
   ·cases h
  ·split at h
   ·split at h<;>cases h<;>simp at hn
   ·cases h;simp at hn
   ·cases h
  ·cases h;simp at hn
  ·cases h
theorem UU (hT:di P ctx.tt) {t t' e e' ty:TypeId} {ei:TI} (ht:P.underlying t=some (.slice e)) (ht':P.underlying t'=some (.slice e')) (mC:aL ctx.tt e=some ei) {x y:AV} (h:R6 x y ei hp nm k):
  ∃r,aO P ctx.X hp nm (fun Kn=>x.ok Kn/\ y.ok Kn) (fun ρ=>Builtin.append_ #[t,t'] ty #[x.ae ρ,y.ae ρ]) (fun ρ=>r.val.ae ρ) r/\ k r:=by
 unfold R6 at h
 obtain ⟨u,l,rk,gone,cc,tb,hq,sQ,hx⟩:=R5 h
 clear h
 have h:=hq
 clear hq
 split at h
 rotate_left
 ·exact h.elim
 rename_i hc
 obtain ⟨hsz,hby,hz0⟩:=hc
 split at h
 rotate_left
 ·exact h.elim
 rename_i yc
 split at h
 rotate_left
 ·exact h.elim
 rename_i ys tc hys
 split at h
 rotate_left
 ·exact h.elim
 rename_i ab f hab
 split at h
 rotate_left
 ·exact h.elim
 rename_i ja
 rw [Bool.and_eq_true] at ja
 have hcc:cc=0\/ cc<ys.length:=by
  rcases Bool.or_eq_true _ _▸ja.2 with q|q
  ·exact .inl (Nat.le_zero.1 (Nat.le_of_ble_eq_true q))
  ·exact .inr (Nat.le_of_ble_eq_true q)
 have ja:=fq ja.1
 obtain ⟨hlen,h⟩:=bh h
 have hlen:=of_decide_eq_true hlen
 have hgl: ∀n,n∈gone-> ∃rk,hp n=some (.row u l rk):=fun n hn=>by
  rcases hx with ⟨_,_,rfl,_⟩|⟨m,_,rfl,_,he⟩|⟨_,_,_,_,_,_,rfl,_⟩
  ·simp at hn
  ·simp at hn;subst hn;exact ⟨_,he⟩
  ·simp at hn
 have aup: ∀n,n∈ab->hp n≠none:=UR hab
 refine ⟨_,⟨fun p fh=> ?_,?_⟩,h⟩
 ·obtain ⟨n,hn,rfl⟩:=List.mem_map.1 fh
  rcases List.mem_append.1 hn with hn|hn
  ·obtain ⟨_,e⟩:=hgl n hn;rw [e];simp
  ·exact aup n hn
 intro av W ρ Kn Γ w _ hk j7 hfr hst
 have hn: ¬Kn nm:=by simpa using hfr 0 (by simp)
 obtain ⟨inf,hi,Jl,ar4,hiz,_⟩:=(hT e ei mC).2.2
 have hz:ei.zero.cells.size=inf.size:=by rw [Jl,<- hz0];simp [mB]
 obtain ⟨a,c,news,ey,hyc,hnews,hcell⟩:=Hf hys hab av W ρ Kn Γ w (fun m hm=>j7 m (by simp [hm])) hst
 have hnl:news.length=ys.length*inf.size:=by rw [<- hnews.length,bE,Jl,hsz]
 have hold: ∃(o:Loc) (sub:Nat->Option Addr×Nat),x.ae ρ= .slice o.base o.len o.cap/\ o.len=l.length/\ l.length<=o.cap/\
   (jk w o rk l.length inf.size (aJ sub 0 (ay u l))\/ (o.blk=none/\ l.length=0/\ (∃ad,o.base=some ad)/\ o.cap<ys.length))/\
   (∀q u' l',(ay u l)[q]? =some (.sl u' l')->fH w (fun b=>dV ρ Γ w b/\ (rk=2->uk av W b/\ YG w b)) (sub q) u' l')/\ ∀b,o.blk=some b-> ∃g,g∈gone/\ (Γ g).isSome=true/\ (ρ g).blk=some b:=by
  rcases hx with ⟨rfl,rfl,rfl,_⟩|⟨n,rfl,rfl,_,he⟩|⟨n,off,cs,et,rfl,rfl,rfl,rfl,rfl,he⟩
  ·exact ⟨{},fun _=>(none,0),rfl,rfl,Nat.le_refl _,.inl (.inl ⟨rfl,rfl,rfl,fun _=>rfl⟩),fun q u' l' hq=>by simp [ay] at hq,fun b hb=>by cases hb⟩
  ·have bQ:Γ n=some (.row u l rk):=by rw [j7 n (by simp),he]
   obtain ⟨o1,o2,o3,sub,m1,m2,m3,m4⟩:=hst.at_ n _ bQ
   exact ⟨ρ n,sub,rfl,o1,o3,.inl (by rw [Jl,hsz];exact m4 sQ),m2,fun b hb=>⟨n,by simp,by simp [bQ],hb⟩⟩
  ·refine ⟨{base:=addrOf ρ n off,cap:=cc},fun _=>(none,0),rfl,rfl,Nat.zero_le _,?_,fun q u' l' hq=>by simp [ay] at hq,fun b hb=>by cases hb⟩
   rcases hcc with rfl|q
   ·exact .inl (.inl ⟨rfl,rfl,rfl,fun q=>absurd rfl q⟩)
   ·have bQ:Γ n=some (.cells cs et):=by rw [j7 n (by simp),he]
    obtain ⟨b,hb,_⟩:=hst.at_ n _ bQ
    exact .inr ⟨rfl,rfl,⟨{block:=b,off:=off,spot:=none},show addrOf ρ n off=_ by rw [addrOf,hb];rfl⟩,q⟩
 obtain ⟨o,sub,ex,ol,oc,avn,asS,aqm⟩:=hold
 have hvl:(aJ sub 0 (ay u l)).length=l.length*inf.size:=by rw [bM,bE,Jl,hsz]
 obtain ⟨o',w',hrun,e1,e2,e3,e4,e5,e6⟩:=OO (P:=P) (ty:=ty) w t e inf ei.zero ht hi hiz hz (by omega) (by rw [Jl];exact (hT e ei mC).2.1) o l.length rk _ hvl ol ys.length avn oc a c news hnl hcell
  (Wg (fun c hc=>row_one c hc) hnews) hlen
 have hown: ∀b,o.blk=some b->W.heap.size<=b\/ av b:=fun b hb=>by
  obtain ⟨g,_,h2,h3⟩:=aqm b hb
  exact hst.own g b h2 h3
 have auD:=e3 av W hst.fr hown
 let x':Loc:= {o' with es:=u.size,jq:= []}
 have hx':bA ρ nm x' nm=x':=by simp [bA]
 have oH: ∀b,o'.blk=some b->(w.heap.size<=b\/ ∃g,g∈gone++ab/\ (Γ g).isSome=true/\ (ρ g).blk=some b)/\ (W.heap.size<=b\/ av b):=fun b hb=>by
  rcases e5 b hb with rfl|h1
  ·exact ⟨.inl (Nat.le_refl _),.inl hst.fr.size⟩
  ·obtain ⟨g,h2,h3,h4⟩:=aqm b h1
   exact ⟨.inr ⟨g,by simp [h2],h3,h4⟩,hown b h1⟩
 refine ⟨bA ρ nm x',w',?_,jL hn,.inr (by simp),?_⟩
 ·show (Builtin.append_ #[t,t'] ty #[x.ae ρ,yc.ae ρ]).run P w= .ok (.slice (bA ρ nm x' nm).base (bA ρ nm x' nm).len (bA ρ nm x' nm).cap) w'
  rw [hx',ex,ey,R7 ht ht'];exact hrun
 ·rw [show oI Kn nm {val:=AV.v (.one (.full nm)),fresh:= [aD.row u (l++ys) (rC rk f)],writes:=(gone++ab).map fun n=>(n,.gone),aF:=gone++ab++tc++tb} =Ob Kn nm by
   funext m;simp only [oI,Ob,List.length_singleton];congr 1;apply propext;omega]
  refine hst.swap (G:=gone++ab) (o:=aD.row u (l++ys) (rC rk f)) (x:=x') hn auD (fun b hb hne=>e4 b hb hne) oH (fun m p hp=> ?_) trivial (fun _ h=>by cases h) fun hfz VJ=> ?_
  ·simp only [bV,List.length_singleton,LL] at hp
   by_cases h1:nm<=m/\ m<nm+1
   ·rw [if_pos h1,show m- nm=0 by omega] at hp
    simp only [List.getElem?_cons_zero,live,Option.some.injEq] at hp
    exact .inl ⟨by omega,hp.symm⟩
   ·rw [if_neg h1] at hp
    by_cases h2:m∈gone++ab
    ·rw [if_pos h2] at hp;cases hp
    ·rw [if_neg h2] at hp
     exact .inr ⟨by omega,h2,hp⟩
  ·rw [bp,hx']
   have arV:bN (dQ w' (fun b=>dV (bA ρ nm x') (bV {val:=AV.v (.one (.full nm)),fresh:= [aD.row u (l++ys) (rC rk f)],writes:=(gone++ab).map fun n=>(n,.gone),aF:=gone++ab++tc++tb} nm Γ) w' b/\ (rC rk f=2->uk av W b/\ YG w' b))) (ay u (l++ys)) (aJ sub 0 (ay u l)++news):=by
    rw [oO]
    refine bN.append ?_ (hnews.mono fun c v hcv=> ?_)
    ·have: ∀(cs:List cw) (q:Nat),(∀i u' l',cs[i]? =some (cw.sl u' l')→fH w (fun b=>dV ρ Γ w b∧(rk=2→uk av W b∧YG w b)) (sub (q+i)) u' l')→bN (dQ w' (fun b=>dV (bA ρ nm x') (bV {val:=AV.v (.one (.full nm)),fresh:= [aD.row u (l++ys) (rC rk f)],writes:=(gone++ab).map fun n=>(n,.gone),aF:=gone++ab++tc++tb} nm Γ) w' b∧(rC rk f=2→uk av W b∧YG w' b))) cs (aJ sub q cs):=by
      intro cs
      induction cs with
      |nil=>intro q _;trivial
      |cons c r ih=>
       intro q hcq
       refine ⟨?_,ih (q+1) fun i u' l' hi=>by
        have:=hcq (i+1) u' l' (by simpa using hi)
        rwa [show q+(i+1)=q+1+i by omega] at this⟩
       cases c with
       |flat v=>rfl
       |sl u' l'=>
        exact ⟨_,_,rfl,(hcq 0 u' l' rfl).mono fun b hb=>⟨⟨(hfz b hb.1).1,fun e=>⟨(hb.2 (zF e).1).1,(hb.2 (zF e).1).2.same (hfz b hb.1).2⟩⟩,(hfz b hb.1).2⟩⟩
     exact this _ 0 fun i u' l' hi=>by simpa using asS i u' l' hi
    ·cases c with
     |flat v0=>exact hcv
     |sl u' l'=>
      obtain ⟨a',c',rfl,hn'⟩:=hcv
      refine ⟨a',c',rfl,hn'.mono fun b hb=> ?_⟩
      rcases hb with ⟨m,h1,h2,h3,h4c⟩|⟨h1,h2⟩
      ·have gy:b<w.heap.size:=by
        obtain ⟨p,hp⟩:=Option.isSome_iff_exists.1 h2
        exact L2 (hst.at_ m p hp) h3
       have dR:o'.blk≠some b:=fun e=>by
        rcases e5 b e with rfl|h5
        ·omega
        ·obtain ⟨g,g1,g2,g3⟩:=aqm b h5
         have:=hst.inj g m b g2 h2 g3 h3
         subst this
         exact (List.nodup_append.1 ja).2.2 g g1 g h1 rfl
       exact ⟨⟨VJ m b (by simp [h1]) h2 h3 dR h4c (fun hh=>(hst.ru b hh).2 ⟨m,h2,.inl h3⟩),fun _=>⟨(hst.own m b h2 h3).imp_right .inl,(hst.avt m b h2 h3).same (e4 b gy dR)⟩⟩,e4 b gy dR⟩
      ·exact ⟨⟨(hfz b h1).1,fun e=>⟨(h2 (zF e).2).1,(h2 (zF e).2).2.same (hfz b h1).2⟩⟩,(hfz b h1).2⟩
   obtain ⟨s1,s2⟩:=kS arV
   have asm:rC rk f≠0:=agV sQ
   refine ⟨by simp [x',e1],rfl,by simpa [x'] using e2,uK (aJ sub 0 (ay u l)++news),fun i v hv=> ?_,s2,fun e=>absurd e asm,fun _=> ?_⟩
   ·rw [s1] at hv
    rcases e6 with ⟨_,h2,_⟩|⟨b,pre,rest,e0,h1,h2,h3,_⟩
    ·have:=(List.getElem?_eq_some_iff.1 hv).1
     rw [List.length_append,hvl,hnl,<- Nat.add_mul,h2] at this;omega
    ·refine ⟨_,h2,?_,fun e=>absurd e asm⟩
     have e1:(⟨b,pre.length,none⟩:Addr).add i=⟨b,pre.length+i,none⟩:=by unfold Addr.add;split<;>simp_all
     rw [e1,bL h3,List.getElem?_append_right (by omega),Nat.add_sub_cancel_left,List.getElem?_append_left (List.getElem?_eq_some_iff.1 hv).1];exact hv
   ·rw [s1,List.length_append]
    have e6:=e6.to (rk':=rC rk f) US
    rw [Jl,hsz] at e6
    exact e6
theorem St.none (w:World) (ρ:Env):St A6 w ρ (fun _=>False) (fun _=>none) w:=
 ⟨Fr.refl _ _,fun n o h=>(by cases h),fun n o h=>(by cases h),fun n m b h=>(by cases h),fun n b h=>(by cases h),fun b ⟨m,S,h,_⟩=>(by cases h),fun n o h=>(by cases h)⟩
theorem agq {t:Ty} {z:t.T} {v:Value} {tc:List Nat} (hf:t.flat=true) (h:ct (fun _=>none) t (mB v)=some (z,[],tc)) (w:World):v.cells.toList=(t.aU z).map bJ:=by
 obtain ⟨ys,e,_,ha⟩:=mT _ t _ _ _ _ h
 have:=ha A6 w (fun _=> {}) (fun _=>False) (fun _=>none) w (fun _ _=>rfl) (St.none w _)
 rw [List.append_nil] at e
 rw [<- e,mB,JV] at this
 have key: ∀(cs:List cw) (vs:List Value),(∀c∈cs,∃v,c= .flat v)->bN (Kp w (Zx w)) cs vs->vs=cs.map bJ:=by
  intro cs
  induction cs with
  |nil=>intro vs _ h;cases vs<;>first|rfl|exact h.elim
  |cons c r ih=>
   intro vs hc h
   cases vs with
   |nil=>exact h.elim
   |cons v s=>
    obtain ⟨u,rfl⟩:=hc c (by simp)
    have h1:v=u:=h.1
    rw [h1,ih s (fun c hm=>hc c (by simp [hm])) h.2];rfl
 exact key _ _ (fun c hc=>gV hf hc) this
theorem Dd (t:Ty) (z:t.T): ∀n,bf t (List.replicate n z)=(List.replicate n ((t.aU z).map bJ)).flatten
 |0=>by simp [bf,ay]
 |n+1=>by
  have:=Dd t z n
  simp only [bf] at this ⊢
  rw [List.replicate_succ,iU,List.map_append,this,List.replicate_succ,List.flatten_cons]
theorem Qv (l:List Value) (d:Value) (hl:0<l.length): ∀n,(List.range (n*l.length)).map (fun i=>l.getD (i % l.length) d)=(List.replicate n l).flatten
 |0=>by simp
 |n+1=>by
  rw [Nat.succ_mul,List.range_add,List.map_append,Qv l d hl n,List.replicate_succ',List.flatten_append]
  congr 1
  apply List.ext_getElem?
  intro j
  simp only [List.map_map,List.getElem?_map,List.flatten_cons,List.flatten_nil,List.append_nil]
  rcases Nat.lt_or_ge j l.length with hj|hj
  ·rw [List.getElem?_range hj]
   simp only [Option.map_some,Function.comp]
   rw [Nat.mul_comm,Nat.mul_add_mod,Nat.mod_eq_of_lt hj,List.getD,List.getElem?_eq_getElem hj];rfl
  ·rw [List.getElem?_eq_none (by simpa using hj),List.getElem?_eq_none hj];rfl
theorem Mt (f:Nat->Value):(Array.range 0).map f= #[]:=by apply Array.ext';simp [Array.toList_range]
theorem yd (hT:di P ctx.tt) {t:TypeId} {i:TI} (ht:aL ctx.tt t=some i) {x y:AV} (h:mY ctx i x y nm k):
  ∃r,aO P ctx.X hp nm (fun _=>True) (fun ρ=>Instr.makeSlice t (x.ae ρ) (y.ae ρ)) (fun ρ=>r.val.ae ρ) r/\ k r:=by
 unfold mY at h
 split at h
 rotate_left
 ·exact h.elim
 rename_i d e n c hd
 split at h
 rotate_left
 ·exact h.elim
 rename_i ei mC
 split at h
 rotate_left
 ·exact h.elim
 rename_i u hu
 split at h
 rotate_left
 ·exact h.elim
 rename_i hc
 obtain ⟨hf,hsz,hby,hz0⟩:=hc
 split at h
 rotate_left
 ·exact h.elim
 rename_i z tcz hz
 obtain ⟨hb,h⟩:=bh h
 simp only [Bool.and_eq_true,decide_eq_true_eq] at hb
 obtain ⟨⟨hn0,hnc⟩,axt⟩:=hb
 have VH:c<(1099511627776:Int):=by omega
 refine ⟨_,⟨fun p hp=>absurd hp (by simp),?_⟩,h⟩
 intro av W ρ Kn Γ w _ _ _ hfr hst
 have hn: ¬Kn nm:=by simpa using hfr 0 (by simp)
 obtain ⟨inf,hi,Jl,ar4,hiz,_⟩:=(hT e ei mC).2.2
 have hpos:=(hT e ei mC).2.1
 have hzv:=agq hf hz w
 have hzs:ei.zero.cells.size=ei.size:=by rw [<- hz0];simp [mB]
 have hut:P.underlying t=some (.slice e):=by rw [(hT t i ht).1,hd]
 have wr: ∀q:Int,0<=q->q<1099511627776->IntKind.i64.wrap q=q:=fun q h1 h2=>by rw [IntKind.wrap_i64];omega
 let cells:Array Value:=(Array.range (c.toNat*inf.size)).map (ei.zero.cells[· % ei.zero.cells.size]!)
 have Zh:cells.toList=(List.replicate c.toNat ei.zero.cells.toList).flatten:=by
  have:=Qv ei.zero.cells.toList default (by rw [Array.length_toList,hzs];exact hpos) c.toNat
  rw [<- this]
  simp only [cells,Array.toList_map,Array.toList_range,Array.length_toList,hzs,Jl]
  refine List.map_congr_left fun j _=> ?_
  rw [List.getD,Array.getElem?_toList,getElem!_def]
  cases ei.zero.cells[j % ei.size]? <;>rfl
 have hrun:(Instr.makeSlice t (.int .i64 n) (.int .i64 c)).run P w= .ok (.slice (some ⟨w.heap.size,0,none⟩) n.toNat c.toNat) (w.alloc (.cells cells e (0,0))):=by
  have gy:(inf.bytes:Int)*c<=281474976710656:=by
   have h1:(inf.bytes:Int)*c<=128*c:=Int.mul_le_mul_of_nonneg_right (by omega) (by omega)
   omega
  have t1: ¬(281474976710656:Int)<(inf.bytes:Int)*c:=by omega
  have t2: ¬(c<0):=by omega
  have t3: ¬(n<0):=by omega
  have t4: ¬(c<n):=by omega
  have wn:=wr n hn0 (by omega)
  have wc:=wr c (by omega) VH
  have hp2:inf.size≠0:=by omega
  by_cases hc0:c<=0
  ·obtain rfl:c=0:=by omega
   obtain rfl:n=0:=by omega
   have e0:cells= #[]:=by simp [cells]
   rw [e0]
   simp [Instr.makeSlice,run_underlying hut,asInt,asIntOf,typeInfo,hi,wc,sizeOf,newRow]
   rw [Mt]
  ·simp [Instr.makeSlice,run_underlying hut,asInt,asIntOf,typeInfo,hi,wn,wc,t1,t2,t3,t4,sizeOf,zeroValue,hiz,hc0,hp2,newRow,cells]
   intro h0;rw [h0,Mt,Mt]
 let x':Loc:= {blk:=some w.heap.size,base:=some ⟨w.heap.size,0,none⟩,len:=n.toNat,cap:=c.toNat,es:=u.size}
 have hx':bA ρ nm x' nm=x':=by simp [bA]
 refine ⟨bA ρ nm x',w.alloc (.cells cells e (0,0)),?_,jL hn,.inr (by simp),?_⟩
 ·show (Instr.makeSlice t (.int .i64 n) (.int .i64 c)).run P w= .ok (.slice (bA ρ nm x' nm).base (bA ρ nm x' nm).len (bA ρ nm x' nm).cap) _
  rw [hx'];exact hrun
 ·rw [JQ]
  have ea:bV {val:= .v (.one (.full nm)),fresh:= [.row u (List.replicate n.toNat z) 2]} nm Γ=fO Γ nm (.row u (List.replicate n.toNat z) 2):=by
   funext q;simp only [bV,fO,List.length_singleton,cm]
   by_cases h:q=nm
   ·subst h;simp [live]
   ·have: ¬(nm≤q∧q<nm+1):=by omega
    simp [h,this]
  rw [ea]
  refine hst.swap (G:= []) (o:= .row u (List.replicate n.toNat z) 2) (x:=x') hn (hst.fr.alloc _) (fun b hb _=>Below.heap_alloc _ _ _ hb) (fun b hb=>by cases hb;exact ⟨.inl (Nat.le_refl _),.inl hst.fr.size⟩) (fun m p hp=> ?_) trivial (fun _ h=>by cases h) fun _ _=> ?_
  ·unfold fO at hp
   split at hp
   ·rename_i e1;cases hp;exact .inl ⟨e1,rfl⟩
   ·rename_i e1;exact .inr ⟨e1,by simp,hp⟩
  ·rw [bp,hx']
   have hfl:aJ (fun _=>(none,0)) 0 (ay u (List.replicate n.toNat z))=bf u (List.replicate n.toNat z):=by
    have: ∀(cs:List cw) q,(∀c∈cs,∃v,c= .flat v)->aJ (fun _=>(none,0)) q cs=cs.map bJ:=by
     intro cs
     induction cs with
     |nil=>intro q _;rfl
     |cons c r ih=>
      intro q hc
      obtain ⟨v,rfl⟩:=hc c (by simp)
      simp only [aJ,List.map_cons]
      rw [ih (q+1) fun c hm=>hc c (by simp [hm])];rfl
    exact this _ 0 fun c hc=>fb hf hc
   have SU:cells.toList=bf u (List.replicate n.toNat z)++(List.replicate (c.toNat- n.toNat) ei.zero.cells.toList).flatten:=by
    rw [Zh,Dd,<- hzv,<- List.flatten_append,List.replicate_append_replicate,show n.toNat+(c.toNat- n.toNat)=c.toNat by omega]
   have hheap:(w.alloc (.cells cells e (0,0))).heap[w.heap.size]? =some (.cells (bf u (List.replicate n.toNat z)++(List.replicate (c.toNat- n.toNat) ei.zero.cells.toList).flatten).toArray e (0,0)):=by
    rw [heap_alloc_new,<- SU]
   refine ⟨by simp [x'],rfl,by simp [x'];omega,fun _=>(none,0),fun i v hv=>⟨_,rfl,?_,fun e=>by cases e⟩,fun q u' l' hq=> ?_,fun e=>(by cases e),fun _=>jk.new (.inr ⟨w.heap.size,_,e,rfl,rfl,by rw [hfl];exact hheap,?_⟩)⟩
   ·have e1:(⟨w.heap.size,0,none⟩:Addr).add i=⟨w.heap.size,i,none⟩:=by unfold Addr.add;split<;>simp_all
    rw [hfl] at hv
    rw [e1,bL hheap,List.getElem?_append_left (List.getElem?_eq_some_iff.1 hv).1];exact hv
   ·obtain ⟨v,hv⟩:=fb hf (List.mem_of_getElem? hq)
    cases hv
   ·refine ⟨?_,by show c.toNat≤_;omega⟩
    rw [hfl,<- SU]
    simp only [x',cells,Array.length_toList,Array.size_map,Array.size_range,Jl,hsz]
theorem Ou (hT:di P ctx.tt) {t:TypeId} {i:TI} (ht:aL ctx.tt t=some i) (h:mY ctx i (.v (.one (.raw (.int .i64 0)))) (.v (.one (.raw (.int .i64 0)))) nm k):
  ∃r,aO P ctx.X hp nm (fun _=>True) (fun _=>Instr.buildSlice t 0 #[]) (fun ρ=>r.val.ae ρ) r/\ k r:=by
 have hd': ∃e ei,i.desc= .slice e/\ aL ctx.tt e=some ei:=by
  unfold mY at h
  cases hd:i.desc<;>rw [hd] at h<;>try (exact h.elim)
  rename_i e
  dsimp only at h
  cases mC:aL ctx.tt e with
  |none=>rw [mC] at h;exact h.elim
  |some ei=>exact ⟨e,ei,rfl,mC⟩
 obtain ⟨e,ei,hd,mC⟩:=hd'
 obtain ⟨r,h1,h2⟩:=yd (hp:=hp) hT ht h
 refine ⟨r,⟨h1.1,fun av W ρ Kn Γ w a1 a2 a3 a4 a5=> ?_⟩,h2⟩
 obtain ⟨ρ',w',e1,rest⟩:=h1.2 av W ρ Kn Γ w a1 a2 a3 a4 a5
 refine ⟨ρ',w',?_,rest⟩
 have hut:P.underlying t=some (.slice e):=by rw [(hT t i ht).1,hd]
 obtain ⟨inf,hi,Jl,ar4,hiz,_⟩:=(hT e ei mC).2.2
 have w0:IntKind.i64.wrap 0=0:=by rw [IntKind.wrap_i64];omega
 have hb:(Instr.buildSlice t 0 #[]).run P w= .ok (.slice (some ⟨w.heap.size,0,none⟩) 0 0) (w.alloc (.cells #[] e (0,0))):=by
  simp [Instr.buildSlice,run_underlying hut,hT.sz mC,newRow,Instr.fill,Mt]
 have hm:(Instr.makeSlice t (.int .i64 0) (.int .i64 0)).run P w= .ok (.slice (some ⟨w.heap.size,0,none⟩) 0 0) (w.alloc (.cells #[] e (0,0))):=by
  simp [Instr.makeSlice,run_underlying hut,asInt,asIntOf,typeInfo,hi,w0,sizeOf,newRow]
  rw [Mt]
 rw [hb,<- hm]
 exact e1
theorem nR {u:Ty} (hf:u.flat=true) (sub:Nat->Option Addr×Nat) (l:List u.T):aJ sub 0 (ay u l)=bf u l:=by
 have key: ∀(cs:List cw) (q:Nat),(∀c∈cs,∃v,c= .flat v)->aJ sub q cs=cs.map bJ:=by
  intro cs
  induction cs with
  |nil=>intro q _;rfl
  |cons c r ih=>
   intro q hc
   obtain ⟨v,rfl⟩:=hc c (by simp)
   simp only [aJ,List.map_cons,ih (q+1) fun c hm=>hc c (by simp [hm])]
   rfl
 exact key _ 0 fun c hc=>fb hf hc
theorem Qb {w:World} {ok:Nat->Prop} : ∀ {cs:List cw} {vs:List Value},(∀c∈cs,∃v,c= .flat v)->bN (dQ w ok) cs vs->vs=cs.map bJ
 | [],[],_,_=>rfl
 |c::r,v::s,hc,h=>by
  obtain ⟨q,rfl⟩:=hc c (by simp)
  have h1:v=q:=h.1
  rw [Qb (fun c hm=>hc c (by simp [hm])) h.2,h1];rfl
 | [],_::_,_,h=>h.elim
 |_::_,[],_,h=>h.elim
theorem iw {u:Ty} (l:List u.T):(bf u l).length=l.length*u.size:=by simp [bf,bE]
theorem adT {α:Type} (l ys:List α) (s d:Nat) (h:d<=l.length- s) (hs:s<=l.length):(ke l s d ys).length=l.length:=by
 unfold ke tL
 have:Nat.min ys.length d<=d:=Nat.min_le_right _ _
 have:Nat.min ys.length d<=ys.length:=Nat.min_le_left _ _
 simp only [List.length_append,List.length_take,List.length_drop]
 omega
theorem adS (hT:di P ctx.tt) {t t' e ty:TypeId} {ei:TI} (ht:P.underlying t=some (.slice e)) (mC:aL ctx.tt e=some ei) {x y:AV} (h:ahg x y ei hp k):
  ∃r,aO P ctx.X hp nm (fun Kn=>x.ok Kn/\ y.ok Kn) (fun ρ=>Builtin.copy_ #[t,t'] ty #[x.ae ρ,y.ae ρ]) (fun ρ=>r.val.ae ρ) r/\ k r:=by
 unfold ahg at h
 split at h
 rotate_left
 ·exact h.elim
 rename_i p yc
 obtain ⟨n,s,q,u,l,o0,F3,tc,he,h,mD,hp1,asc,_,hle,_,_,hall⟩:=sH h
 obtain ⟨rk,he⟩: ∃rk,hp n=some (.row u l rk):=by
  rcases o0.2 with ⟨rk,e⟩|⟨g,c,kk,x,e⟩|⟨c,st,kn,e⟩
  ·exact ⟨rk,by rw [he,e]⟩
  ·rw [e] at he;rw [he] at h;exact h.elim
  ·rw [e] at he;rw [he] at h;exact h.elim
 rw [he] at h
 dsimp only at h
 split at h
 rotate_left
 ·exact h.elim
 rename_i hc
 obtain ⟨⟨sQ,aiu⟩,hf,hsz⟩:=hc
 split at h
 rotate_left
 ·exact h.elim
 rename_i ys CN hys
 have h:=h.2 _ rfl
 refine ⟨_,⟨fun z hz=>by simp at hz;subst hz;rw [he];simp,?_⟩,h⟩
 intro av W ρ Kn Γ w _ hk j7 hfr hst
 have bQ:Γ n=some (.row u l rk):=by rw [j7 n (by simp),he]
 obtain ⟨a,c,news,ey,hyc,hnews,hcell⟩:=Hf (ab:= []) (f:=true) hys (by simp [FV,hf]) av W ρ Kn Γ w (fun m hm=>j7 m (by simp [hm])) hst
 obtain ⟨g1,g2,g3,g4,g5,_,_,gj⟩:=hall av W ρ Kn Γ w (fun m hm=>j7 m (by simp [hm])) hst
 have hnews:news=bf u ys:=Qb (fun c hc=>fb hf hc) hnews
 subst hnews
 obtain ⟨inf,hi,Jl,_,_,_⟩:=(hT e ei mC).2.2
 have au8:inf.size=u.size:=by rw [Jl,hsz]
 let k0:=Nat.min ys.length F3
 have UD:tL F3 ys.length=k0:=rfl
 have hk1:k0<=ys.length:=Nat.min_le_left _ _
 have hk2:k0<=F3:=Nat.min_le_right _ _
 let V:List Value:=(bf u ys).take (k0*u.size)
 have hVl:V.length=k0*u.size:=by
  show ((bf u ys).take (k0*u.size)).length=_
  rw [List.length_take,iw]
  exact Nat.min_eq_left (Nat.mul_le_mul_right _ hk1)
 have Zk:(Builtin.firstCells inf.size k0 (.slice a ys.length c)).run P w= .ok V.toArray w:=by
  cases a with
  |some ad=>
   refine run_firstCells_some (P:=P) w inf.size k0 ad ys.length c V (by rw [hVl,au8]) fun j v hv=> ?_
   have hv':(bf u ys)[j]? =some v:=by
    have:=hv
    simp only [V,List.getElem?_take] at this
    split at this
    ·exact this
    ·cases this
   obtain ⟨ad',e1,e2⟩:=hcell j v hv'
   cases e1;exact e2
  |none=>
   have:V= []:=by
    cases hV:V with
    |nil=>rfl
    |cons v r=>
     have hv:V[0]? =some v:=by rw [hV];rfl
     simp only [V,List.getElem?_take] at hv
     split at hv
     ·obtain ⟨_,e1,_⟩:=hcell 0 v hv;cases e1
     ·cases hv
   rw [this]
   exact run_firstCells_none (P:=P) (w:=w) _ _ _ _
 have hlen:(ke l (iD s 0) F3 ys).length=l.length:=by
  by_cases h0:k0=0
  ·unfold ke;rw [UD,h0];simp
  ·exact adT l ys _ _ hle (by have:=asc 0 (by omega);omega)
 have eSt: ∀(v:AV) (tcs:List Nat),oI Kn nm {val:=v,writes:= [(n,aD.row u (ke l (iD s 0) F3 ys) rk)],aF:=tcs} =Kn:=fun v tcs=>fS _ _ _ _ _
 by_cases h0:k0=0
 ·
  have hl':ke l (iD s 0) F3 ys=l:=by unfold ke;rw [UD,h0];simp
  have hV0:V= []:=List.eq_nil_of_length_eq_zero (by rw [hVl,h0,Nat.zero_mul])
  refine ⟨ρ,w,?_,fun _ _=>rfl,trivial,?_⟩
  ·show (Builtin.copy_ #[t,t'] ty #[.slice (ρ p).base (ρ p).len (ρ p).cap,yc.ae ρ]).run P w=_
   rw [ey,g4]
   simp only [Builtin.copy_]
   have hnn:Nat.min ys.length F3=k0:=rfl
   cases hb:(ρ p).base with
   |none=>simp [run_underlying ht,Builtin.lenOf,sizeOf,typeInfo,hi,hnn,Zk,goInt,hV0,iA,AV.ae,A0.ae,Cell.ae,UD]
   |some ad=>simp [run_underlying ht,Builtin.lenOf,sizeOf,typeInfo,hi,hnn,Zk,goInt,hV0,iA,AV.ae,A0.ae,Cell.ae,UD,storeCells]
  ·rw [eSt,mL _ _ _ _ _ _ rfl,hl']
   have:fO Γ n (.row u l rk)=Γ:=by
    funext m;unfold fO;split
    ·rename_i e1;subst e1;exact bQ.symm
    ·rfl
   rw [this];exact hst
 ·obtain ⟨o1,o2,o3,sub,m1,m2,m3,m4⟩:=hst.at_ n _ bQ
  have N9:0<F3:=by omega
  have asd:=asc 0 N9
  rcases (m4 sQ).old aiu with ⟨_,z0,_⟩|⟨b,rest,e0,hb,hbase,hh,hcap⟩
  ·subst z0;simp at asd
  obtain ⟨aN,aP,q1,q2,q3⟩:=gj 0 N9
  rw [hbase] at q1;cases q1
  have auU:iD s 0+k0<=l.length:=by omega
  have hP:aP=⟨b,iD s 0*u.size,none⟩:=by
   have:aP.add (0*u.size)=aP:=by simp [Addr.add]
   rw [this] at q3
   rw [q3];unfold Addr.add;split<;>simp_all
  rw [nR hf] at hh hcap
  have hF:bf u (ke l (iD s 0) F3 ys)=(bf u l).take (iD s 0*u.size)++V++(bf u l).drop (iD s 0*u.size+k0*u.size):=by
   unfold ke
   rw [UD]
   show (ay u _).map bJ=_
   rw [oO,oO,List.map_append,List.map_append,kq,kq,iV,List.map_take,List.map_take,List.map_drop,Nat.add_mul]
   rfl
  have axm:iD s 0*u.size+k0*u.size<=l.length*u.size:=by rw [<- Nat.add_mul];exact Nat.mul_le_mul_right _ auU
  have hone: ∀v∈V,v.oneCell'=true:=fun v hv=>by
   have hv:=List.mem_of_mem_take hv
   obtain ⟨c,hc,rfl⟩:=List.mem_map.1 hv
   obtain ⟨v,rfl⟩:=fb hf hc
   exact row_one _ hc v rfl
  have Gi:=run_storeCells_at P b (iD s 0*u.size) e0 V 0 _ w hh (by simp only [List.size_toArray,List.length_append,iw,hVl];omega) hone
  have Zh:((bf u l++rest).toArray.toList.take (iD s 0*u.size+0)++V++(bf u l++rest).toArray.toList.drop (iD s 0*u.size+0+V.length))=bf u (ke l (iD s 0) F3 ys)++rest:=by
   rw [hF,Nat.add_zero,hVl]
   rw [List.take_append_of_le_length (by rw [iw];omega),List.drop_append_of_le_length (by rw [iw];omega)]
   simp only [List.append_assoc]
  rw [Zh] at Gi
  have hnn:Nat.min ys.length F3=k0:=rfl
  have hrun:(Builtin.copy_ #[t,t'] ty #[.slice (ρ p).base (ρ p).len (ρ p).cap,yc.ae ρ]).run P w= .ok (.int .i64 (k0:Nat)) (w.setRow b (bf u (ke l (iD s 0) F3 ys)++rest).toArray):=by
   rw [ey,g4,q2,hP]
   simp [Builtin.copy_,run_underlying ht,Builtin.lenOf,sizeOf,typeInfo,hi,hnn,Zk,goInt,Gi]
  refine ⟨ρ,_,hrun,fun _ _=>rfl,trivial,?_⟩
  rw [eSt,mL _ _ _ _ _ _ rfl]
  refine hst.write bQ hb trivial (fun _ h=>by cases h) fun hfz=> ?_
  have YE:=setRow_heap w b _ (bf u (ke l (iD s 0) F3 ys)++rest).toArray _ _ hh
  refine ⟨by rw [hlen];exact o1,o2,by rw [hlen];exact o3,sub,fun m v hm=> ?_,fun m u' l' hm=> ?_,m3,fun _=>jk.new (.inr ⟨b,rest,e0,hb,hbase,by rw [nR hf];exact YE,?_⟩)⟩
  ·refine ⟨_,hbase,?_,fun e=>absurd e sQ⟩
   rw [nR hf] at hm
   have e1:(⟨b,0,none⟩:Addr).add m=⟨b,m,none⟩:=by unfold Addr.add;split<;>simp_all
   rw [e1,bL YE,List.getElem?_append_left (List.getElem?_eq_some_iff.1 hm).1];exact hm
  ·obtain ⟨v,hv⟩:=fb hf (List.mem_of_getElem? hm);cases hv
  ·exact ⟨by rw [hcap.1,nR hf];simp [iw,hlen],hcap.2⟩
end
end Go.Ev
