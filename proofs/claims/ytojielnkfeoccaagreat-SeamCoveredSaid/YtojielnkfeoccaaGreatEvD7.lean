/- Deep rows: slices in a row's elements are read, and written. -/
import Derived.Test.YtojielnkfeoccaaGreatEvD4
noncomputable section
set_option linter.unusedSectionVars false
set_option linter.unusedVariables false
set_option linter.unusedSimpArgs false
namespace Go.Ev
open Go.RowKit
section
variable {P:Program} {ctx:Ctx} {hp:HP} {nm:Nat} {k:Rec->Prop}
theorem iJ {o:Option aQ} (h:qw o=true): ∃n,o=some (.set n):=by
 unfold qw at h
 split at h
 ·exact ⟨_,rfl⟩
 ·cases h
theorem oP {m:Nat} {kk:(n c j q:Nat)->(t:Ty)->List t.T->(st kn:Bool)->(u:Ty)->List u.T->Prop} (h:zZ hp m kk):
  ∃n c j q t l st kn u x g,hp m=some (.nv n c j q u)/\ hp n=some (.dp t l c st kn)/\ hp c=some (.set g)/\ j<l.length/\ (t.aL (gd t l j))[q]? =some (.sl u x)/\ kk n c j q t l st kn u x:=by
 unfold zZ at h
 split at h<;>try (exact h.elim)
 rename_i n c j q u he
 split at h<;>try (exact h.elim)
 rename_i t l c' st kn vg
 split at h<;>try (exact h.elim)
 rename_i hc
 obtain ⟨rfl,gw⟩:=hc
 obtain ⟨g,hg⟩:=iJ gw
 have Qn:=br h
 clear h
 obtain ⟨hj,h⟩:=Qn
 split at h<;>try (exact h.elim)
 rename_i u' x hx
 split at h<;>try (exact h.elim)
 rename_i hu;subst hu
 exact ⟨n,c',j,q,t,l,st,kn,u',x,g,he,vg,hg,by simpa using hj,hx,h⟩
theorem pK {w:World} {x:Loc} (h: ∀e∈x.cG,Ce w e) {a:Addr} {v v':Value} (hv:jc x.cG a v) (Mg:jc x.cG a v'):v=v':=by
 have:=(nc h hv).1
 rw [(nc h Mg).1] at this
 exact (Option.some.inj this).symm
theorem Ot {ax:jh} {W w:World} {ρ:Env} {Kn:Nat->Prop} {Γ:HP} (hst:St ax W ρ Kn Γ w) {m n c j q g:Nat} {t u:Ty} {l:List t.T} {st kn:Bool} {x:List u.T}
  (hm:Γ m=some (.nv n c j q u)) (hn:Γ n=some (.dp t l c st kn)) (hc:Γ c=some (.set g)) (hj:j<l.length) (hq:(t.aL (gd t l j))[q]? =some (.sl u x)):
  u.flat=true/\ (ρ m).len=x.length/\ (ρ m).es=u.size/\ x.length<=(ρ m).cap/\ ∀i v,(aI u x)[i]? =some v-> ∃a v',(ρ m).base=some a/\ jc (ρ c).cG (a.add i) v'/\ (kn=true->v'=v):=by
 obtain ⟨_,_,o2,_,sub,rb,h0,h1,h2⟩:=hst.at_ n _ hn
 obtain ⟨_,p1,a,p2,p3⟩:=hst.at_ m _ hm
 obtain ⟨_,s1,_⟩:=hst.at_ c _ hc
 have hp:=qu hj hq
 rw [h0 (by rintro rfl;exact absurd hj (Nat.not_lt_zero _))] at p2
 cases p2
 have e:=h1 (j*t.size+q) _ (by rw [bl,hp];rfl)
 rw [o2,l7,Nat.zero_add] at p3
 have e:=pK s1 p3 e
 simp only [ew,Value.slice.injEq,Nat.zero_add] at e
 obtain ⟨e1,e2,e3⟩:=e
 obtain ⟨g1,g2,g3⟩:=h2 _ u x hp
 refine ⟨g1,e2,p1,by rw [e3];exact g2,fun i v hv=> ?_⟩
 obtain ⟨a,v',f1,_,f3,f4⟩:=g3 i v hv
 exact ⟨a,v',by rw [e1];exact f1,f3,f4⟩
theorem Kj (hT:aX P ctx.tt) {t:TypeId} {i:TI} (ht:aG ctx.tt t=some i) {x ix:AV} (h:Ie ctx i x ix hp k):
  ∃r,aJ P ctx.X hp nm (fun Kn=>x.ok Kn/\ ix.ok Kn) (fun ρ=>Instr.indexAt t (x.ae ρ) (ix.ae ρ)) (fun ρ=>r.val.ae ρ) r/\ k r:=by
 unfold Ie at h
 split at h<;>try (exact h.elim)
 rename_i kk j0 m
 split at h<;>try (exact h.elim)
 rename_i e hd
 split at h<;>try (exact h.elim)
 rename_i ei iD
 replace h:=oP h
 obtain ⟨n,c,j,q,t',l,st,kn,u,y,g,hm,hn,hc,hj,hq,h⟩:=h
 have Qn:=br h
 clear h
 obtain ⟨hj0,h⟩:=Qn
 have hj0:=jZ hj0
 split at h<;>try (exact h.elim)
 rename_i hsz
 refine ⟨_,aJ.pure fun ax W ρ Kn Γ w _ hk dH hst=> ?_,h⟩
 obtain ⟨g1,g2,g3,g4,g5⟩:=Ot hst (by rw [dH m (by simp),hm]) (by rw [dH n (by simp),hn]) (by rw [dH c (by simp),hc]) hj hq
 have hpos:=u.size_pos
 obtain ⟨a,v',ha,_⟩:=g5 0 _ (List.getElem?_eq_getElem (by rw [cW];exact Nat.mul_pos (by omega) hpos))
 refine ⟨?_,hk.1⟩
 rw [dJ ha]
 simp [AV.ae,A0.ae,Cell.ae,ha,Instr.indexAt,asIntOf,hT.u ht,hd,g2,hj0,hT.sz iD,hsz,g3]
theorem Jq (hT:aX P ctx.tt) {t:TypeId} {i:TI} (ht:aG ctx.tt t=some i) {x:AV} (h:Hu i x hp nm k):
  ∃r,aJ P ctx.X hp nm (fun Kn=>x.ok Kn) (fun ρ=>Instr.loadAt t (x.ae ρ)) (fun ρ=>r.val.ae ρ) r/\ k r:=by
 unfold Hu at h
 split at h<;>try (exact h.elim)
 rename_i n j q
 split at h<;>try (exact h.elim)
 ·rename_i t' l c st kn hn
  split at h<;>try (exact h.elim)
  rename_i hc
  obtain ⟨gw,l5⟩:=hc
  obtain ⟨g,hc⟩:=iJ gw
  have Qn:=br h
  clear h
  obtain ⟨hj,h⟩:=Qn
  have hj:j<l.length:=by simpa using hj
  split at h<;>try (exact h.elim)
  rename_i u z hq
  refine ⟨_,⟨fun p hp=>absurd hp (by simp),?_⟩,h⟩
  intro ax W ρ Kn Γ w _ hk dH hfr hst
  have hnm: ¬Kn nm:=by simpa using hfr 0 (by simp)
  have cm:Γ n=some (.dp t' l c st kn):=by rw [dH n (by simp),hn]
  have jN:Γ c=some (.set g):=by rw [dH c (by simp),hc]
  obtain ⟨_,_,o2,_,sub,rb,h0,h1,h2⟩:=hst.at_ n _ cm
  obtain ⟨_,s1,_⟩:=hst.at_ c _ jN
  have hp:=qu hj hq
  have hb:=h0 (by rintro rfl;exact absurd hj (Nat.not_lt_zero _))
  have e:=h1 (j*t'.size+q) _ (by rw [bl,hp];rfl)
  simp only [ew,Nat.zero_add] at e
  let X:Loc:= {blk:=none,base:=(sub (j*t'.size+q)).1,len:=z.length,cap:=(sub (j*t'.size+q)).2,es:=u.size}
  have hX:aZ ρ nm X nm=X:=by simp [aZ]
  have Md:aZ ρ nm X n=ρ n:=bY hnm n (hst.kn n _ cm).1
  have HD:aZ ρ nm X c=ρ c:=bY hnm c (hst.kn c _ jN).1
  refine ⟨aZ ρ nm X,w,?_,bY hnm,.inr (by simp),?_⟩
  ·show (Instr.loadAt t ((AV.v (.one (.bA n j q))).ae ρ)).run P w=Result.ok (.slice (aZ ρ nm X nm).base (aZ ρ nm X nm).len (aZ ρ nm X nm).cap) w
   rw [dJ hb,l7,o2,hX]
   have hcell:=(nc s1 e).1
   simp [Instr.loadAt,Instr.sureAddr,loadVar,hT.ag ht,l5,hcell,X]
  ·rw [oD]
   refine hst.swap (G:= []) (o:= .nv n c j q u) (x:=X) hnm hst.fr (fun _ _ _=>rfl) (fun b hb=>by cases hb) (fun m p hp=> ?_) ⟨.inl (hst.kn n _ cm).1,.inl (hst.kn c _ jN).1⟩ (fun _ h=>by cases h) fun _ _=> ?_
   ·simp only [cq,List.length_singleton,ct] at hp
    split at hp
    ·rename_i h1
     rw [show m- nm=0 by omega] at hp
     simp only [List.getElem?_cons_zero,live,Option.some.injEq] at hp
     exact .inl ⟨by omega,hp.symm⟩
    ·rename_i h1
     exact .inr ⟨by omega,by simp,hp⟩
   ·rw [bu,hX,Md,HD]
    refine ⟨rfl,rfl,_,hb,?_⟩
    rw [l7,Nat.zero_add,o2];exact e
 ·replace h:=oP h
  obtain ⟨n',c,j',q',t',l,st,kn,u,y,g,hm,hn,hc,hj',ZG,h⟩:=h
  split at h<;>try (exact h.elim)
  rename_i hsz
  have Qn:=br h
  clear h
  obtain ⟨hkn,h⟩:=Qn
  have Qn:=br h
  clear h
  obtain ⟨hj,h⟩:=Qn
  have hj:j<y.length:=by simpa using hj
  generalize hvw:fC 0 (bB u y j q i.size)=vw at h
  obtain ⟨cs,os⟩:=vw
  dsimp only at h
  split at h<;>try (exact h.elim)
  rename_i v hv
  refine ⟨_,aJ.pure fun ax W ρ Kn Γ w _ hk dH hst=> ?_,h⟩
  have jN:Γ c=some (.set g):=by rw [dH c (by simp),hc]
  obtain ⟨Lj,g2,g3,g4,g5⟩:=Ot hst (by rw [dH n (by simp),hm]) (by rw [dH n' (by simp),hn]) jN hj' ZG
  obtain ⟨_,s1,_⟩:=hst.at_ c _ jN
  have hpos:=u.size_pos
  obtain ⟨a,v0,ha,_⟩:=g5 0 _ (List.getElem?_eq_getElem (by rw [cW];exact Nat.mul_pos (by omega) hpos))
  have hfl: ∀x∈bB u y j q i.size,∃v,x= .flat v:=fun x hx=>St.views.dL u Lj _ x (List.mem_of_mem_drop (List.mem_of_mem_take hx))
  rw [vU _ _ hfl] at hvw
  cases hvw
  have hcell: ∀m v,((bB u y j q i.size).map aR)[m]? =some v->w.cell? ((a.add (j*u.size+q)).add m)=some v:=fun m v hm=>by
   rw [dF]
   rw [List.getElem?_map] at hm
   obtain ⟨x,hx,rfl⟩:=Option.map_eq_some_iff.1 hm
   unfold bB at hx
   rw [List.getElem?_take] at hx
   split at hx
   ·rw [List.getElem?_drop] at hx
    have:=qu hj hx
    have h12:(aI u y)[j*u.size+q+m]? =some (aR x):=by
     unfold aI
     rw [List.getElem?_map,show j*u.size+q+m=j*u.size+(q+m) by omega,this];rfl
    obtain ⟨a',v',f1,f2,f3⟩:=g5 _ _ h12
    rw [ha] at f1;cases f1
    rw [f3 hkn] at f2
    exact (nc s1 f2).1
   ·cases hx
  have hlen:((bB u y j q i.size).map aR).length=i.size:=by simp [bB,aK];omega
  have ex:(AV.v (.one (.bA n j q))).ae ρ= .pointer (some (a.add (j*u.size+q))):=by rw [dJ ha,g3]
  have HD:((bB u y j q i.size).map fun c=>Cell.raw (aR c)).map (Cell.ae ρ)=(bB u y j q i.size).map aR:=by
   rw [List.map_map];rfl
  refine ⟨?_,?_⟩
  ·show (Instr.loadAt t ((AV.v (.one (.bA n j q))).ae ρ)).run P w=_
   rw [ex]
   simp only [Instr.loadAt,Instr.sureAddr,Sem.run_bind,Sem.run_pure,Result.andThen_ok]
   unfold oI at hv
   split at hv
   ·rename_i l5
    cases hv
    have zo:=run_loadCells_list (P:=P) w (a.add (j*u.size+q)) _ hcell
    rw [hlen] at zo
    simp [loadVar,hT.ag ht,l5,hT.sz ht,zo,AV.ae,A0.ae,HD]
   ·rename_i l5
    split at hv
    ·rename_i c0 hc0
     cases hv
     have L8:=HD
     rw [hc0] at L8
     simp only [List.map_cons,List.map_nil] at L8
     have:=hcell 0 (c0.ae ρ) (by rw [<- L8];rfl)
     rw [dF,Nat.add_zero] at this
     simp [loadVar,hT.ag ht,l5,this,AV.ae,A0.ae]
    ·cases hv
  ·unfold oI at hv
   have hok: ∀c∈(bB u y j q i.size).map fun c=>Cell.raw (aR c),c.ok Kn:=fun c hc=>by
    obtain ⟨_,_,rfl⟩:=List.mem_map.1 hc;trivial
   split at hv
   ·cases hv;exact hok
   ·split at hv
    ·rename_i c0 hc0
     cases hv
     exact hok c0 (by rw [hc0];simp)
    ·cases hv
def jx (b off:Nat) (y:Value) (e:qa):qa:=if e.blk=some b then {e with vals:=e.vals.set off y} else e
theorem kU (b off:Nat) (y:Value) (e:qa):(jx b off y e).blk=e.blk:=by unfold jx;split<;>rfl
theorem Ff {es:List qa} {b off:Nat} {y:Value} {a:Addr} {v:Value} (h:jc es a v): ∃v',jc (es.map (jx b off y)) a v'/\ (a≠⟨b,off,none⟩->v'=v)/\ (a=⟨b,off,none⟩->v'=y):=by
 obtain ⟨e,b1,o1,h1,rfl,h2,h3⟩:=h
 by_cases hb:b1=b
 ·subst hb
  by_cases ho:o1=off
  ·subst ho
   refine ⟨y,⟨jx b1 o1 y e,b1,o1,List.mem_map_of_mem h1,rfl,by rw [kU];exact h2,?_⟩,fun h=>absurd rfl h,fun _=>rfl⟩
   unfold jx
   rw [if_pos h2]
   exact List.getElem?_set_self (List.getElem?_eq_some_iff.1 h3).1
  ·refine ⟨v,⟨jx b1 off y e,b1,o1,List.mem_map_of_mem h1,rfl,by rw [kU];exact h2,?_⟩,fun _=>rfl,fun h=>by injection h with _ h _;exact absurd h ho⟩
   unfold jx
   rw [if_pos h2]
   dsimp only
   rw [List.getElem?_set_ne (Ne.symm ho)];exact h3
 ·refine ⟨v,⟨jx b off y e,b1,o1,List.mem_map_of_mem h1,rfl,by rw [kU];exact h2,?_⟩,fun _=>rfl,fun h=>by injection h with h _ _;exact absurd h hb⟩
  unfold jx
  rw [if_neg (by rw [h2];intro h;cases h;exact hb rfl)];exact h3
theorem TS (t:Ty) (l:List t.T):TQ t l=(ai t l).flatMap On:=by
 unfold TQ ai;rw [List.flatMap_assoc]
theorem Ke (u:Ty) (x:List u.T):On (.sl u x)=aI u x:=by
 unfold On aI ai;rw [List.map_flatMap]
theorem um {α β:Type} {f:α->List β} : ∀ {L:List α} {p p' i i':Nat} {a a':α} {v:β},(L.flatMap f).Nodup->L[p]? =some a->L[p']? =some a'->(f a)[i]? =some v->(f a')[i']? =some v->p=p'/\ i=i'
 | [],p,p',i,i',a,a',v,_,h,_,_,_=>by simp at h
 |c::L,p,p',i,i',a,a',v,hn,h1,h2,h3,h4=>by
  rw [List.flatMap_cons,List.nodup_append] at hn
  obtain ⟨n1,n2,n3⟩:=hn
  have mem: ∀ {p:Nat} {a:α} {i:Nat},L[p]? =some a->(f a)[i]? =some v->v∈L.flatMap f:=fun h h'=>List.mem_flatMap.2 ⟨_,List.mem_of_getElem? h,List.mem_of_getElem? h'⟩
  cases p with
  |zero=>
   simp only [List.getElem?_cons_zero,Option.some.injEq] at h1;subst h1
   cases p' with
   |zero=>
    simp only [List.getElem?_cons_zero,Option.some.injEq] at h2;subst h2
    refine ⟨rfl,?_⟩
    obtain ⟨l3,e3⟩:=List.getElem?_eq_some_iff.1 h3
    obtain ⟨l4,e4⟩:=List.getElem?_eq_some_iff.1 h4
    have YB:=List.pairwise_iff_getElem.1 n1
    rcases Nat.lt_trichotomy i i' with h|h|h
    ·exact absurd (e3.trans e4.symm) (YB i i' l3 l4 h)
    ·exact h
    ·exact absurd (e4.trans e3.symm) (YB i' i l4 l3 h)
   |succ p'=>exact absurd rfl (n3 v (List.mem_of_getElem? h3) v (mem (by simpa using h2) h4))
  |succ p=>
   cases p' with
   |zero=>
    simp only [List.getElem?_cons_zero,Option.some.injEq] at h2;subst h2
    exact absurd rfl (n3 v (List.mem_of_getElem? h4) v (mem (by simpa using h1) h3))
   |succ p'=>
    obtain ⟨e1,e2⟩:=um n2 (by simpa using h1) (by simpa using h2) h3 h4
    exact ⟨by rw [e1],e2⟩
theorem EN {t u:Ty} {l:List t.T} {j q:Nat} {x':t.T} {z':List u.T} (hj:j<l.length) (hq:q<t.size) (hx:t.aL x'=setCells (t.aL (gd t l j)) q [.sl u z']) (p:Nat):
  (ai t (l.set j x'))[p]? =if p=j*t.size+q then some (.sl u z') else (ai t l)[p]? :=by
 have hrl:=bk t l
 have Rp:j*t.size+t.size<=l.length*t.size:=by rw [<- Nat.succ_mul];exact Nat.mul_le_mul_right _ (by omega)
 rw [mC t x' l j hj,dR _ _ _ _ (by rw [aK];omega),aK,hx]
 by_cases h1:j*t.size<=p/\ p<j*t.size+t.size
 ·rw [if_pos h1,dR _ _ _ _ (by rw [aK];simp;omega)]
  by_cases h2:p=j*t.size+q
  ·subst h2
   rw [if_pos rfl,if_pos (by constructor<;>simp<;>omega)]
   have:j*t.size+q- j*t.size- q=0:=by omega
   rw [this];rfl
  ·rw [if_neg (by simp;omega),if_neg h2]
   have:=j8 t l j _ (p- j*t.size) (HC hj) (by omega)
   rw [show j*t.size+(p- j*t.size)=p by omega] at this
   exact this.symm
 ·rw [if_neg h1,if_neg (by omega)]
theorem wP (l:List Int):aI (.int .i64) l=l.map fun n=>Value.int .i64 n:=by
 unfold aI ai
 rw [List.map_flatMap]
 induction l with
 |nil=>rfl
 |cons a r ih=>rw [List.flatMap_cons,ih];rfl
theorem KC {u:Ty} {x z:List u.T} {k0:Nat} {y:Int} (h:setInt u x k0 y=some z):u.size=1/\ z.length=x.length/\ aI u z=(aI u x).set k0 (.int .i64 y):=by
 cases u with
 |int kk=>
  cases kk with
  |i64=>
   obtain rfl:List.set (show List Int from x) k0 y=z:=Option.some.inj h
   refine ⟨rfl,List.length_set,(wP _).trans ?_⟩
   rw [List.map_set]
   exact congrArg (fun q:List Value=>q.set k0 (.int .i64 y)) (wP _).symm
  |_=>cases h
 |_=>cases h
theorem R7 {ax:jh} {W w:World} {ρ:Env} {Kn:Nat->Prop} {Γ:HP} (hst:St ax W ρ Kn Γ w) {m n c j q g:Nat} {t u:Ty} {l l2:List t.T} {st kn Wc:Bool} {x:List u.T} {nm:Nat} {y:Value} {b off k0:Nat} {cells:Array Value} {a0:Addr}
  (hm:Γ m=some (.nv n c j q u)) (hn:Γ n=some (.dp t l c st kn)) (hc:Γ c=some (.set g)) (hj:j<l.length) (hq:(t.aL (gd t l j))[q]? =some (.sl u x)) (hnm: ¬Kn nm)
  (hb:(ρ c).has b) (hbase:(ρ m).base=some a0) (Xm:a0.add k0=⟨b,off,none⟩) (gw: ∀e∈(ρ c).cG,Ce (w.setRow b cells) (jx b off y e)) (zo:l2.length=l.length)
  (hh: ∀i v,(∃sub,(aF sub 0 (ai t l2))[i]? =some v)->i<(ai t l).length) (hv: ∀sub,aF sub 0 (ai t l2)=aF sub 0 (ai t l))
  (hN: ∀sub:Nat->Option Addr×Nat,(sub (j*t.size+q)).1=some a0->(∀p u' l',(ai t l)[p]? =some (.sl u' l')->u'.flat=true/\ l'.length<=(sub p).2/\ ∀i v,(aI u' l')[i]? =some v-> ∃a v',(sub p).1=some a/\ jc (ρ c).cG (a.add i) v'/\ (kn=true->v'=v))->
   ∀p u' l',(ai t l2)[p]? =some (.sl u' l')->u'.flat=true/\ l'.length<=(sub p).2/\ ∀i v,(aI u' l')[i]? =some v-> ∃a,(sub p).1=some a/\ (∃v0,jc (ρ c).cG (a.add i) v0)/\ (Wc=true->(a.add i≠⟨b,off,none⟩->jc (ρ c).cG (a.add i) v)/\ (a.add i=⟨b,off,none⟩->v=y))) (Vf:k0<(aI u x).length):
  St ax W (aZ ρ nm {ρ c with cG:=(ρ c).cG.map (jx b off y)}) (rq Kn nm) (cq {val:=aT,fresh:= [.set n],writes:= [(n,.dp t l2 nm st Wc),(c,.gone),(m,.gone)],aB:= [m,n,c]} nm Γ) (w.setRow b cells):=by
 obtain ⟨q1,q2,q3,q4,sub,rb,h0,h1,h2⟩:=hst.at_ n _ hn
 obtain ⟨s0,s1,s2⟩:=hst.at_ c _ hc
 obtain ⟨_,p1,a,p2,p3⟩:=hst.at_ m _ hm
 let X:Loc:= {ρ c with cG:=(ρ c).cG.map (jx b off y)}
 have hX:aZ ρ nm X nm=X:=by simp [aZ]
 have hXb: ∀b',X.has b'↔(ρ c).has b':=fun b'=>by
  constructor
  ·rintro (h|⟨e,h1,h2⟩)
   ·exact .inl h
   ·obtain ⟨e',h3,rfl⟩:=List.mem_map.1 h1
    rw [kU] at h2
    exact .inr ⟨e',h3,h2⟩
  ·rintro (h|⟨e,h1,h2⟩)
   ·exact .inl h
   ·exact .inr ⟨_,List.mem_map_of_mem h1,by rw [kU];exact h2⟩
 have hcn:c≠n:=by rintro rfl;rw [hc] at hn;cases hn
 have hmn:m≠n:=by rintro rfl;rw [hm] at hn;cases hn
 have hkn:=(hst.kn n _ hn).1
 have Md:n≠nm:=by rintro rfl;exact hnm hkn
 let uP:HP:=fun z=>if z=nm then some (.set n) else if z=c\/ z=m then none else Γ z
 have sn:St ax W (aZ ρ nm X) (rq Kn nm) uP (w.setRow b cells):=by
  refine hst.XO (G:= [c,m]) (o:= .set n) (x:=X) hnm (hst.fr.setRow (hst.mA c b (by rw [hc];rfl) hb) _) (fun b' _ hx=>setRow_other _ _ _ _ (by rintro rfl;exact hx ((hXb _).2 hb))) (fun b' hx=>⟨.inr ⟨c,by simp,by rw [hc];rfl,(hXb b').1 hx⟩,hst.mA c b' (by rw [hc];rfl) ((hXb b').1 hx)⟩) (.inl ⟨_,rfl⟩) (fun z p hz=> ?_) (.inl hkn) (fun _ h=>by cases h) fun _ _=> ?_
  ·simp only [uP] at hz
   split at hz
   ·cases hz;exact .inl ⟨‹_›,rfl⟩
   ·split at hz
    ·cases hz
    ·rename_i e1 e2
     exact .inr ⟨e1,by simpa using e2,hz⟩
  ·rw [bu,hX]
   refine ⟨s0,fun e he=> ?_,?_⟩
   ·obtain ⟨e',h3,rfl⟩:=List.mem_map.1 he
    exact gw e' h3
   ·refine List.pairwise_map.2 (s2.imp fun h b' hb'=> ?_)
    rw [kU] at hb' ⊢
    exact h b' hb'
 have hne:l≠ []:=fun h=>by rw [h] at hj;exact absurd hj (Nat.not_lt_zero _)
 have hrb:b≠rb:=by
  have hp:=qu hj hq
  have e:=h1 (j*t.size+q) _ (by rw [bl,hp];rfl)
  rw [h0 hne] at p2
  cases p2
  rw [q3,l7,Nat.zero_add] at p3
  have e:=pK s1 p3 e
  simp only [ew,Value.slice.injEq,Nat.zero_add] at e
  obtain ⟨_,_,g3⟩:=h2 _ u x hp
  obtain ⟨a,v',f1,f2,f3,f4⟩:=g3 k0 _ (List.getElem?_eq_getElem Vf)
  rw [<- e.1,hbase] at f1;cases f1
  have hbb:a0.block=b:=by
   have:=congrArg Addr.block Xm
   rwa [dX] at this
  rw [<- hbb];exact f2
 have N6:(sub (j*t.size+q)).1=some a0:=by
  have hp:=qu hj hq
  have e:=h1 (j*t.size+q) _ (by rw [bl,hp];rfl)
  rw [h0 hne] at p2
  cases p2
  rw [q3,l7,Nat.zero_add] at p3
  have e:=pK s1 p3 e
  simp only [ew,Value.slice.injEq,Nat.zero_add] at e
  rw [<- e.1];exact hbase
 have S1:uP n=some (.dp t l c st kn):=by simp only [uP];rw [if_neg Md,if_neg (fun h=>h.elim (fun h=>hcn h.symm) fun h=>hmn h.symm)];exact hn
 let NF:HP:=bK uP n (.dp t l2 nm st Wc)
 have Qp: ∀z,(NF z).isSome=true->(uP z).isSome=true:=fun z hz=>by
  simp only [NF,bK] at hz
  split at hz
  ·rename_i e;subst e;rw [S1];rfl
  ·exact hz
 have o8:St ax W (aZ ρ nm X) (rq Kn nm) NF (w.setRow b cells):=by
  refine sn.qJ (fun _ _=>rfl) (fun _ h=>h) (fun z b' hz hb'=>⟨z,Qp z hz,hb'⟩) (fun z z' b' hz hz' h1 h2=>sn.eS z z' b' (Qp z hz) (Qp z' hz') h1 h2) (fun b' ⟨z,S,h1,h2⟩=> ?_) fun z o hz=> ?_
  ·simp only [NF,bK] at h1
   split at h1
   ·cases h1
   ·exact ⟨z,S,h1,h2⟩
  ·simp only [NF,bK] at hz
   split at hz
   rotate_left
   ·exact .inl hz
   rename_i e;subst e
   cases hz
   have S2:aZ ρ nm X z=ρ z:=bY hnm z hkn
   refine .inr ⟨.inl hkn,.inr rfl,.inr (by rw [S2];exact ((hst.vX z _ hn).resolve_left (by rintro ⟨_,h⟩;cases h))),fun _=> ?_⟩
   rw [bu,S2,hX]
   refine ⟨q1,by rw [zo];exact q2,q3,by rw [zo];exact q4,sub,rb,fun _=>h0 hne,fun i v hi=> ?_,fun p u' l' hp=> ?_⟩
   ·rw [hv] at hi
    obtain ⟨v',e1,e2,_⟩:=Ff (b:=b) (off:=off) (y:=y) (h1 i v hi)
    rw [<- e2 (by intro h;injection h with h _ _;exact hrb h.symm)];exact e1
   ·have L5: ∀p u' l',(ai t l)[p]? =some (.sl u' l')→u'.flat=true∧l'.length≤(sub p).2∧ ∀i v,(aI u' l')[i]? =some v→ ∃a v',(sub p).1=some a∧jc (ρ c).cG (a.add i) v'∧(kn=true→v'=v):=fun p u' l' hp=>by
     obtain ⟨g1,g2,g3⟩:=h2 p u' l' hp
     refine ⟨g1,g2,fun i v hi=> ?_⟩
     obtain ⟨a,v',f1,_,f3,f4⟩:=g3 i v hi
     exact ⟨a,v',f1,f3,f4⟩
    obtain ⟨g1,g2,g3⟩:=hN sub N6 L5 p u' l' hp
    refine ⟨g1,g2,fun i v hi=> ?_⟩
    obtain ⟨a,f1,⟨v0,f2⟩,f3⟩:=g3 i v hi
    obtain ⟨v',e1,e2,e3⟩:=Ff (b:=b) (off:=off) (y:=y) f2
    refine ⟨a,v',f1,?_,e1,fun hk=> ?_⟩
    ·
     have sj:(ai t l)[p]? ≠none:=by
      have:=(List.getElem?_eq_some_iff.1 hp).1
      have e4:(ai t l2).length=(ai t l).length:=by rw [bk,bk,zo]
      rw [e4] at this
      rw [List.getElem?_eq_getElem this];exact fun h=>by cases h
     obtain ⟨cc,HD⟩:=Option.ne_none_iff_exists'.1 sj
     have ev:=congrArg (fun L:List Value=>L[p]?) (hv sub)
     simp only [bl,hp,HD,Option.map_some,Nat.zero_add,Option.some.injEq] at ev
     cases cc with
     | flat v1=>exact (by
       have h5:=h1 p v1 (by rw [bl,HD];rfl)
       have h6:=congrArg (fun L:List Value=>L[p]?) (hv fun _=>(none,0))
       have h7:=congrArg (fun L:List Value=>L[p]?) (hv fun _=>(some a,1))
       simp only [bl,hp,HD,Option.map_some,Nat.zero_add,Option.some.injEq,ew] at h6 h7
       rw [<- h6] at h7
       simp at h7)
     |sl u3 l3=>
      simp only [ew,Value.slice.injEq] at ev
      obtain ⟨_,_,g6⟩:=h2 p u3 l3 HD
      by_cases BT:l3.length=0
      ·rw [←ev.2.1] at BT
       have:l'= []:=List.eq_nil_of_length_eq_zero BT
       subst this
       simp [aI,ai] at hi
      ·obtain ⟨a',v5,f5,f6,_⟩:=g6 0 _ (List.getElem?_eq_getElem (by rw [cW];exact Nat.mul_pos (by omega) u3.size_pos))
       rw [f1] at f5;cases f5;exact f6
    ·obtain ⟨f4,f5⟩:=f3 hk
     by_cases ha:a.add i=⟨b,off,none⟩
     ·rw [e3 ha,f5 ha]
     ·rw [e2 ha,pK s1 f2 (f4 ha)]
 have SF:cq {val:=aT,fresh:= [.set n],writes:= [(n,.dp t l2 nm st Wc),(c,.gone),(m,.gone)],aB:= [m,n,c]} nm Γ=NF:=by
  have hkc:=(hst.kn c _ hc).1
  have hkm:=(hst.kn m _ hm).1
  funext z
  simp only [cq,ct,List.length_singleton,NF,bK,uP]
  by_cases e1:z=nm
  ·subst e1
   rw [if_pos (by omega),if_neg (Ne.symm Md),if_pos rfl];simp [live]
  ·rw [if_neg (by omega)]
   by_cases e2:m=z
   ·subst e2;simp [live,hmn,e1]
   ·by_cases e3:c=z
    ·subst e3;simp [live,hcn,e1,e2]
    ·by_cases e4:n=z
     ·subst e4;simp [live,e2,e3]
     ·simp [e1,e2,e3,e4,Ne.symm e2,Ne.symm e3,Ne.symm e4]
 rw [SF];exact o8
theorem Hv (hT:aX P ctx.tt) {t:TypeId} {i:TI} (ht:aG ctx.tt t=some i) {x y:AV} (h:CG i x y hp nm k):
  ∃r,aJ P ctx.X hp nm (fun Kn=>x.ok Kn/\ y.ok Kn) (fun ρ=>Instr.storeAt t (x.ae ρ) (y.ae ρ)) (fun _=>()) r/\ r.val=aT/\ k r:=by
 unfold CG at h
 split at h<;>try (exact h.elim)
 rename_i m k0 r0 ys hys
 replace h:=oP h
 obtain ⟨n,c,j,q,t',l,st,kn,u,z,g,hm,hn,hc,hj,hq,h⟩:=h
 split at h<;>try (exact h.elim)
 rename_i y0 hy0
 split at h<;>try (exact h.elim)
 rename_i SK
 obtain ⟨rfl,hsz⟩:=SK
 split at h<;>try (exact h.elim)
 rename_i z' hz'
 have Qn:=br h
 clear h
 obtain ⟨Vf,h⟩:=Qn
 have Vf:k0<z.length:=by simpa using Vf
 obtain ⟨IQ,hzl,hzv⟩:=KC hz'
 have hy:ys= [.raw (.int .i64 y0)]:=fF (fun _=> {}) ys [y0] hy0
 have hfl:k0<(aI u z).length:=by rw [cW,IQ];omega
 have Vi:q<t'.size:=by have:=(List.getElem?_eq_some_iff.1 hq).1;rwa [aK] at this
 have main: ∀(l2:List t'.T) (Wc:Bool),l2.length=l.length->(∀sub,aF sub 0 (ai t' l2)=aF sub 0 (ai t' l))->
   (∀(es:List qa) (b off:Nat) (a0:Addr),a0.add k0=⟨b,off,none⟩->(∀a v v',jc es a v->jc es a v'->v=v')-> ∀sub:Nat->Option Addr×Nat,(sub (j*t'.size+q)).1=some a0->(∀p u' l',(ai t' l)[p]? =some (.sl u' l')->u'.flat=true/\ l'.length<=(sub p).2/\ ∀i v,(aI u' l')[i]? =some v-> ∃a v',(sub p).1=some a/\ jc es (a.add i) v'/\ (kn=true->v'=v))->
    ∀p u' l',(ai t' l2)[p]? =some (.sl u' l')->u'.flat=true/\ l'.length<=(sub p).2/\ ∀i v,(aI u' l')[i]? =some v-> ∃a,(sub p).1=some a/\ (∃v0,jc es (a.add i) v0)/\ (Wc=true->(a.add i≠⟨b,off,none⟩->jc es (a.add i) v)/\ (a.add i=⟨b,off,none⟩->v= .int .i64 y0)))->
   aJ P ctx.X hp nm (fun Kn=>(AV.v (.one (.bA m k0 0))).ok Kn/\ y.ok Kn) (fun ρ=>Instr.storeAt t ((AV.v (.one (.bA m k0 0))).ae ρ) (y.ae ρ)) (fun _=>()) {val:=aT,fresh:= [.set n],writes:= [(n,.dp t' l2 nm st Wc),(c,.gone),(m,.gone)],aB:= [m,n,c]} :=by
  intro l2 Wc zo hv2 hN
  refine ⟨fun p gN=> ?_,?_⟩
  ·simp only [List.mem_cons,List.not_mem_nil,or_false] at gN
   rcases gN with rfl|rfl|rfl
   ·rw [hn];simp
   ·rw [hc];simp
   ·rw [hm];simp
  intro ax W ρ Kn Γ w _ hk dH hfr hst
  have hnm: ¬Kn nm:=by simpa using hfr 0 (by simp)
  have sq:Γ m=some (.nv n c j q u):=by rw [dH m (by simp),hm]
  have tZ:Γ n=some (.dp t' l c st kn):=by rw [dH n (by simp),hn]
  have jN:Γ c=some (.set g):=by rw [dH c (by simp),hc]
  obtain ⟨Lj,g2,g3,g4,g5⟩:=Ot hst sq tZ jN hj hq
  obtain ⟨s0,s1,s2⟩:=hst.at_ c _ jN
  obtain ⟨a0,v',ha0,⟨e,b,off,he,Xm,heb,nk⟩,_⟩:=g5 k0 _ (List.getElem?_eq_getElem hfl)
  rcases s1 e he with ⟨h4,_⟩|⟨b',rest,Lm,h4,h5,h6,h7,h8,h9⟩
  ·rw [h4] at heb;cases heb
  rw [h4] at heb;cases heb
  have V8:off<e.vals.length:=(List.getElem?_eq_some_iff.1 nk).1
  have acW:(e.vals++rest).take (off+0)++ [Value.int .i64 y0]++(e.vals++rest).drop (off+0+1)=e.vals.set off (.int .i64 y0)++rest:=by
   rw [Nat.add_zero,List.take_append_of_le_length (by omega),List.drop_append_of_le_length (by omega),List.set_eq_take_append_cons_drop,if_pos V8]
   simp
  have hrun:(Instr.storeAt t ((AV.v (.one (.bA m k0 0))).ae ρ) (y.ae ρ)).run P w= .ok () (w.setRow b (e.vals.set off (.int .i64 y0)++rest).toArray):=by
   have nn:=run_storeCells_at P b off Lm [Value.int .i64 y0] 0 _ w h6 (by simp;omega) (fun v hv=>by simp only [List.mem_singleton] at hv;subst hv;rfl)
   rw [dJ ha0,g3,IQ,Nat.mul_one,Nat.add_zero,Xm,oL hT ht (vs:= [Value.int .i64 y0]) (by rw [AV.iw hys ρ,hy];rfl) (by simpa using hsz.symm),nn]
   congr 2
   rw [<- acW];rfl
  refine ⟨aZ ρ nm {ρ c with cG:=(ρ c).cG.map (jx b off (.int .i64 y0))},_,hrun,bY hnm,nQ _,?_⟩
  have hkR:iK Kn nm {val:=aT,fresh:= [.set n],writes:= [(n,.dp t' l2 nm st Wc),(c,.gone),(m,.gone)],aB:= [m,n,c]} =rq Kn nm:=by
   funext z;simp only [iK,rq,List.length_singleton];congr 1;apply propext;omega
  rw [hkR]
  have BS:=setRow_heap w b _ (e.vals.set off (.int .i64 y0)++rest).toArray _ _ h6
  refine R7 hst sq tZ jN hj hq hnm (.inr ⟨e,he,h4⟩) ha0 Xm (fun e1 BR=> ?_) zo (fun i v ⟨sub,hi⟩=> ?_) hv2 (hN _ b off a0 Xm fun a v v' h h'=>pK s1 h h') hfl
  ·have YB:e1=e∨e1.blk≠some b:=by
    by_cases Qm:e1=e
    ·exact .inl Qm
    ·right
     intro Yh
     obtain ⟨p1,h12,h13⟩:=List.getElem_of_mem BR
     obtain ⟨p2,h14,h15⟩:=List.getElem_of_mem he
     have hpq:=List.pairwise_iff_getElem.1 s2
     rcases Nat.lt_trichotomy p1 p2 with h|h|h
     ·exact hpq p1 p2 h12 h14 h b (by rw [h13];exact Yh) (by rw [h15];exact h4)
     ·subst h;exact Qm (h13.symm.trans h15)
     ·exact hpq p2 p1 h14 h12 h b (by rw [h15];exact h4) (by rw [h13];exact Yh)
   rcases YB with rfl|ik
   ·unfold jx
    rw [if_pos h4]
    exact .inr ⟨b,rest,Lm,h4,h5,BS,h7,by simpa using h8,h9⟩
   ·unfold jx
    rw [if_neg ik]
    rcases s1 e1 BR with Qm|⟨b1,abO,t1,Qm,Yh,h12,h13⟩
    ·exact .inl Qm
    ·exact .inr ⟨b1,abO,t1,Qm,Yh,by rw [setRow_other _ _ _ _ (by rintro rfl;exact ik Qm)];exact h12,h13⟩
  ·have:=(List.getElem?_eq_some_iff.1 hi).1
   rw [hv2,bI] at this;exact this
 split at h
 ·refine ⟨_,main l false rfl (fun _=>rfl) (fun es b off a0 _ _ sub _ ho p u' l' hp=> ?_),rfl,h⟩
  obtain ⟨g1,g2,g3⟩:=ho p u' l' hp
  refine ⟨g1,g2,fun i v hi=> ?_⟩
  obtain ⟨a,v',f1,f2,_⟩:=g3 i v hi
  exact ⟨a,f1,⟨v',f2⟩,fun h=>by cases h⟩
 ·split at h<;>try (exact h.elim)
  rename_i x' hx'
  have Qn:=br h
  clear h
  obtain ⟨hkn,h⟩:=Qn
  obtain ⟨ur,h⟩:=h
  have h:=h _ rfl
  have hcx:t'.aL x'=setCells (t'.aL (gd t' l j)) q [.sl u z']:=by
   have:=iS t' _ _ _ hx';rw [List.append_nil] at this;exact this.symm
  have ri:=EN hj Vi hcx
  have SV:=qu hj hq
  refine ⟨_,main (l.set j x') true (by simp) (fun sub=> ?_) (fun es b off a0 Xm ac7 sub N6 ho p u' l' hp=> ?_),rfl,h⟩
  ·apply List.ext_getElem?
   intro p
   rw [bl,bl,ri]
   split
   ·rename_i e;subst e
    rw [SV]
    simp [ew,hzl]
   ·rfl
  ·rw [TS] at ur
   obtain ⟨i1,i2,i3⟩:=ho _ u z SV
   have old: ∀p u' l' i v a,(ai t' l)[p]? =some (.sl u' l')->(aI u' l')[i]? =some v->(sub p).1=some a->a.add i=⟨b,off,none⟩->p=j*t'.size+q/\ i=k0:=fun p u' l' i v a hp hi ha hab=>by
    obtain ⟨a1,v1,f1,f2,f3⟩:=(ho p u' l' hp).2.2 i v hi
    rw [ha] at f1;cases f1
    obtain ⟨a2,v2,f4,f5,f6⟩:=i3 k0 _ (List.getElem?_eq_getElem hfl)
    rw [N6] at f4;cases f4
    rw [hab,<- Xm] at f2
    have e:=ac7 _ _ _ f2 f5
    rw [f3 hkn,f6 hkn] at e
    exact um ur hp SV (by rw [Ke];exact hi) (by rw [Ke,e];exact List.getElem?_eq_getElem hfl)
   rw [ri] at hp
   split at hp
   ·rename_i e;subst e
    cases hp
    refine ⟨i1,by rw [hzl];exact i2,fun i v hi=> ?_⟩
    rw [hzv,List.getElem?_set] at hi
    have Ys:i<(aI u z).length:=by
     split at hi
     ·rename_i e;subst e;exact hfl
     ·exact (List.getElem?_eq_some_iff.1 hi).1
    obtain ⟨a,v',f1,f2,f3⟩:=i3 i _ (List.getElem?_eq_getElem Ys)
    refine ⟨a,f1,⟨v',f2⟩,fun _=>⟨fun hne=> ?_,fun heq=> ?_⟩⟩
    ·split at hi
     ·rename_i e;subst e
      rw [N6] at f1;cases f1
      exact absurd Xm hne
     ·rw [List.getElem?_eq_getElem Ys] at hi
      cases hi
      rw [<- f3 hkn];exact f2
    ·obtain ⟨_,e⟩:=old _ u z i _ a SV (List.getElem?_eq_getElem Ys) f1 heq
     rw [if_pos e.symm,if_pos hfl] at hi
     exact (Option.some.inj hi).symm
   ·rename_i ZF
    obtain ⟨g1,g2,g3⟩:=ho p u' l' hp
    refine ⟨g1,g2,fun i v hi=> ?_⟩
    obtain ⟨a,v',f1,f2,f3⟩:=g3 i v hi
    refine ⟨a,f1,⟨v',f2⟩,fun _=>⟨fun _=>by rw [<- f3 hkn];exact f2,fun heq=> ?_⟩⟩
    exact absurd (old p u' l' i v a hp hi f1 heq).1 ZF
end
end Go.Ev
