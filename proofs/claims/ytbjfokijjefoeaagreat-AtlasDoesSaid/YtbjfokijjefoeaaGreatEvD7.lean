/- Deep rows: slices in a row's elements are read, and written. -/
import Derived.Test.YtbjfokijjefoeaaGreatEvD4
noncomputable section
set_option linter.unusedSectionVars false
set_option linter.unusedVariables false
set_option linter.unusedSimpArgs false
namespace Go.Ev
open Go.RowKit
section
variable {P:Program} {ctx:Ctx} {hp:HP} {nm:Nat} {k:Rec->Prop}
theorem jb {o:Option aI} (h:tC o=true): ∃n,o=some (.set n):=by
 unfold tC at h
 split at h
 ·exact ⟨_,rfl⟩
 ·cases h
theorem rh {m:Nat} {kk:(n c j q:Nat)->(t:Ty)->List t.T->(st kn:Bool)->(u:Ty)->List u.T->Prop} (h:Du hp m kk):
  ∃n c j q t l st kn u x g,hp m=some (.nv n c j q u)/\ hp n=some (.dp t l c st kn)/\ hp c=some (.set g)/\ j<l.length/\ (t.aJ (gd t l j))[q]? =some (.sl u x)/\ kk n c j q t l st kn u x:=by
 unfold Du at h
 split at h<;>try (exact h.elim)
 rename_i n c j q u he
 split at h<;>try (exact h.elim)
 rename_i t l c' st kn AH
 split at h<;>try (exact h.elim)
 rename_i hc
 obtain ⟨rfl,iV⟩:=hc
 obtain ⟨g,hg⟩:=jb iV
 have VN:=bn h
 clear h
 obtain ⟨hj,h⟩:=VN
 split at h<;>try (exact h.elim)
 rename_i u' x hx
 split at h<;>try (exact h.elim)
 rename_i hu;subst hu
 exact ⟨n,c',j,q,t,l,st,kn,u',x,g,he,AH,hg,by simpa using hj,hx,h⟩
theorem su {w:World} {x:Loc} (h: ∀e∈x.bW,Dx w e) {a:Addr} {v v':Value} (hv:jF x.bW a v) (XB:jF x.bW a v'):v=v':=by
 have:=(p7 h hv).1
 rw [(p7 h XB).1] at this
 exact (Option.some.inj this).symm
theorem Ug {ax:kz} {W w:World} {ρ:Env} {Kn:Nat->Prop} {Γ:HP} (hst:St ax W ρ Kn Γ w) {m n c j q g:Nat} {t u:Ty} {l:List t.T} {st kn:Bool} {x:List u.T}
  (hm:Γ m=some (.nv n c j q u)) (hn:Γ n=some (.dp t l c st kn)) (hc:Γ c=some (.set g)) (hj:j<l.length) (hq:(t.aJ (gd t l j))[q]? =some (.sl u x)):
  u.flat=true/\ (ρ m).len=x.length/\ (ρ m).es=u.size/\ x.length<=(ρ m).cap/\ ∀i v,(aH u x)[i]? =some v-> ∃a v',(ρ m).base=some a/\ jF (ρ c).bW (a.add i) v'/\ (kn=true->v'=v):=by
 obtain ⟨_,_,o2,_,sub,rb,h0,h1,h2⟩:=hst.at_ n _ hn
 obtain ⟨_,p1,a,p2,p3⟩:=hst.at_ m _ hm
 obtain ⟨_,s1,_⟩:=hst.at_ c _ hc
 have hp:=vP hj hq
 rw [h0 (by rintro rfl;exact absurd hj (Nat.not_lt_zero _))] at p2
 cases p2
 have e:=h1 (j*t.size+q) _ (by rw [bw,hp];rfl)
 rw [o2,mF,Nat.zero_add] at p3
 have e:=su s1 p3 e
 simp only [eX,Value.slice.injEq,Nat.zero_add] at e
 obtain ⟨e1,e2,e3⟩:=e
 obtain ⟨g1,g2,g3⟩:=h2 _ u x hp
 refine ⟨g1,e2,p1,by rw [e3];exact g2,fun i v hv=> ?_⟩
 obtain ⟨a,v',f1,_,f3,f4⟩:=g3 i v hv
 exact ⟨a,v',by rw [e1];exact f1,f3,f4⟩
theorem O8 (hT:aU P ctx.tt) {t:TypeId} {i:TI} (ht:aG ctx.tt t=some i) {x ix:AV} (h:Nb ctx i x ix hp k):
  ∃r,aK P ctx.X hp nm (fun Kn=>x.ok Kn/\ ix.ok Kn) (fun ρ=>Instr.indexAt t (x.af ρ) (ix.af ρ)) (fun ρ=>r.val.af ρ) r/\ k r:=by
 unfold Nb at h
 split at h<;>try (exact h.elim)
 rename_i kk j0 m
 split at h<;>try (exact h.elim)
 rename_i e hd
 split at h<;>try (exact h.elim)
 rename_i ei jZ
 replace h:=rh h
 obtain ⟨n,c,j,q,t',l,st,kn,u,y,g,hm,hn,hc,hj,hq,h⟩:=h
 have VN:=bn h
 clear h
 obtain ⟨hj0,h⟩:=VN
 have hj0:=lB hj0
 split at h<;>try (exact h.elim)
 rename_i hsz
 refine ⟨_,aK.pure fun ax W ρ Kn Γ w _ hk dY hst=> ?_,h⟩
 obtain ⟨g1,g2,g3,g4,g5⟩:=Ug hst (by rw [dY m (by simp),hm]) (by rw [dY n (by simp),hn]) (by rw [dY c (by simp),hc]) hj hq
 have hpos:=u.size_pos
 obtain ⟨a,v',ha,_⟩:=g5 0 _ (List.getElem?_eq_getElem (by rw [bX];exact Nat.mul_pos (by omega) hpos))
 refine ⟨?_,hk.1⟩
 rw [dy ha]
 simp [AV.af,A0.af,Cell.af,ha,Instr.indexAt,asIntOf,hT.u ht,hd,g2,hj0,hT.sz jZ,hsz,g3]
theorem Ol (hT:aU P ctx.tt) {t:TypeId} {i:TI} (ht:aG ctx.tt t=some i) {x:AV} (h:MF i x hp nm k):
  ∃r,aK P ctx.X hp nm (fun Kn=>x.ok Kn) (fun ρ=>Instr.loadAt t (x.af ρ)) (fun ρ=>r.val.af ρ) r/\ k r:=by
 unfold MF at h
 split at h<;>try (exact h.elim)
 rename_i n j q
 split at h<;>try (exact h.elim)
 ·rename_i t' l c st kn hn
  split at h<;>try (exact h.elim)
  rename_i hc
  obtain ⟨iV,oS⟩:=hc
  obtain ⟨g,hc⟩:=jb iV
  have VN:=bn h
  clear h
  obtain ⟨hj,h⟩:=VN
  have hj:j<l.length:=by simpa using hj
  split at h<;>try (exact h.elim)
  rename_i u z hq
  refine ⟨_,⟨fun p hp=>absurd hp (by simp),?_⟩,h⟩
  intro ax W ρ Kn Γ w _ hk dY hfr hst
  have hnm: ¬Kn nm:=by simpa using hfr 0 (by simp)
  have cj:Γ n=some (.dp t' l c st kn):=by rw [dY n (by simp),hn]
  have kU:Γ c=some (.set g):=by rw [dY c (by simp),hc]
  obtain ⟨_,_,o2,_,sub,rb,h0,h1,h2⟩:=hst.at_ n _ cj
  obtain ⟨_,s1,_⟩:=hst.at_ c _ kU
  have hp:=vP hj hq
  have hb:=h0 (by rintro rfl;exact absurd hj (Nat.not_lt_zero _))
  have e:=h1 (j*t'.size+q) _ (by rw [bw,hp];rfl)
  simp only [eX,Nat.zero_add] at e
  let X:Loc:= {bq:=none,base:=(sub (j*t'.size+q)).1,len:=z.length,cap:=(sub (j*t'.size+q)).2,es:=u.size}
  have hX:aY ρ nm X nm=X:=by simp [aY]
  have Ry:aY ρ nm X n=ρ n:=cG hnm n (hst.kn n _ cj).1
  have VO:aY ρ nm X c=ρ c:=cG hnm c (hst.kn c _ kU).1
  refine ⟨aY ρ nm X,w,?_,cG hnm,.inr (by simp),?_⟩
  ·show (Instr.loadAt t ((AV.v (.one (.bD n j q))).af ρ)).run P w=Result.ok (.slice (aY ρ nm X nm).base (aY ρ nm X nm).len (aY ρ nm X nm).cap) w
   rw [dy hb,mF,o2,hX]
   have hcell:=(p7 s1 e).1
   simp [Instr.loadAt,Instr.sureAddr,loadVar,hT.ag ht,oS,hcell,X]
  ·rw [tD]
   refine hst.swap (G:= []) (o:= .nv n c j q u) (x:=X) hnm hst.fr (fun _ _ _=>rfl) (fun b hb=>by cases hb) (fun m p hp=> ?_) ⟨.inl (hst.kn n _ cj).1,.inl (hst.kn c _ kU).1⟩ (fun _ h=>by cases h) fun _ _=> ?_
   ·simp only [bC,List.length_singleton,cf] at hp
    split at hp
    ·rename_i h1
     rw [show m- nm=0 by omega] at hp
     simp only [List.getElem?_cons_zero,live,Option.some.injEq] at hp
     exact .inl ⟨by omega,hp.symm⟩
    ·rename_i h1
     exact .inr ⟨by omega,by simp,hp⟩
   ·rw [bh,hX,Ry,VO]
    refine ⟨rfl,rfl,_,hb,?_⟩
    rw [mF,Nat.zero_add,o2];exact e
 ·replace h:=rh h
  obtain ⟨n',c,j',q',t',l,st,kn,u,y,g,hm,hn,hc,hj',VR,h⟩:=h
  split at h<;>try (exact h.elim)
  rename_i hsz
  have VN:=bn h
  clear h
  obtain ⟨hkn,h⟩:=VN
  have VN:=bn h
  clear h
  obtain ⟨hj,h⟩:=VN
  have hj:j<y.length:=by simpa using hj
  generalize hvw:fg 0 (bI u y j q i.size)=vw at h
  obtain ⟨cs,os⟩:=vw
  dsimp only at h
  split at h<;>try (exact h.elim)
  rename_i v hv
  refine ⟨_,aK.pure fun ax W ρ Kn Γ w _ hk dY hst=> ?_,h⟩
  have kU:Γ c=some (.set g):=by rw [dY c (by simp),hc]
  obtain ⟨Kr,g2,g3,g4,g5⟩:=Ug hst (by rw [dY n (by simp),hm]) (by rw [dY n' (by simp),hn]) kU hj' VR
  obtain ⟨_,s1,_⟩:=hst.at_ c _ kU
  have hpos:=u.size_pos
  obtain ⟨a,v0,ha,_⟩:=g5 0 _ (List.getElem?_eq_getElem (by rw [bX];exact Nat.mul_pos (by omega) hpos))
  have hfl: ∀x∈bI u y j q i.size,∃v,x= .flat v:=fun x hx=>St.views.eC u Kr _ x (List.mem_of_mem_drop (List.mem_of_mem_take hx))
  rw [z8 _ _ hfl] at hvw
  cases hvw
  have hcell: ∀m v,((bI u y j q i.size).map aL)[m]? =some v->w.cell? ((a.add (j*u.size+q)).add m)=some v:=fun m v hm=>by
   rw [dj]
   rw [List.getElem?_map] at hm
   obtain ⟨x,hx,rfl⟩:=Option.map_eq_some_iff.1 hm
   unfold bI at hx
   rw [List.getElem?_take] at hx
   split at hx
   ·rw [List.getElem?_drop] at hx
    have:=vP hj hx
    have Xz:(aH u y)[j*u.size+q+m]? =some (aL x):=by
     unfold aH
     rw [List.getElem?_map,show j*u.size+q+m=j*u.size+(q+m) by omega,this];rfl
    obtain ⟨a',v',f1,f2,f3⟩:=g5 _ _ Xz
    rw [ha] at f1;cases f1
    rw [f3 hkn] at f2
    exact (p7 s1 f2).1
   ·cases hx
  have hlen:((bI u y j q i.size).map aL).length=i.size:=by simp [bI,aM];omega
  have ex:(AV.v (.one (.bD n j q))).af ρ= .pointer (some (a.add (j*u.size+q))):=by rw [dy ha,g3]
  have VO:((bI u y j q i.size).map fun c=>Cell.raw (aL c)).map (Cell.af ρ)=(bI u y j q i.size).map aL:=by
   rw [List.map_map];rfl
  refine ⟨?_,?_⟩
  ·show (Instr.loadAt t ((AV.v (.one (.bD n j q))).af ρ)).run P w=_
   rw [ex]
   simp only [Instr.loadAt,Instr.sureAddr,Sem.run_bind,Sem.run_pure,Result.andThen_ok]
   unfold qO at hv
   split at hv
   ·rename_i oS
    cases hv
    have tw:=run_loadCells_list (P:=P) w (a.add (j*u.size+q)) _ hcell
    rw [hlen] at tw
    simp [loadVar,hT.ag ht,oS,hT.sz ht,tw,AV.af,A0.af,VO]
   ·rename_i oS
    split at hv
    ·rename_i c0 hc0
     cases hv
     have Rp:=VO
     rw [hc0] at Rp
     simp only [List.map_cons,List.map_nil] at Rp
     have:=hcell 0 (c0.af ρ) (by rw [<- Rp];rfl)
     rw [dj,Nat.add_zero] at this
     simp [loadVar,hT.ag ht,oS,this,AV.af,A0.af]
    ·cases hv
  ·unfold qO at hv
   have hok: ∀c∈(bI u y j q i.size).map fun c=>Cell.raw (aL c),c.ok Kn:=fun c hc=>by
    obtain ⟨_,_,rfl⟩:=List.mem_map.1 hc;trivial
   split at hv
   ·cases hv;exact hok
   ·split at hv
    ·rename_i c0 hc0
     cases hv
     exact hok c0 (by rw [hc0];simp)
    ·cases hv
def kE (b off:Nat) (y:Value) (e:sZ):sZ:=if e.bq=some b then {e with vals:=e.vals.set off y} else e
theorem mZ (b off:Nat) (y:Value) (e:sZ):(kE b off y e).bq=e.bq:=by unfold kE;split<;>rfl
theorem Ki {es:List sZ} {b off:Nat} {y:Value} {a:Addr} {v:Value} (h:jF es a v): ∃v',jF (es.map (kE b off y)) a v'/\ (a≠⟨b,off,none⟩->v'=v)/\ (a=⟨b,off,none⟩->v'=y):=by
 obtain ⟨e,b1,o1,h1,rfl,h2,h3⟩:=h
 by_cases hb:b1=b
 ·subst hb
  by_cases ho:o1=off
  ·subst ho
   refine ⟨y,⟨kE b1 o1 y e,b1,o1,List.mem_map_of_mem h1,rfl,by rw [mZ];exact h2,?_⟩,fun h=>absurd rfl h,fun _=>rfl⟩
   unfold kE
   rw [if_pos h2]
   exact List.getElem?_set_self (List.getElem?_eq_some_iff.1 h3).1
  ·refine ⟨v,⟨kE b1 off y e,b1,o1,List.mem_map_of_mem h1,rfl,by rw [mZ];exact h2,?_⟩,fun _=>rfl,fun h=>by injection h with _ h _;exact absurd h ho⟩
   unfold kE
   rw [if_pos h2]
   dsimp only
   rw [List.getElem?_set_ne (Ne.symm ho)];exact h3
 ·refine ⟨v,⟨kE b off y e,b1,o1,List.mem_map_of_mem h1,rfl,by rw [mZ];exact h2,?_⟩,fun _=>rfl,fun h=>by injection h with h _ _;exact absurd h hb⟩
  unfold kE
  rw [if_neg (by rw [h2];intro h;cases h;exact hb rfl)];exact h3
theorem Zm (t:Ty) (l:List t.T):Zl t l=(ak t l).flatMap Ud:=by
 unfold Zl ak;rw [List.flatMap_assoc]
theorem O4 (u:Ty) (x:List u.T):Ud (.sl u x)=aH u x:=by
 unfold Ud aH ak;rw [List.map_flatMap]
theorem yu {α β:Type} {f:α->List β} : ∀ {L:List α} {p p' i i':Nat} {a a':α} {v:β},(L.flatMap f).Nodup->L[p]? =some a->L[p']? =some a'->(f a)[i]? =some v->(f a')[i']? =some v->p=p'/\ i=i'
 | [],p,p',i,i',a,a',v,_,h,_,_,_=>by simp at h
 |c::L,p,p',i,i',a,a',v,hn,h1,h2,h3,h4=>by
  rw [List.flatMap_cons,List.nodup_append] at hn
  obtain ⟨n1,n2,n3⟩:=hn
  have mem: ∀ {p:Nat} {a:α} {i:Nat},L[p]? =some a->(f a)[i]? =some v->v∈L.flatMap f:=fun h h'=>List.mem_flatMap.2 ⟨_,List.mem_of_getElem? h,List.mem_of_getElem? h'⟩
  cases p with
  |zero=>
   simp only [List.getElem?_cons_zero,Option.some.injEq] at h1;subst h1
   cases p' with
   |zero=>
    simp only [List.getElem?_cons_zero,Option.some.injEq] at h2;subst h2
    refine ⟨rfl,?_⟩
    obtain ⟨l3,e3⟩:=List.getElem?_eq_some_iff.1 h3
    obtain ⟨l4,e4⟩:=List.getElem?_eq_some_iff.1 h4
    have hpw:=List.pairwise_iff_getElem.1 n1
    rcases Nat.lt_trichotomy i i' with h|h|h
    ·exact absurd (e3.trans e4.symm) (hpw i i' l3 l4 h)
    ·exact h
    ·exact absurd (e4.trans e3.symm) (hpw i' i l4 l3 h)
   |succ p'=>exact absurd rfl (n3 v (List.mem_of_getElem? h3) v (mem (by simpa using h2) h4))
  |succ p=>
   cases p' with
   |zero=>
    simp only [List.getElem?_cons_zero,Option.some.injEq] at h2;subst h2
    exact absurd rfl (n3 v (List.mem_of_getElem? h4) v (mem (by simpa using h1) h3))
   |succ p'=>
    obtain ⟨e1,e2⟩:=yu n2 (by simpa using h1) (by simpa using h2) h3 h4
    exact ⟨by rw [e1],e2⟩
theorem JQ {t u:Ty} {l:List t.T} {j q:Nat} {x':t.T} {z':List u.T} (hj:j<l.length) (hq:q<t.size) (hx:t.aJ x'=setCells (t.aJ (gd t l j)) q [.sl u z']) (p:Nat):
  (ak t (l.set j x'))[p]? =if p=j*t.size+q then some (.sl u z') else (ak t l)[p]? :=by
 have hrl:=bj t l
 have hjl:j*t.size+t.size<=l.length*t.size:=by rw [<- Nat.succ_mul];exact Nat.mul_le_mul_right _ (by omega)
 rw [pE t x' l j hj,di _ _ _ _ (by rw [aM];omega),aM,hx]
 by_cases h1:j*t.size<=p/\ p<j*t.size+t.size
 ·rw [if_pos h1,di _ _ _ _ (by rw [aM];simp;omega)]
  by_cases h2:p=j*t.size+q
  ·subst h2
   rw [if_pos rfl,if_pos (by constructor<;>simp<;>omega)]
   have:j*t.size+q- j*t.size- q=0:=by omega
   rw [this];rfl
  ·rw [if_neg (by simp;omega),if_neg h2]
   have:=l8 t l j _ (p- j*t.size) (MM hj) (by omega)
   rw [show j*t.size+(p- j*t.size)=p by omega] at this
   exact this.symm
 ·rw [if_neg h1,if_neg (by omega)]
theorem Aw (l:List Int):aH (.int .i64) l=l.map fun n=>Value.int .i64 n:=by
 unfold aH ak
 rw [List.map_flatMap]
 induction l with
 |nil=>rfl
 |cons a r ih=>rw [List.flatMap_cons,ih];rfl
theorem Qb {u:Ty} {x z:List u.T} {k0:Nat} {y:Int} (h:setInt u x k0 y=some z):u.size=1/\ z.length=x.length/\ aH u z=(aH u x).set k0 (.int .i64 y):=by
 cases u with
 |int kk=>
  cases kk with
  |i64=>
   obtain rfl:List.set (show List Int from x) k0 y=z:=Option.some.inj h
   refine ⟨rfl,List.length_set,(Aw _).trans ?_⟩
   rw [List.map_set]
   exact congrArg (fun q:List Value=>q.set k0 (.int .i64 y)) (Aw _).symm
  |_=>cases h
 |_=>cases h
theorem Yd {ax:kz} {W w:World} {ρ:Env} {Kn:Nat->Prop} {Γ:HP} (hst:St ax W ρ Kn Γ w) {m n c j q g:Nat} {t u:Ty} {l l2:List t.T} {st kn XF:Bool} {x:List u.T} {nm:Nat} {y:Value} {b off k0:Nat} {cells:Array Value} {a0:Addr}
  (hm:Γ m=some (.nv n c j q u)) (hn:Γ n=some (.dp t l c st kn)) (hc:Γ c=some (.set g)) (hj:j<l.length) (hq:(t.aJ (gd t l j))[q]? =some (.sl u x)) (hnm: ¬Kn nm)
  (hb:(ρ c).has b) (hbase:(ρ m).base=some a0) (hak:a0.add k0=⟨b,off,none⟩) (iV: ∀e∈(ρ c).bW,Dx (w.setRow b cells) (kE b off y e)) (tw:l2.length=l.length)
  (hh: ∀i v,(∃sub,(aD sub 0 (ak t l2))[i]? =some v)->i<(ak t l).length) (hv: ∀sub,aD sub 0 (ak t l2)=aD sub 0 (ak t l))
  (hN: ∀sub:Nat->Option Addr×Nat,(sub (j*t.size+q)).1=some a0->(∀p u' l',(ak t l)[p]? =some (.sl u' l')->u'.flat=true/\ l'.length<=(sub p).2/\ ∀i v,(aH u' l')[i]? =some v-> ∃a v',(sub p).1=some a/\ jF (ρ c).bW (a.add i) v'/\ (kn=true->v'=v))->
   ∀p u' l',(ak t l2)[p]? =some (.sl u' l')->u'.flat=true/\ l'.length<=(sub p).2/\ ∀i v,(aH u' l')[i]? =some v-> ∃a,(sub p).1=some a/\ (∃v0,jF (ρ c).bW (a.add i) v0)/\ (XF=true->(a.add i≠⟨b,off,none⟩->jF (ρ c).bW (a.add i) v)/\ (a.add i=⟨b,off,none⟩->v=y))) (hk0:k0<(aH u x).length):
  St ax W (aY ρ nm {ρ c with bW:=(ρ c).bW.map (kE b off y)}) (yz Kn nm) (bC {val:=aX,fresh:= [.set n],writes:= [(n,.dp t l2 nm st XF),(c,.gone),(m,.gone)],aC:= [m,n,c]} nm Γ) (w.setRow b cells):=by
 obtain ⟨q1,q2,q3,q4,sub,rb,h0,h1,h2⟩:=hst.at_ n _ hn
 obtain ⟨s0,s1,s2⟩:=hst.at_ c _ hc
 obtain ⟨_,p1,a,p2,p3⟩:=hst.at_ m _ hm
 let X:Loc:= {ρ c with bW:=(ρ c).bW.map (kE b off y)}
 have hX:aY ρ nm X nm=X:=by simp [aY]
 have hXb: ∀b',X.has b'↔(ρ c).has b':=fun b'=>by
  constructor
  ·rintro (h|⟨e,h1,h2⟩)
   ·exact .inl h
   ·obtain ⟨e',h3,rfl⟩:=List.mem_map.1 h1
    rw [mZ] at h2
    exact .inr ⟨e',h3,h2⟩
  ·rintro (h|⟨e,h1,h2⟩)
   ·exact .inl h
   ·exact .inr ⟨_,List.mem_map_of_mem h1,by rw [mZ];exact h2⟩
 have hcn:c≠n:=by rintro rfl;rw [hc] at hn;cases hn
 have hmn:m≠n:=by rintro rfl;rw [hm] at hn;cases hn
 have hkn:=(hst.kn n _ hn).1
 have Ry:n≠nm:=by rintro rfl;exact hnm hkn
 let yb:HP:=fun z=>if z=nm then some (.set n) else if z=c\/ z=m then none else Γ z
 have tx:St ax W (aY ρ nm X) (yz Kn nm) yb (w.setRow b cells):=by
  refine hst.ado (G:= [c,m]) (o:= .set n) (x:=X) hnm (hst.fr.setRow (hst.oF c b (by rw [hc];rfl) hb) _) (fun b' _ hx=>setRow_other _ _ _ _ (by rintro rfl;exact hx ((hXb _).2 hb))) (fun b' hx=>⟨.inr ⟨c,by simp,by rw [hc];rfl,(hXb b').1 hx⟩,hst.oF c b' (by rw [hc];rfl) ((hXb b').1 hx)⟩) (.inl ⟨_,rfl⟩) (fun z p hz=> ?_) (.inl hkn) (fun _ h=>by cases h) fun _ _=> ?_
  ·simp only [yb] at hz
   split at hz
   ·cases hz;exact .inl ⟨‹_›,rfl⟩
   ·split at hz
    ·cases hz
    ·rename_i e1 e2
     exact .inr ⟨e1,by simpa using e2,hz⟩
  ·rw [bh,hX]
   refine ⟨s0,fun e he=> ?_,?_⟩
   ·obtain ⟨e',h3,rfl⟩:=List.mem_map.1 he
    exact iV e' h3
   ·refine List.pairwise_map.2 (s2.imp fun h b' hb'=> ?_)
    rw [mZ] at hb' ⊢
    exact h b' hb'
 have hne:l≠ []:=fun h=>by rw [h] at hj;exact absurd hj (Nat.not_lt_zero _)
 have hrb:b≠rb:=by
  have hp:=vP hj hq
  have e:=h1 (j*t.size+q) _ (by rw [bw,hp];rfl)
  rw [h0 hne] at p2
  cases p2
  rw [q3,mF,Nat.zero_add] at p3
  have e:=su s1 p3 e
  simp only [eX,Value.slice.injEq,Nat.zero_add] at e
  obtain ⟨_,_,g3⟩:=h2 _ u x hp
  obtain ⟨a,v',f1,f2,f3,f4⟩:=g3 k0 _ (List.getElem?_eq_getElem hk0)
  rw [<- e.1,hbase] at f1;cases f1
  have hbb:a0.block=b:=by
   have:=congrArg Addr.block hak
   rwa [dX] at this
  rw [<- hbb];exact f2
 have TX:(sub (j*t.size+q)).1=some a0:=by
  have hp:=vP hj hq
  have e:=h1 (j*t.size+q) _ (by rw [bw,hp];rfl)
  rw [h0 hne] at p2
  cases p2
  rw [q3,mF,Nat.zero_add] at p3
  have e:=su s1 p3 e
  simp only [eX,Value.slice.injEq,Nat.zero_add] at e
  rw [<- e.1];exact hbase
 have YP:yb n=some (.dp t l c st kn):=by simp only [yb];rw [if_neg Ry,if_neg (fun h=>h.elim (fun h=>hcn h.symm) fun h=>hmn h.symm)];exact hn
 let TD:HP:=bH yb n (.dp t l2 nm st XF)
 have hsm: ∀z,(TD z).isSome=true->(yb z).isSome=true:=fun z hz=>by
  simp only [TD,bH] at hz
  split at hz
  ·rename_i e;subst e;rw [YP];rfl
  ·exact hz
 have oZ:St ax W (aY ρ nm X) (yz Kn nm) TD (w.setRow b cells):=by
  refine tx.uw (fun _ _=>rfl) (fun _ h=>h) (fun z b' hz hb'=>⟨z,hsm z hz,hb'⟩) (fun z z' b' hz hz' h1 h2=>tx.dK z z' b' (hsm z hz) (hsm z' hz') h1 h2) (fun b' ⟨z,S,h1,h2⟩=> ?_) fun z o hz=> ?_
  ·simp only [TD,bH] at h1
   split at h1
   ·cases h1
   ·exact ⟨z,S,h1,h2⟩
  ·simp only [TD,bH] at hz
   split at hz
   rotate_left
   ·exact .inl hz
   rename_i e;subst e
   cases hz
   have agw:aY ρ nm X z=ρ z:=cG hnm z hkn
   refine .inr ⟨.inl hkn,.inr rfl,.inr (by rw [agw];exact ((hst.yl z _ hn).resolve_left (by rintro ⟨_,h⟩;cases h))),fun _=> ?_⟩
   rw [bh,agw,hX]
   refine ⟨q1,by rw [tw];exact q2,q3,by rw [tw];exact q4,sub,rb,fun _=>h0 hne,fun i v hi=> ?_,fun p u' l' hp=> ?_⟩
   ·rw [hv] at hi
    obtain ⟨v',e1,e2,_⟩:=Ki (b:=b) (off:=off) (y:=y) (h1 i v hi)
    rw [<- e2 (by intro h;injection h with h _ _;exact hrb h.symm)];exact e1
   ·have h2': ∀p u' l',(ak t l)[p]? =some (.sl u' l')→u'.flat=true∧l'.length≤(sub p).2∧ ∀i v,(aH u' l')[i]? =some v→ ∃a v',(sub p).1=some a∧jF (ρ c).bW (a.add i) v'∧(kn=true→v'=v):=fun p u' l' hp=>by
     obtain ⟨g1,g2,g3⟩:=h2 p u' l' hp
     refine ⟨g1,g2,fun i v hi=> ?_⟩
     obtain ⟨a,v',f1,_,f3,f4⟩:=g3 i v hi
     exact ⟨a,v',f1,f3,f4⟩
    obtain ⟨g1,g2,g3⟩:=hN sub TX h2' p u' l' hp
    refine ⟨g1,g2,fun i v hi=> ?_⟩
    obtain ⟨a,f1,⟨v0,f2⟩,f3⟩:=g3 i v hi
    obtain ⟨v',e1,e2,e3⟩:=Ki (b:=b) (off:=off) (y:=y) f2
    refine ⟨a,v',f1,?_,e1,fun hk=> ?_⟩
    ·
     have vR:(ak t l)[p]? ≠none:=by
      have:=(List.getElem?_eq_some_iff.1 hp).1
      have e4:(ak t l2).length=(ak t l).length:=by rw [bj,bj,tw]
      rw [e4] at this
      rw [List.getElem?_eq_getElem this];exact fun h=>by cases h
     obtain ⟨cc,VO⟩:=Option.ne_none_iff_exists'.1 vR
     have ev:=congrArg (fun L:List Value=>L[p]?) (hv sub)
     simp only [bw,hp,VO,Option.map_some,Nat.zero_add,Option.some.injEq] at ev
     cases cc with
     | flat v1=>exact (by
       have h5:=h1 p v1 (by rw [bw,VO];rfl)
       have h6:=congrArg (fun L:List Value=>L[p]?) (hv fun _=>(none,0))
       have h7:=congrArg (fun L:List Value=>L[p]?) (hv fun _=>(some a,1))
       simp only [bw,hp,VO,Option.map_some,Nat.zero_add,Option.some.injEq,eX] at h6 h7
       rw [<- h6] at h7
       simp at h7)
     |sl u3 l3=>
      simp only [eX,Value.slice.injEq] at ev
      obtain ⟨_,_,g6⟩:=h2 p u3 l3 VO
      by_cases Ft:l3.length=0
      ·rw [←ev.2.1] at Ft
       have:l'= []:=List.eq_nil_of_length_eq_zero Ft
       subst this
       simp [aH,ak] at hi
      ·obtain ⟨a',v5,f5,f6,_⟩:=g6 0 _ (List.getElem?_eq_getElem (by rw [bX];exact Nat.mul_pos (by omega) u3.size_pos))
       rw [f1] at f5;cases f5;exact f6
    ·obtain ⟨f4,f5⟩:=f3 hk
     by_cases ha:a.add i=⟨b,off,none⟩
     ·rw [e3 ha,f5 ha]
     ·rw [e2 ha,su s1 f2 (f4 ha)]
 have Yu:bC {val:=aX,fresh:= [.set n],writes:= [(n,.dp t l2 nm st XF),(c,.gone),(m,.gone)],aC:= [m,n,c]} nm Γ=TD:=by
  have hkc:=(hst.kn c _ hc).1
  have hkm:=(hst.kn m _ hm).1
  funext z
  simp only [bC,cf,List.length_singleton,TD,bH,yb]
  by_cases e1:z=nm
  ·subst e1
   rw [if_pos (by omega),if_neg (Ne.symm Ry),if_pos rfl];simp [live]
  ·rw [if_neg (by omega)]
   by_cases e2:m=z
   ·subst e2;simp [live,hmn,e1]
   ·by_cases e3:c=z
    ·subst e3;simp [live,hcn,e1,e2]
    ·by_cases e4:n=z
     ·subst e4;simp [live,e2,e3]
     ·simp [e1,e2,e3,e4,Ne.symm e2,Ne.symm e3,Ne.symm e4]
 rw [Yu];exact oZ
theorem MG (hT:aU P ctx.tt) {t:TypeId} {i:TI} (ht:aG ctx.tt t=some i) {x y:AV} (h:Gl i x y hp nm k):
  ∃r,aK P ctx.X hp nm (fun Kn=>x.ok Kn/\ y.ok Kn) (fun ρ=>Instr.storeAt t (x.af ρ) (y.af ρ)) (fun _=>()) r/\ r.val=aX/\ k r:=by
 unfold Gl at h
 split at h<;>try (exact h.elim)
 rename_i m k0 r0 ys hys
 replace h:=rh h
 obtain ⟨n,c,j,q,t',l,st,kn,u,z,g,hm,hn,hc,hj,hq,h⟩:=h
 split at h<;>try (exact h.elim)
 rename_i y0 hy0
 split at h<;>try (exact h.elim)
 rename_i afN
 obtain ⟨rfl,hsz⟩:=afN
 split at h<;>try (exact h.elim)
 rename_i z' hz'
 have VN:=bn h
 clear h
 obtain ⟨hk0,h⟩:=VN
 have hk0:k0<z.length:=by simpa using hk0
 obtain ⟨QN,hzl,hzv⟩:=Qb hz'
 have hy:ys= [.raw (.int .i64 y0)]:=fu (fun _=> {}) ys [y0] hy0
 have hfl:k0<(aH u z).length:=by rw [bX,QN];omega
 have hqs:q<t'.size:=by have:=(List.getElem?_eq_some_iff.1 hq).1;rwa [aM] at this
 have main: ∀(l2:List t'.T) (XF:Bool),l2.length=l.length->(∀sub,aD sub 0 (ak t' l2)=aD sub 0 (ak t' l))->
   (∀(es:List sZ) (b off:Nat) (a0:Addr),a0.add k0=⟨b,off,none⟩->(∀a v v',jF es a v->jF es a v'->v=v')-> ∀sub:Nat->Option Addr×Nat,(sub (j*t'.size+q)).1=some a0->(∀p u' l',(ak t' l)[p]? =some (.sl u' l')->u'.flat=true/\ l'.length<=(sub p).2/\ ∀i v,(aH u' l')[i]? =some v-> ∃a v',(sub p).1=some a/\ jF es (a.add i) v'/\ (kn=true->v'=v))->
    ∀p u' l',(ak t' l2)[p]? =some (.sl u' l')->u'.flat=true/\ l'.length<=(sub p).2/\ ∀i v,(aH u' l')[i]? =some v-> ∃a,(sub p).1=some a/\ (∃v0,jF es (a.add i) v0)/\ (XF=true->(a.add i≠⟨b,off,none⟩->jF es (a.add i) v)/\ (a.add i=⟨b,off,none⟩->v= .int .i64 y0)))->
   aK P ctx.X hp nm (fun Kn=>(AV.v (.one (.bD m k0 0))).ok Kn/\ y.ok Kn) (fun ρ=>Instr.storeAt t ((AV.v (.one (.bD m k0 0))).af ρ) (y.af ρ)) (fun _=>()) {val:=aX,fresh:= [.set n],writes:= [(n,.dp t' l2 nm st XF),(c,.gone),(m,.gone)],aC:= [m,n,c]} :=by
  intro l2 XF tw hv2 hN
  refine ⟨fun p eo=> ?_,?_⟩
  ·simp only [List.mem_cons,List.not_mem_nil,or_false] at eo
   rcases eo with rfl|rfl|rfl
   ·rw [hn];simp
   ·rw [hc];simp
   ·rw [hm];simp
  intro ax W ρ Kn Γ w _ hk dY hfr hst
  have hnm: ¬Kn nm:=by simpa using hfr 0 (by simp)
  have vU:Γ m=some (.nv n c j q u):=by rw [dY m (by simp),hm]
  have yh:Γ n=some (.dp t' l c st kn):=by rw [dY n (by simp),hn]
  have kU:Γ c=some (.set g):=by rw [dY c (by simp),hc]
  obtain ⟨Kr,g2,g3,g4,g5⟩:=Ug hst vU yh kU hj hq
  obtain ⟨s0,s1,s2⟩:=hst.at_ c _ kU
  obtain ⟨a0,v',ha0,⟨e,b,off,he,hak,heb,Jx⟩,_⟩:=g5 k0 _ (List.getElem?_eq_getElem hfl)
  rcases s1 e he with ⟨h4,_⟩|⟨b',rest,QS,h4,h5,h6,h7,h8,h9⟩
  ·rw [h4] at heb;cases heb
  rw [h4] at heb;cases heb
  have aby:off<e.vals.length:=(List.getElem?_eq_some_iff.1 Jx).1
  have ahR:(e.vals++rest).take (off+0)++ [Value.int .i64 y0]++(e.vals++rest).drop (off+0+1)=e.vals.set off (.int .i64 y0)++rest:=by
   rw [Nat.add_zero,List.take_append_of_le_length (by omega),List.drop_append_of_le_length (by omega),List.set_eq_take_append_cons_drop,if_pos aby]
   simp
  have hrun:(Instr.storeAt t ((AV.v (.one (.bD m k0 0))).af ρ) (y.af ρ)).run P w= .ok () (w.setRow b (e.vals.set off (.int .i64 y0)++rest).toArray):=by
   have yg:=run_storeCells_at P b off QS [Value.int .i64 y0] 0 _ w h6 (by simp;omega) (fun v hv=>by simp only [List.mem_singleton] at hv;subst hv;rfl)
   rw [dy ha0,g3,QN,Nat.mul_one,Nat.add_zero,hak,q6 hT ht (vs:= [Value.int .i64 y0]) (by rw [AV.iT hys ρ,hy];rfl) (by simpa using hsz.symm),yg]
   congr 2
   rw [<- ahR];rfl
  refine ⟨aY ρ nm {ρ c with bW:=(ρ c).bW.map (kE b off (.int .i64 y0))},_,hrun,cG hnm,w4 _,?_⟩
  have hkR:jO Kn nm {val:=aX,fresh:= [.set n],writes:= [(n,.dp t' l2 nm st XF),(c,.gone),(m,.gone)],aC:= [m,n,c]} =yz Kn nm:=by
   funext z;simp only [jO,yz,List.length_singleton];congr 1;apply propext;omega
  rw [hkR]
  have CZ:=setRow_heap w b _ (e.vals.set off (.int .i64 y0)++rest).toArray _ _ h6
  refine Yd hst vU yh kU hj hq hnm (.inr ⟨e,he,h4⟩) ha0 hak (fun e1 OD=> ?_) tw (fun i v ⟨sub,hi⟩=> ?_) hv2 (hN _ b off a0 hak fun a v v' h h'=>su s1 h h') hfl
  ·have hpw:e1=e∨e1.bq≠some b:=by
    by_cases VK:e1=e
    ·exact .inl VK
    ·right
     intro h11
     obtain ⟨p1,Xz,h13⟩:=List.getElem_of_mem OD
     obtain ⟨p2,h14,h15⟩:=List.getElem_of_mem he
     have hpq:=List.pairwise_iff_getElem.1 s2
     rcases Nat.lt_trichotomy p1 p2 with h|h|h
     ·exact hpq p1 p2 Xz h14 h b (by rw [h13];exact h11) (by rw [h15];exact h4)
     ·subst h;exact VK (h13.symm.trans h15)
     ·exact hpq p2 p1 h14 Xz h b (by rw [h15];exact h4) (by rw [h13];exact h11)
   rcases hpw with rfl|gS
   ·unfold kE
    rw [if_pos h4]
    exact .inr ⟨b,rest,QS,h4,h5,CZ,h7,by simpa using h8,h9⟩
   ·unfold kE
    rw [if_neg gS]
    rcases s1 e1 OD with VK|⟨b1,agQ,t1,VK,h11,Xz,h13⟩
    ·exact .inl VK
    ·exact .inr ⟨b1,agQ,t1,VK,h11,by rw [setRow_other _ _ _ _ (by rintro rfl;exact gS VK)];exact Xz,h13⟩
  ·have:=(List.getElem?_eq_some_iff.1 hi).1
   rw [hv2,bE] at this;exact this
 split at h
 ·refine ⟨_,main l false rfl (fun _=>rfl) (fun es b off a0 _ _ sub _ ho p u' l' hp=> ?_),rfl,h⟩
  obtain ⟨g1,g2,g3⟩:=ho p u' l' hp
  refine ⟨g1,g2,fun i v hi=> ?_⟩
  obtain ⟨a,v',f1,f2,_⟩:=g3 i v hi
  exact ⟨a,f1,⟨v',f2⟩,fun h=>by cases h⟩
 ·split at h<;>try (exact h.elim)
  rename_i x' hx'
  have VN:=bn h
  clear h
  obtain ⟨hkn,h⟩:=VN
  obtain ⟨zq,h⟩:=h
  have h:=h _ rfl
  have hcx:t'.aJ x'=setCells (t'.aJ (gd t' l j)) q [.sl u z']:=by
   have:=lI t' _ _ _ hx';rw [List.append_nil] at this;exact this.symm
  have CY:=JQ hj hqs hcx
  have YK:=vP hj hq
  refine ⟨_,main (l.set j x') true (by simp) (fun sub=> ?_) (fun es b off a0 hak ah2 sub TX ho p u' l' hp=> ?_),rfl,h⟩
  ·apply List.ext_getElem?
   intro p
   rw [bw,bw,CY]
   split
   ·rename_i e;subst e
    rw [YK]
    simp [eX,hzl]
   ·rfl
  ·rw [Zm] at zq
   obtain ⟨i1,i2,i3⟩:=ho _ u z YK
   have old: ∀p u' l' i v a,(ak t' l)[p]? =some (.sl u' l')->(aH u' l')[i]? =some v->(sub p).1=some a->a.add i=⟨b,off,none⟩->p=j*t'.size+q/\ i=k0:=fun p u' l' i v a hp hi ha hab=>by
    obtain ⟨a1,v1,f1,f2,f3⟩:=(ho p u' l' hp).2.2 i v hi
    rw [ha] at f1;cases f1
    obtain ⟨a2,v2,f4,f5,f6⟩:=i3 k0 _ (List.getElem?_eq_getElem hfl)
    rw [TX] at f4;cases f4
    rw [hab,<- hak] at f2
    have e:=ah2 _ _ _ f2 f5
    rw [f3 hkn,f6 hkn] at e
    exact yu zq hp YK (by rw [O4];exact hi) (by rw [O4,e];exact List.getElem?_eq_getElem hfl)
   rw [CY] at hp
   split at hp
   ·rename_i e;subst e
    cases hp
    refine ⟨i1,by rw [hzl];exact i2,fun i v hi=> ?_⟩
    rw [hzv,List.getElem?_set] at hi
    have hil:i<(aH u z).length:=by
     split at hi
     ·rename_i e;subst e;exact hfl
     ·exact (List.getElem?_eq_some_iff.1 hi).1
    obtain ⟨a,v',f1,f2,f3⟩:=i3 i _ (List.getElem?_eq_getElem hil)
    refine ⟨a,f1,⟨v',f2⟩,fun _=>⟨fun hne=> ?_,fun heq=> ?_⟩⟩
    ·split at hi
     ·rename_i e;subst e
      rw [TX] at f1;cases f1
      exact absurd hak hne
     ·rw [List.getElem?_eq_getElem hil] at hi
      cases hi
      rw [<- f3 hkn];exact f2
    ·obtain ⟨_,e⟩:=old _ u z i _ a YK (List.getElem?_eq_getElem hil) f1 heq
     rw [if_pos e.symm,if_pos hfl] at hi
     exact (Option.some.inj hi).symm
   ·rename_i hpn
    obtain ⟨g1,g2,g3⟩:=ho p u' l' hp
    refine ⟨g1,g2,fun i v hi=> ?_⟩
    obtain ⟨a,v',f1,f2,f3⟩:=g3 i v hi
    refine ⟨a,f1,⟨v',f2⟩,fun _=>⟨fun _=>by rw [<- f3 hkn];exact f2,fun heq=> ?_⟩⟩
    exact absurd (old p u' l' i v a hp hi f1 heq).1 hpn
end
end Go.Ev
