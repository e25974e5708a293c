/- Deep rows: slices in a row's elements are read, and written. -/
import Derived.Test.YtaipcbdilkcdbaaEvD4
noncomputable section
set_option linter.unusedSectionVars false
set_option linter.unusedVariables false
set_option linter.unusedSimpArgs false
namespace Go.Ev
open Go.RowKit
section
variable {P:Program} {ctx:Ctx} {hp:HP} {nm:Nat} {k:Rec->Prop}
theorem g9 {o:Option aG} (h:qa o=true): ∃n,o=some (.set n):=by
 unfold qa at h
 split at h
 ·exact ⟨_,rfl⟩
 ·cases h
theorem ou {m:Nat} {kk:(n c j q:Nat)->(t:Ty)->List t.T->(st kn:Bool)->(u:Ty)->List u.T->Prop} (h:x9 hp m kk):
  ∃n c j q t l st kn u x g,hp m=some (.nv n c j q u)/\ hp n=some (.dp t l c st kn)/\ hp c=some (.set g)/\ j<l.length/\ (t.aI (gd t l j))[q]? =some (.sl u x)/\ kk n c j q t l st kn u x:=by
 unfold x9 at h
 split at h<;>try (exact h.elim)
 rename_i n c j q u he
 split at h<;>try (exact h.elim)
 rename_i t l c' st kn vy
 split at h<;>try (exact h.elim)
 rename_i hc
 obtain ⟨rfl,fF⟩:=hc
 obtain ⟨g,hg⟩:=g9 fF
 have Mf:=bh h
 clear h
 obtain ⟨hj,h⟩:=Mf
 split at h<;>try (exact h.elim)
 rename_i u' x hx
 split at h<;>try (exact h.elim)
 rename_i hu;subst hu
 exact ⟨n,c',j,q,t,l,st,kn,u',x,g,he,vy,hg,by simpa using hj,hx,h⟩
theorem pb {w:World} {x:Loc} (h: ∀e∈x.bT,yd w e) {a:Addr} {v v':Value} (hv:iO x.bT a v) (QO:iO x.bT a v'):v=v':=by
 have:=(mU h hv).1
 rw [(mU h QO).1] at this
 exact (Option.some.inj this).symm
theorem KM {ax:iV} {W w:World} {ρ:Env} {Kn:Nat->Prop} {Γ:HP} (hst:St ax W ρ Kn Γ w) {m n c j q g:Nat} {t u:Ty} {l:List t.T} {st kn:Bool} {x:List u.T}
  (hm:Γ m=some (.nv n c j q u)) (hn:Γ n=some (.dp t l c st kn)) (hc:Γ c=some (.set g)) (hj:j<l.length) (hq:(t.aI (gd t l j))[q]? =some (.sl u x)):
  u.flat=true/\ (ρ m).len=x.length/\ (ρ m).es=u.size/\ x.length<=(ρ m).cap/\ ∀i v,(aJ u x)[i]? =some v-> ∃a v',(ρ m).base=some a/\ iO (ρ c).bT (a.add i) v'/\ (kn=true->v'=v):=by
 obtain ⟨_,_,o2,_,sub,rb,h0,h1,h2⟩:=hst.at_ n _ hn
 obtain ⟨_,p1,a,p2,p3⟩:=hst.at_ m _ hm
 obtain ⟨_,s1,_⟩:=hst.at_ c _ hc
 have hp:=rB hj hq
 rw [h0 (by rintro rfl;exact absurd hj (Nat.not_lt_zero _))] at p2
 cases p2
 have e:=h1 (j*t.size+q) _ (by rw [bD,hp];rfl)
 rw [o2,kg,Nat.zero_add] at p3
 have e:=pb s1 p3 e
 simp only [eN,Value.slice.injEq,Nat.zero_add] at e
 obtain ⟨e1,e2,e3⟩:=e
 obtain ⟨g1,g2,g3⟩:=h2 _ u x hp
 refine ⟨g1,e2,p1,by rw [e3];exact g2,fun i v hv=> ?_⟩
 obtain ⟨a,v',f1,_,f3,f4⟩:=g3 i v hv
 exact ⟨a,v',by rw [e1];exact f1,f3,f4⟩
theorem G3 (hT:br P ctx.tt) {t:TypeId} {i:TI} (ht:aF ctx.tt t=some i) {x ix:AV} (h:Fl ctx i x ix hp k):
  ∃r,aL P ctx.X hp nm (fun Kn=>x.ok Kn/\ ix.ok Kn) (fun ρ=>Instr.indexAt t (x.af ρ) (ix.af ρ)) (fun ρ=>r.val.af ρ) r/\ k r:=by
 unfold Fl at h
 split at h<;>try (exact h.elim)
 rename_i kk j0 m
 split at h<;>try (exact h.elim)
 rename_i e hd
 split at h<;>try (exact h.elim)
 rename_i ei jd
 replace h:=ou h
 obtain ⟨n,c,j,q,t',l,st,kn,u,y,g,hm,hn,hc,hj,hq,h⟩:=h
 have Mf:=bh h
 clear h
 obtain ⟨Wh,h⟩:=Mf
 have Wh:=jM Wh
 split at h<;>try (exact h.elim)
 rename_i hsz
 refine ⟨_,aL.pure fun ax W ρ Kn Γ w _ hk dU hst=> ?_,h⟩
 obtain ⟨g1,g2,g3,g4,g5⟩:=KM hst (by rw [dU m (by simp),hm]) (by rw [dU n (by simp),hn]) (by rw [dU c (by simp),hc]) hj hq
 have hpos:=u.size_pos
 obtain ⟨a,v',ha,_⟩:=g5 0 _ (List.getElem?_eq_getElem (by rw [cm];exact Nat.mul_pos (by omega) hpos))
 refine ⟨?_,hk.1⟩
 rw [dA ha]
 simp [AV.af,A0.af,Cell.af,ha,Instr.indexAt,asIntOf,hT.u ht,hd,g2,Wh,hT.sz jd,hsz,g3]
theorem Ga (hT:br P ctx.tt) {t:TypeId} {i:TI} (ht:aF ctx.tt t=some i) {x:AV} (h:EO i x hp nm k):
  ∃r,aL P ctx.X hp nm (fun Kn=>x.ok Kn) (fun ρ=>Instr.loadAt t (x.af ρ)) (fun ρ=>r.val.af ρ) r/\ k r:=by
 unfold EO at h
 split at h<;>try (exact h.elim)
 rename_i n j q
 split at h<;>try (exact h.elim)
 ·rename_i t' l c st kn hn
  split at h<;>try (exact h.elim)
  rename_i hc
  obtain ⟨fF,mo⟩:=hc
  obtain ⟨g,hc⟩:=g9 fF
  have Mf:=bh h
  clear h
  obtain ⟨hj,h⟩:=Mf
  have hj:j<l.length:=by simpa using hj
  split at h<;>try (exact h.elim)
  rename_i u z hq
  refine ⟨_,⟨fun p hp=>absurd hp (by simp),?_⟩,h⟩
  intro ax W ρ Kn Γ w _ hk dU hfr hst
  have hnm: ¬Kn nm:=by simpa using hfr 0 (by simp)
  have bV:Γ n=some (.dp t' l c st kn):=by rw [dU n (by simp),hn]
  have jB:Γ c=some (.set g):=by rw [dU c (by simp),hc]
  obtain ⟨_,_,o2,_,sub,rb,h0,h1,h2⟩:=hst.at_ n _ bV
  obtain ⟨_,s1,_⟩:=hst.at_ c _ jB
  have hp:=rB hj hq
  have hb:=h0 (by rintro rfl;exact absurd hj (Nat.not_lt_zero _))
  have e:=h1 (j*t'.size+q) _ (by rw [bD,hp];rfl)
  simp only [eN,Nat.zero_add] at e
  let X:Loc:= {bt:=none,base:=(sub (j*t'.size+q)).1,len:=z.length,cap:=(sub (j*t'.size+q)).2,es:=u.size}
  have hX:aV ρ nm X nm=X:=by simp [aV]
  have IZ:aV ρ nm X n=ρ n:=cD hnm n (hst.kn n _ bV).1
  have Mg:aV ρ nm X c=ρ c:=cD hnm c (hst.kn c _ jB).1
  refine ⟨aV ρ nm X,w,?_,cD hnm,.inr (by simp),?_⟩
  ·show (Instr.loadAt t ((AV.v (.one (.cx n j q))).af ρ)).run P w=Result.ok (.slice (aV ρ nm X nm).base (aV ρ nm X nm).len (aV ρ nm X nm).cap) w
   rw [dA hb,kg,o2,hX]
   have hcell:=(mU s1 e).1
   simp [Instr.loadAt,Instr.sureAddr,loadVar,hT.ag ht,mo,hcell,X]
  ·rw [qb]
   refine hst.swap (G:= []) (o:= .nv n c j q u) (x:=X) hnm hst.fr (fun _ _ _=>rfl) (fun b hb=>by cases hb) (fun m p hp=> ?_) ⟨.inl (hst.kn n _ bV).1,.inl (hst.kn c _ jB).1⟩ (fun _ h=>by cases h) fun _ _=> ?_
   ·simp only [bB,List.length_singleton,bW] at hp
    split at hp
    ·rename_i h1
     rw [show m- nm=0 by omega] at hp
     simp only [List.getElem?_cons_zero,live,Option.some.injEq] at hp
     exact .inl ⟨by omega,hp.symm⟩
    ·rename_i h1
     exact .inr ⟨by omega,by simp,hp⟩
   ·rw [aX,hX,IZ,Mg]
    refine ⟨rfl,rfl,_,hb,?_⟩
    rw [kg,Nat.zero_add,o2];exact e
 ·replace h:=ou h
  obtain ⟨n',c,j',q',t',l,st,kn,u,y,g,hm,hn,hc,hj',uq,h⟩:=h
  split at h<;>try (exact h.elim)
  rename_i hsz
  have Mf:=bh h
  clear h
  obtain ⟨hkn,h⟩:=Mf
  have Mf:=bh h
  clear h
  obtain ⟨hj,h⟩:=Mf
  have hj:j<y.length:=by simpa using hj
  generalize WI:eV 0 (bP u y j q i.size)=vw at h
  obtain ⟨cs,os⟩:=vw
  dsimp only at h
  split at h<;>try (exact h.elim)
  rename_i v hv
  refine ⟨_,aL.pure fun ax W ρ Kn Γ w _ hk dU hst=> ?_,h⟩
  have jB:Γ c=some (.set g):=by rw [dU c (by simp),hc]
  obtain ⟨Cy,g2,g3,g4,g5⟩:=KM hst (by rw [dU n (by simp),hm]) (by rw [dU n' (by simp),hn]) jB hj' uq
  obtain ⟨_,s1,_⟩:=hst.at_ c _ jB
  have hpos:=u.size_pos
  obtain ⟨a,v0,ha,_⟩:=g5 0 _ (List.getElem?_eq_getElem (by rw [cm];exact Nat.mul_pos (by omega) hpos))
  have hfl: ∀x∈bP u y j q i.size,∃v,x= .flat v:=fun x hx=>St.views.cZ u Cy _ x (List.mem_of_mem_drop (List.mem_of_mem_take hx))
  rw [uV _ _ hfl] at WI
  cases WI
  have hcell: ∀m v,((bP u y j q i.size).map aM)[m]? =some v->w.cell? ((a.add (j*u.size+q)).add m)=some v:=fun m v hm=>by
   rw [dm]
   rw [List.getElem?_map] at hm
   obtain ⟨x,hx,rfl⟩:=Option.map_eq_some_iff.1 hm
   unfold bP at hx
   rw [List.getElem?_take] at hx
   split at hx
   ·rw [List.getElem?_drop] at hx
    have:=rB hj hx
    have QH:(aJ u y)[j*u.size+q+m]? =some (aM x):=by
     unfold aJ
     rw [List.getElem?_map,show j*u.size+q+m=j*u.size+(q+m) by omega,this];rfl
    obtain ⟨a',v',f1,f2,f3⟩:=g5 _ _ QH
    rw [ha] at f1;cases f1
    rw [f3 hkn] at f2
    exact (mU s1 f2).1
   ·cases hx
  have hlen:((bP u y j q i.size).map aM).length=i.size:=by simp [bP,aO];omega
  have ex:(AV.v (.one (.cx n j q))).af ρ= .pointer (some (a.add (j*u.size+q))):=by rw [dA ha,g3]
  have Mg:((bP u y j q i.size).map fun c=>Cell.raw (aM c)).map (Cell.af ρ)=(bP u y j q i.size).map aM:=by
   rw [List.map_map];rfl
  refine ⟨?_,?_⟩
  ·show (Instr.loadAt t ((AV.v (.one (.cx n j q))).af ρ)).run P w=_
   rw [ex]
   simp only [Instr.loadAt,Instr.sureAddr,Sem.run_bind,Sem.run_pure,Result.andThen_ok]
   unfold nY at hv
   split at hv
   ·rename_i mo
    cases hv
    have yw:=run_loadCells_list (P:=P) w (a.add (j*u.size+q)) _ hcell
    rw [hlen] at yw
    simp [loadVar,hT.ag ht,mo,hT.sz ht,yw,AV.af,A0.af,Mg]
   ·rename_i mo
    split at hv
    ·rename_i c0 hc0
     cases hv
     have IQ:=Mg
     rw [hc0] at IQ
     simp only [List.map_cons,List.map_nil] at IQ
     have:=hcell 0 (c0.af ρ) (by rw [<- IQ];rfl)
     rw [dm,Nat.add_zero] at this
     simp [loadVar,hT.ag ht,mo,this,AV.af,A0.af]
    ·cases hv
  ·unfold nY at hv
   have hok: ∀c∈(bP u y j q i.size).map fun c=>Cell.raw (aM c),c.ok Kn:=fun c hc=>by
    obtain ⟨_,_,rfl⟩:=List.mem_map.1 hc;trivial
   split at hv
   ·cases hv;exact hok
   ·split at hv
    ·rename_i c0 hc0
     cases hv
     exact hok c0 (by rw [hc0];simp)
    ·cases hv
def jq (b off:Nat) (y:Value) (e:pN):pN:=if e.bt=some b then {e with vals:=e.vals.set off y} else e
theorem kW (b off:Nat) (y:Value) (e:pN):(jq b off y e).bt=e.bt:=by unfold jq;split<;>rfl
theorem Db {es:List pN} {b off:Nat} {y:Value} {a:Addr} {v:Value} (h:iO es a v): ∃v',iO (es.map (jq b off y)) a v'/\ (a≠⟨b,off,none⟩->v'=v)/\ (a=⟨b,off,none⟩->v'=y):=by
 obtain ⟨e,b1,o1,h1,rfl,h2,h3⟩:=h
 by_cases hb:b1=b
 ·subst hb
  by_cases ho:o1=off
  ·subst ho
   refine ⟨y,⟨jq b1 o1 y e,b1,o1,List.mem_map_of_mem h1,rfl,by rw [kW];exact h2,?_⟩,fun h=>absurd rfl h,fun _=>rfl⟩
   unfold jq
   rw [if_pos h2]
   exact List.getElem?_set_self (List.getElem?_eq_some_iff.1 h3).1
  ·refine ⟨v,⟨jq b1 off y e,b1,o1,List.mem_map_of_mem h1,rfl,by rw [kW];exact h2,?_⟩,fun _=>rfl,fun h=>by injection h with _ h _;exact absurd h ho⟩
   unfold jq
   rw [if_pos h2]
   dsimp only
   rw [List.getElem?_set_ne (Ne.symm ho)];exact h3
 ·refine ⟨v,⟨jq b off y e,b1,o1,List.mem_map_of_mem h1,rfl,by rw [kW];exact h2,?_⟩,fun _=>rfl,fun h=>by injection h with h _ _;exact absurd h hb⟩
  unfold jq
  rw [if_neg (by rw [h2];intro h;cases h;exact hb rfl)];exact h3
theorem Pk (t:Ty) (l:List t.T):vU t l=(ak t l).flatMap KI:=by
 unfold vU ak;rw [List.flatMap_assoc]
theorem GY (u:Ty) (x:List u.T):KI (.sl u x)=aJ u x:=by
 unfold KI aJ ak;rw [List.map_flatMap]
theorem tC {α β:Type} {f:α->List β} : ∀ {L:List α} {p p' i i':Nat} {a a':α} {v:β},(L.flatMap f).Nodup->L[p]? =some a->L[p']? =some a'->(f a)[i]? =some v->(f a')[i']? =some v->p=p'/\ i=i'
 | [],p,p',i,i',a,a',v,_,h,_,_,_=>by simp at h
 |c::L,p,p',i,i',a,a',v,hn,h1,h2,h3,h4=>by
  rw [List.flatMap_cons,List.nodup_append] at hn
  obtain ⟨n1,n2,n3⟩:=hn
  have mem: ∀ {p:Nat} {a:α} {i:Nat},L[p]? =some a->(f a)[i]? =some v->v∈L.flatMap f:=fun h h'=>List.mem_flatMap.2 ⟨_,List.mem_of_getElem? h,List.mem_of_getElem? h'⟩
  cases p with
  |zero=>
   simp only [List.getElem?_cons_zero,Option.some.injEq] at h1;subst h1
   cases p' with
   |zero=>
    simp only [List.getElem?_cons_zero,Option.some.injEq] at h2;subst h2
    refine ⟨rfl,?_⟩
    obtain ⟨l3,e3⟩:=List.getElem?_eq_some_iff.1 h3
    obtain ⟨l4,e4⟩:=List.getElem?_eq_some_iff.1 h4
    have XH:=List.pairwise_iff_getElem.1 n1
    rcases Nat.lt_trichotomy i i' with h|h|h
    ·exact absurd (e3.trans e4.symm) (XH i i' l3 l4 h)
    ·exact h
    ·exact absurd (e4.trans e3.symm) (XH i' i l4 l3 h)
   |succ p'=>exact absurd rfl (n3 v (List.mem_of_getElem? h3) v (mem (by simpa using h2) h4))
  |succ p=>
   cases p' with
   |zero=>
    simp only [List.getElem?_cons_zero,Option.some.injEq] at h2;subst h2
    exact absurd rfl (n3 v (List.mem_of_getElem? h4) v (mem (by simpa using h1) h3))
   |succ p'=>
    obtain ⟨e1,e2⟩:=tC n2 (by simpa using h1) (by simpa using h2) h3 h4
    exact ⟨by rw [e1],e2⟩
theorem CU {t u:Ty} {l:List t.T} {j q:Nat} {x':t.T} {z':List u.T} (hj:j<l.length) (hq:q<t.size) (hx:t.aI x'=setCells (t.aI (gd t l j)) q [.sl u z']) (p:Nat):
  (ak t (l.set j x'))[p]? =if p=j*t.size+q then some (.sl u z') else (ak t l)[p]? :=by
 have OL:=bn t l
 have Ub:j*t.size+t.size<=l.length*t.size:=by rw [<- Nat.succ_mul];exact Nat.mul_le_mul_right _ (by omega)
 rw [mC t x' l j hj,dj _ _ _ _ (by rw [aO];omega),aO,hx]
 by_cases h1:j*t.size<=p/\ p<j*t.size+t.size
 ·rw [if_pos h1,dj _ _ _ _ (by rw [aO];simp;omega)]
  by_cases h2:p=j*t.size+q
  ·subst h2
   rw [if_pos rfl,if_pos (by constructor<;>simp<;>omega)]
   have:j*t.size+q- j*t.size- q=0:=by omega
   rw [this];rfl
  ·rw [if_neg (by simp;omega),if_neg h2]
   have:=jX t l j _ (p- j*t.size) (EU hj) (by omega)
   rw [show j*t.size+(p- j*t.size)=p by omega] at this
   exact this.symm
 ·rw [if_neg h1,if_neg (by omega)]
theorem vp (l:List Int):aJ (.int .i64) l=l.map fun n=>Value.int .i64 n:=by
 unfold aJ ak
 rw [List.map_flatMap]
 induction l with
 |nil=>rfl
 |cons a r ih=>rw [List.flatMap_cons,ih];rfl
theorem Hx {u:Ty} {x z:List u.T} {k0:Nat} {y:Int} (h:setInt u x k0 y=some z):u.size=1/\ z.length=x.length/\ aJ u z=(aJ u x).set k0 (.int .i64 y):=by
 cases u with
 |int kk=>
  cases kk with
  |i64=>
   obtain rfl:List.set (show List Int from x) k0 y=z:=Option.some.inj h
   refine ⟨rfl,List.length_set,(vp _).trans ?_⟩
   rw [List.map_set]
   exact congrArg (fun q:List Value=>q.set k0 (.int .i64 y)) (vp _).symm
  |_=>cases h
 |_=>cases h
theorem N3 {ax:iV} {W w:World} {ρ:Env} {Kn:Nat->Prop} {Γ:HP} (hst:St ax W ρ Kn Γ w) {m n c j q g:Nat} {t u:Ty} {l l2:List t.T} {st kn RI:Bool} {x:List u.T} {nm:Nat} {y:Value} {b off k0:Nat} {cells:Array Value} {a0:Addr}
  (hm:Γ m=some (.nv n c j q u)) (hn:Γ n=some (.dp t l c st kn)) (hc:Γ c=some (.set g)) (hj:j<l.length) (hq:(t.aI (gd t l j))[q]? =some (.sl u x)) (hnm: ¬Kn nm)
  (hb:(ρ c).has b) (hbase:(ρ m).base=some a0) (SZ:a0.add k0=⟨b,off,none⟩) (fF: ∀e∈(ρ c).bT,yd (w.setRow b cells) (jq b off y e)) (yw:l2.length=l.length)
  (hh: ∀i v,(∃sub,(aA sub 0 (ak t l2))[i]? =some v)->i<(ak t l).length) (hv: ∀sub,aA sub 0 (ak t l2)=aA sub 0 (ak t l))
  (hN: ∀sub:Nat->Option Addr×Nat,(sub (j*t.size+q)).1=some a0->(∀p u' l',(ak t l)[p]? =some (.sl u' l')->u'.flat=true/\ l'.length<=(sub p).2/\ ∀i v,(aJ u' l')[i]? =some v-> ∃a v',(sub p).1=some a/\ iO (ρ c).bT (a.add i) v'/\ (kn=true->v'=v))->
   ∀p u' l',(ak t l2)[p]? =some (.sl u' l')->u'.flat=true/\ l'.length<=(sub p).2/\ ∀i v,(aJ u' l')[i]? =some v-> ∃a,(sub p).1=some a/\ (∃v0,iO (ρ c).bT (a.add i) v0)/\ (RI=true->(a.add i≠⟨b,off,none⟩->iO (ρ c).bT (a.add i) v)/\ (a.add i=⟨b,off,none⟩->v=y))) (A2:k0<(aJ u x).length):
  St ax W (aV ρ nm {ρ c with bT:=(ρ c).bT.map (jq b off y)}) (sM Kn nm) (bB {val:=aW,fresh:= [.set n],writes:= [(n,.dp t l2 nm st RI),(c,.gone),(m,.gone)],az:= [m,n,c]} nm Γ) (w.setRow b cells):=by
 obtain ⟨q1,q2,q3,q4,sub,rb,h0,h1,h2⟩:=hst.at_ n _ hn
 obtain ⟨s0,s1,s2⟩:=hst.at_ c _ hc
 obtain ⟨_,p1,a,p2,p3⟩:=hst.at_ m _ hm
 let X:Loc:= {ρ c with bT:=(ρ c).bT.map (jq b off y)}
 have hX:aV ρ nm X nm=X:=by simp [aV]
 have Ym: ∀b',X.has b'↔(ρ c).has b':=fun b'=>by
  constructor
  ·rintro (h|⟨e,h1,h2⟩)
   ·exact .inl h
   ·obtain ⟨e',h3,rfl⟩:=List.mem_map.1 h1
    rw [kW] at h2
    exact .inr ⟨e',h3,h2⟩
  ·rintro (h|⟨e,h1,h2⟩)
   ·exact .inl h
   ·exact .inr ⟨_,List.mem_map_of_mem h1,by rw [kW];exact h2⟩
 have Yu:c≠n:=by rintro rfl;rw [hc] at hn;cases hn
 have hmn:m≠n:=by rintro rfl;rw [hm] at hn;cases hn
 have hkn:=(hst.kn n _ hn).1
 have IZ:n≠nm:=by rintro rfl;exact hnm hkn
 let oS:HP:=fun z=>if z=nm then some (.set n) else if z=c\/ z=m then none else Γ z
 have lY:St ax W (aV ρ nm X) (sM Kn nm) oS (w.setRow b cells):=by
  refine hst.Tk (G:= [c,m]) (o:= .set n) (x:=X) hnm (hst.fr.setRow (hst.jR c b (by rw [hc];rfl) hb) _) (fun b' _ hx=>setRow_other _ _ _ _ (by rintro rfl;exact hx ((Ym _).2 hb))) (fun b' hx=>⟨.inr ⟨c,by simp,by rw [hc];rfl,(Ym b').1 hx⟩,hst.jR c b' (by rw [hc];rfl) ((Ym b').1 hx)⟩) (.inl ⟨_,rfl⟩) (fun z p hz=> ?_) (.inl hkn) (fun _ h=>by cases h) fun _ _=> ?_
  ·simp only [oS] at hz
   split at hz
   ·cases hz;exact .inl ⟨‹_›,rfl⟩
   ·split at hz
    ·cases hz
    ·rename_i e1 e2
     exact .inr ⟨e1,by simpa using e2,hz⟩
  ·rw [aX,hX]
   refine ⟨s0,fun e he=> ?_,?_⟩
   ·obtain ⟨e',h3,rfl⟩:=List.mem_map.1 he
    exact fF e' h3
   ·refine List.pairwise_map.2 (s2.imp fun h b' hb'=> ?_)
    rw [kW] at hb' ⊢
    exact h b' hb'
 have hne:l≠ []:=fun h=>by rw [h] at hj;exact absurd hj (Nat.not_lt_zero _)
 have hrb:b≠rb:=by
  have hp:=rB hj hq
  have e:=h1 (j*t.size+q) _ (by rw [bD,hp];rfl)
  rw [h0 hne] at p2
  cases p2
  rw [q3,kg,Nat.zero_add] at p3
  have e:=pb s1 p3 e
  simp only [eN,Value.slice.injEq,Nat.zero_add] at e
  obtain ⟨_,_,g3⟩:=h2 _ u x hp
  obtain ⟨a,v',f1,f2,f3,f4⟩:=g3 k0 _ (List.getElem?_eq_getElem A2)
  rw [<- e.1,hbase] at f1;cases f1
  have hbb:a0.block=b:=by
   have:=congrArg Addr.block SZ
   rwa [dz] at this
  rw [<- hbb];exact f2
 have Ku:(sub (j*t.size+q)).1=some a0:=by
  have hp:=rB hj hq
  have e:=h1 (j*t.size+q) _ (by rw [bD,hp];rfl)
  rw [h0 hne] at p2
  cases p2
  rw [q3,kg,Nat.zero_add] at p3
  have e:=pb s1 p3 e
  simp only [eN,Value.slice.injEq,Nat.zero_add] at e
  rw [<- e.1];exact hbase
 have OQ:oS n=some (.dp t l c st kn):=by simp only [oS];rw [if_neg IZ,if_neg (fun h=>h.elim (fun h=>Yu h.symm) fun h=>hmn h.symm)];exact hn
 let J6:HP:=bN oS n (.dp t l2 nm st RI)
 have S7: ∀z,(J6 z).isSome=true->(oS z).isSome=true:=fun z hz=>by
  simp only [J6,bN] at hz
  split at hz
  ·rename_i e;subst e;rw [OQ];rfl
  ·exact hz
 have my:St ax W (aV ρ nm X) (sM Kn nm) J6 (w.setRow b cells):=by
  refine lY.ql (fun _ _=>rfl) (fun _ h=>h) (fun z b' hz hb'=>⟨z,S7 z hz,hb'⟩) (fun z z' b' hz Zf h1 h2=>lY.cW z z' b' (S7 z hz) (S7 z' Zf) h1 h2) (fun b' ⟨z,S,h1,h2⟩=> ?_) fun z o hz=> ?_
  ·simp only [J6,bN] at h1
   split at h1
   ·cases h1
   ·exact ⟨z,S,h1,h2⟩
  ·simp only [J6,bN] at hz
   split at hz
   rotate_left
   ·exact .inl hz
   rename_i e;subst e
   cases hz
   have WR:aV ρ nm X z=ρ z:=cD hnm z hkn
   refine .inr ⟨.inl hkn,.inr rfl,.inr (by rw [WR];exact ((hst.qI z _ hn).resolve_left (by rintro ⟨_,h⟩;cases h))),fun _=> ?_⟩
   rw [aX,WR,hX]
   refine ⟨q1,by rw [yw];exact q2,q3,by rw [yw];exact q4,sub,rb,fun _=>h0 hne,fun i v hi=> ?_,fun p u' l' hp=> ?_⟩
   ·rw [hv] at hi
    obtain ⟨v',e1,e2,_⟩:=Db (b:=b) (off:=off) (y:=y) (h1 i v hi)
    rw [<- e2 (by intro h;injection h with h _ _;exact hrb h.symm)];exact e1
   ·have TM: ∀p u' l',(ak t l)[p]? =some (.sl u' l')→u'.flat=true∧l'.length≤(sub p).2∧ ∀i v,(aJ u' l')[i]? =some v→ ∃a v',(sub p).1=some a∧iO (ρ c).bT (a.add i) v'∧(kn=true→v'=v):=fun p u' l' hp=>by
     obtain ⟨g1,g2,g3⟩:=h2 p u' l' hp
     refine ⟨g1,g2,fun i v hi=> ?_⟩
     obtain ⟨a,v',f1,_,f3,f4⟩:=g3 i v hi
     exact ⟨a,v',f1,f3,f4⟩
    obtain ⟨g1,g2,g3⟩:=hN sub Ku TM p u' l' hp
    refine ⟨g1,g2,fun i v hi=> ?_⟩
    obtain ⟨a,f1,⟨v0,f2⟩,f3⟩:=g3 i v hi
    obtain ⟨v',e1,e2,e3⟩:=Db (b:=b) (off:=off) (y:=y) f2
    refine ⟨a,v',f1,?_,e1,fun hk=> ?_⟩
    ·
     have tF:(ak t l)[p]? ≠none:=by
      have:=(List.getElem?_eq_some_iff.1 hp).1
      have e4:(ak t l2).length=(ak t l).length:=by rw [bn,bn,yw]
      rw [e4] at this
      rw [List.getElem?_eq_getElem this];exact fun h=>by cases h
     obtain ⟨cc,Mg⟩:=Option.ne_none_iff_exists'.1 tF
     have ev:=congrArg (fun L:List Value=>L[p]?) (hv sub)
     simp only [bD,hp,Mg,Option.map_some,Nat.zero_add,Option.some.injEq] at ev
     cases cc with
     | flat v1=>exact (by
       have h5:=h1 p v1 (by rw [bD,Mg];rfl)
       have h6:=congrArg (fun L:List Value=>L[p]?) (hv fun _=>(none,0))
       have h7:=congrArg (fun L:List Value=>L[p]?) (hv fun _=>(some a,1))
       simp only [bD,hp,Mg,Option.map_some,Nat.zero_add,Option.some.injEq,eN] at h6 h7
       rw [<- h6] at h7
       simp at h7)
     |sl u3 l3=>
      simp only [eN,Value.slice.injEq] at ev
      obtain ⟨_,_,g6⟩:=h2 p u3 l3 Mg
      by_cases xM:l3.length=0
      ·rw [←ev.2.1] at xM
       have:l'= []:=List.eq_nil_of_length_eq_zero xM
       subst this
       simp [aJ,ak] at hi
      ·obtain ⟨a',v5,f5,f6,_⟩:=g6 0 _ (List.getElem?_eq_getElem (by rw [cm];exact Nat.mul_pos (by omega) u3.size_pos))
       rw [f1] at f5;cases f5;exact f6
    ·obtain ⟨f4,f5⟩:=f3 hk
     by_cases ha:a.add i=⟨b,off,none⟩
     ·rw [e3 ha,f5 ha]
     ·rw [e2 ha,pb s1 f2 (f4 ha)]
 have Oi:bB {val:=aW,fresh:= [.set n],writes:= [(n,.dp t l2 nm st RI),(c,.gone),(m,.gone)],az:= [m,n,c]} nm Γ=J6:=by
  have hkc:=(hst.kn c _ hc).1
  have hkm:=(hst.kn m _ hm).1
  funext z
  simp only [bB,bW,List.length_singleton,J6,bN,oS]
  by_cases e1:z=nm
  ·subst e1
   rw [if_pos (by omega),if_neg (Ne.symm IZ),if_pos rfl];simp [live]
  ·rw [if_neg (by omega)]
   by_cases e2:m=z
   ·subst e2;simp [live,hmn,e1]
   ·by_cases e3:c=z
    ·subst e3;simp [live,Yu,e1,e2]
    ·by_cases e4:n=z
     ·subst e4;simp [live,e2,e3]
     ·simp [e1,e2,e3,e4,Ne.symm e2,Ne.symm e3,Ne.symm e4]
 rw [Oi];exact my
theorem EP (hT:br P ctx.tt) {t:TypeId} {i:TI} (ht:aF ctx.tt t=some i) {x y:AV} (h:AE i x y hp nm k):
  ∃r,aL P ctx.X hp nm (fun Kn=>x.ok Kn/\ y.ok Kn) (fun ρ=>Instr.storeAt t (x.af ρ) (y.af ρ)) (fun _=>()) r/\ r.val=aW/\ k r:=by
 unfold AE at h
 split at h<;>try (exact h.elim)
 rename_i m k0 r0 ys hys
 replace h:=ou h
 obtain ⟨n,c,j,q,t',l,st,kn,u,z,g,hm,hn,hc,hj,hq,h⟩:=h
 split at h<;>try (exact h.elim)
 rename_i y0 hy0
 split at h<;>try (exact h.elim)
 rename_i V8
 obtain ⟨rfl,hsz⟩:=V8
 split at h<;>try (exact h.elim)
 rename_i z' Zf
 have Mf:=bh h
 clear h
 obtain ⟨A2,h⟩:=Mf
 have A2:k0<z.length:=by simpa using A2
 obtain ⟨Ih,hzl,Zg⟩:=Hx Zf
 have hy:ys= [.raw (.int .i64 y0)]:=fa (fun _=> {}) ys [y0] hy0
 have hfl:k0<(aJ u z).length:=by rw [cm,Ih];omega
 have hqs:q<t'.size:=by have:=(List.getElem?_eq_some_iff.1 hq).1;rwa [aO] at this
 have main: ∀(l2:List t'.T) (RI:Bool),l2.length=l.length->(∀sub,aA sub 0 (ak t' l2)=aA sub 0 (ak t' l))->
   (∀(es:List pN) (b off:Nat) (a0:Addr),a0.add k0=⟨b,off,none⟩->(∀a v v',iO es a v->iO es a v'->v=v')-> ∀sub:Nat->Option Addr×Nat,(sub (j*t'.size+q)).1=some a0->(∀p u' l',(ak t' l)[p]? =some (.sl u' l')->u'.flat=true/\ l'.length<=(sub p).2/\ ∀i v,(aJ u' l')[i]? =some v-> ∃a v',(sub p).1=some a/\ iO es (a.add i) v'/\ (kn=true->v'=v))->
    ∀p u' l',(ak t' l2)[p]? =some (.sl u' l')->u'.flat=true/\ l'.length<=(sub p).2/\ ∀i v,(aJ u' l')[i]? =some v-> ∃a,(sub p).1=some a/\ (∃v0,iO es (a.add i) v0)/\ (RI=true->(a.add i≠⟨b,off,none⟩->iO es (a.add i) v)/\ (a.add i=⟨b,off,none⟩->v= .int .i64 y0)))->
   aL P ctx.X hp nm (fun Kn=>(AV.v (.one (.cx m k0 0))).ok Kn/\ y.ok Kn) (fun ρ=>Instr.storeAt t ((AV.v (.one (.cx m k0 0))).af ρ) (y.af ρ)) (fun _=>()) {val:=aW,fresh:= [.set n],writes:= [(n,.dp t' l2 nm st RI),(c,.gone),(m,.gone)],az:= [m,n,c]} :=by
  intro l2 RI yw hv2 hN
  refine ⟨fun p fI=> ?_,?_⟩
  ·simp only [List.mem_cons,List.not_mem_nil,or_false] at fI
   rcases fI with rfl|rfl|rfl
   ·rw [hn];simp
   ·rw [hc];simp
   ·rw [hm];simp
  intro ax W ρ Kn Γ w _ hk dU hfr hst
  have hnm: ¬Kn nm:=by simpa using hfr 0 (by simp)
  have rK:Γ m=some (.nv n c j q u):=by rw [dU m (by simp),hm]
  have th:Γ n=some (.dp t' l c st kn):=by rw [dU n (by simp),hn]
  have jB:Γ c=some (.set g):=by rw [dU c (by simp),hc]
  obtain ⟨Cy,g2,g3,g4,g5⟩:=KM hst rK th jB hj hq
  obtain ⟨s0,s1,s2⟩:=hst.at_ c _ jB
  obtain ⟨a0,v',ha0,⟨e,b,off,he,SZ,XC,CJ⟩,_⟩:=g5 k0 _ (List.getElem?_eq_getElem hfl)
  rcases s1 e he with ⟨h4,_⟩|⟨b',rest,Im,h4,h5,h6,h7,h8,h9⟩
  ·rw [h4] at XC;cases XC
  rw [h4] at XC;cases XC
  have Rw:off<e.vals.length:=(List.getElem?_eq_some_iff.1 CJ).1
  have Yt:(e.vals++rest).take (off+0)++ [Value.int .i64 y0]++(e.vals++rest).drop (off+0+1)=e.vals.set off (.int .i64 y0)++rest:=by
   rw [Nat.add_zero,List.take_append_of_le_length (by omega),List.drop_append_of_le_length (by omega),List.set_eq_take_append_cons_drop,if_pos Rw]
   simp
  have hrun:(Instr.storeAt t ((AV.v (.one (.cx m k0 0))).af ρ) (y.af ρ)).run P w= .ok () (w.setRow b (e.vals.set off (.int .i64 y0)++rest).toArray):=by
   have tf:=run_storeCells_at P b off Im [Value.int .i64 y0] 0 _ w h6 (by simp;omega) (fun v hv=>by simp only [List.mem_singleton] at hv;subst hv;rfl)
   rw [dA ha0,g3,Ih,Nat.mul_one,Nat.add_zero,SZ,oq hT ht (vs:= [Value.int .i64 y0]) (by rw [AV.gQ hys ρ,hy];rfl) (by simpa using hsz.symm),tf]
   congr 2
   rw [<- Yt];rfl
  refine ⟨aV ρ nm {ρ c with bT:=(ρ c).bT.map (jq b off (.int .i64 y0))},_,hrun,cD hnm,qD _,?_⟩
  have Uc:iQ Kn nm {val:=aW,fresh:= [.set n],writes:= [(n,.dp t' l2 nm st RI),(c,.gone),(m,.gone)],az:= [m,n,c]} =sM Kn nm:=by
   funext z;simp only [iQ,sM,List.length_singleton];congr 1;apply propext;omega
  rw [Uc]
  have FK:=setRow_heap w b _ (e.vals.set off (.int .i64 y0)++rest).toArray _ _ h6
  refine N3 hst rK th jB hj hq hnm (.inr ⟨e,he,h4⟩) ha0 SZ (fun e1 Gp=> ?_) yw (fun i v ⟨sub,hi⟩=> ?_) hv2 (hN _ b off a0 SZ fun a v v' h h'=>pb s1 h h') hfl
  ·have XH:e1=e∨e1.bt≠some b:=by
    by_cases Mc:e1=e
    ·exact .inl Mc
    ·right
     intro TL
     obtain ⟨p1,QH,VT⟩:=List.getElem_of_mem Gp
     obtain ⟨p2,ZJ,Yb⟩:=List.getElem_of_mem he
     have hpq:=List.pairwise_iff_getElem.1 s2
     rcases Nat.lt_trichotomy p1 p2 with h|h|h
     ·exact hpq p1 p2 QH ZJ h b (by rw [VT];exact TL) (by rw [Yb];exact h4)
     ·subst h;exact Mc (VT.symm.trans Yb)
     ·exact hpq p2 p1 ZJ QH h b (by rw [Yb];exact h4) (by rw [VT];exact TL)
   rcases XH with rfl|fg
   ·unfold jq
    rw [if_pos h4]
    exact .inr ⟨b,rest,Im,h4,h5,FK,h7,by simpa using h8,h9⟩
   ·unfold jq
    rw [if_neg fg]
    rcases s1 e1 Gp with Mc|⟨b1,Xi,t1,Mc,TL,QH,VT⟩
    ·exact .inl Mc
    ·exact .inr ⟨b1,Xi,t1,Mc,TL,by rw [setRow_other _ _ _ _ (by rintro rfl;exact fg Mc)];exact QH,VT⟩
  ·have:=(List.getElem?_eq_some_iff.1 hi).1
   rw [hv2,bJ] at this;exact this
 split at h
 ·refine ⟨_,main l false rfl (fun _=>rfl) (fun es b off a0 _ _ sub _ ho p u' l' hp=> ?_),rfl,h⟩
  obtain ⟨g1,g2,g3⟩:=ho p u' l' hp
  refine ⟨g1,g2,fun i v hi=> ?_⟩
  obtain ⟨a,v',f1,f2,_⟩:=g3 i v hi
  exact ⟨a,f1,⟨v',f2⟩,fun h=>by cases h⟩
 ·split at h<;>try (exact h.elim)
  rename_i x' hx'
  have Mf:=bh h
  clear h
  obtain ⟨hkn,h⟩:=Mf
  obtain ⟨nE,h⟩:=h
  have h:=h _ rfl
  have Wa:t'.aI x'=setCells (t'.aI (gd t' l j)) q [.sl u z']:=by
   have:=jQ t' _ _ _ hx';rw [List.append_nil] at this;exact this.symm
  have uo:=CU hj hqs Wa
  have OH:=rB hj hq
  refine ⟨_,main (l.set j x') true (by simp) (fun sub=> ?_) (fun es b off a0 SZ YE sub Ku ho p u' l' hp=> ?_),rfl,h⟩
  ·apply List.ext_getElem?
   intro p
   rw [bD,bD,uo]
   split
   ·rename_i e;subst e
    rw [OH]
    simp [eN,hzl]
   ·rfl
  ·rw [Pk] at nE
   obtain ⟨i1,i2,i3⟩:=ho _ u z OH
   have old: ∀p u' l' i v a,(ak t' l)[p]? =some (.sl u' l')->(aJ u' l')[i]? =some v->(sub p).1=some a->a.add i=⟨b,off,none⟩->p=j*t'.size+q/\ i=k0:=fun p u' l' i v a hp hi ha hab=>by
    obtain ⟨a1,v1,f1,f2,f3⟩:=(ho p u' l' hp).2.2 i v hi
    rw [ha] at f1;cases f1
    obtain ⟨a2,v2,f4,f5,f6⟩:=i3 k0 _ (List.getElem?_eq_getElem hfl)
    rw [Ku] at f4;cases f4
    rw [hab,<- SZ] at f2
    have e:=YE _ _ _ f2 f5
    rw [f3 hkn,f6 hkn] at e
    exact tC nE hp OH (by rw [GY];exact hi) (by rw [GY,e];exact List.getElem?_eq_getElem hfl)
   rw [uo] at hp
   split at hp
   ·rename_i e;subst e
    cases hp
    refine ⟨i1,by rw [hzl];exact i2,fun i v hi=> ?_⟩
    rw [Zg,List.getElem?_set] at hi
    have Vo:i<(aJ u z).length:=by
     split at hi
     ·rename_i e;subst e;exact hfl
     ·exact (List.getElem?_eq_some_iff.1 hi).1
    obtain ⟨a,v',f1,f2,f3⟩:=i3 i _ (List.getElem?_eq_getElem Vo)
    refine ⟨a,f1,⟨v',f2⟩,fun _=>⟨fun hne=> ?_,fun heq=> ?_⟩⟩
    ·split at hi
     ·rename_i e;subst e
      rw [Ku] at f1;cases f1
      exact absurd SZ hne
     ·rw [List.getElem?_eq_getElem Vo] at hi
      cases hi
      rw [<- f3 hkn];exact f2
    ·obtain ⟨_,e⟩:=old _ u z i _ a OH (List.getElem?_eq_getElem Vo) f1 heq
     rw [if_pos e.symm,if_pos hfl] at hi
     exact (Option.some.inj hi).symm
   ·rename_i Nu
    obtain ⟨g1,g2,g3⟩:=ho p u' l' hp
    refine ⟨g1,g2,fun i v hi=> ?_⟩
    obtain ⟨a,v',f1,f2,f3⟩:=g3 i v hi
    refine ⟨a,f1,⟨v',f2⟩,fun _=>⟨fun _=>by rw [<- f3 hkn];exact f2,fun heq=> ?_⟩⟩
    exact absurd (old p u' l' i v a hp hi f1 heq).1 Nu
end
end Go.Ev
