/- Each operation, but for calls, does what 'opE' says. -/
import Derived.Test.YtbjfokijjefoeaaGreatEvB
noncomputable section
set_option linter.unusedSectionVars false
set_option linter.unusedVariables false
set_option linter.unusedSimpArgs false
namespace Go.Ev
open Go.RowKit
def aU (P:Program) (tt:List (Nat×TI)):Prop:= ∀t i,aG tt t=some i->P.underlying t=some i.desc/\
 0<i.size/\ ∃inf,P.info? t=some inf/\ inf.size=i.size/\ inf.bytes=i.bytes/\ inf.zero=some i.zero/\ (aF i.desc=true->P.stoodInHeld t=false/\ P.eqGuardType P.depth t=false)
section
variable {P:Program} {tt:List (Nat×TI)} {t:TypeId} {i:TI}
theorem aU.u (h:aU P tt) (ht:aG tt t=some i) (w:World):(underlying t).run P w= .ok i.desc w:=run_underlying (h t i ht).1 w
theorem aU.ti (h:aU P tt) (ht:aG tt t=some i) (w:World): ∃inf,(typeInfo t).run P w= .ok inf w/\ inf.size=i.size/\ inf.bytes=i.bytes/\ inf.zero=some i.zero:=by
 obtain ⟨_,_,inf,h1,h2,h3,h4,_⟩:=h t i ht
 exact ⟨inf,by simp [typeInfo,h1],h2,h3,h4⟩
theorem aU.sz (h:aU P tt) (ht:aG tt t=some i) (w:World):(sizeOf t).run P w= .ok i.size w:=by
 obtain ⟨inf,h1,h2,_⟩:=h.ti ht w
 simp [sizeOf,h1,h2]
theorem aU.z (h:aU P tt) (ht:aG tt t=some i) (w:World):(zeroValue t).run P w= .ok i.zero w:=by
 obtain ⟨inf,h1,_,_,h4⟩:=h.ti ht w
 simp [zeroValue,h1,h4]
theorem aU.ag (h:aU P tt) (ht:aG tt t=some i) (w:World):(isAgg t).run P w= .ok (aF i.desc) w:=by
 simp only [isAgg,Sem.run_bind,h.u ht w,Result.andThen_ok,aF]
 cases i.desc<;>rfl
end
theorem dS (f:Cell->Value) (cs:List Cell) (off m:Nat):((cs.drop off).take m).map f=((cs.map f).drop off).take m:=by simp [List.map_drop,List.map_take]
section
variable {P:Program} {ctx:Ctx} {hp:HP} {nm:Nat} {k:Rec->Prop}
theorem bF {w:World} {b:Nat} {cs:List Value} {e:TypeId} (h:w.heap[b]? =some (.cells cs.toArray e (0,0))) (o:Nat):w.cell? ⟨b,o,none⟩=cs[o]? :=by
 simp [World.cell?,h]
theorem l9 (hT:aU P ctx.tt) {t:TypeId} {i:TI} (ht:aG ctx.tt t=some i) {w:World} {b off:Nat} {cs rest:List Value} {e:TypeId}
  (hh:w.heap[b]? =some (.cells (cs++rest).toArray e (0,0))):
  (aF i.desc=true->off+i.size<=cs.length->(loadVar t ⟨b,off,none⟩).run P w= .ok (.agg ((cs.drop off).take i.size).toArray) w)/\
  (aF i.desc=false-> ∀v,cs[off]? =some v->(loadVar t ⟨b,off,none⟩).run P w= .ok v w):=by
 constructor
 ·intro ha hl
  have hlen:((cs.drop off).take i.size).length=i.size:=by simp;omega
  have hc: ∀j v,((cs.drop off).take i.size)[j]? =some v->w.cell? ((⟨b,off,none⟩:Addr).add j)=some v:=by
   intro j v hj
   have e1:(⟨b,off,none⟩:Addr).add j=⟨b,off+j,none⟩:=by unfold Addr.add;split<;>simp_all
   rw [e1,bF hh]
   rw [List.getElem?_take] at hj
   split at hj
   ·rename_i hj2
    rw [List.getElem?_drop] at hj
    rw [List.getElem?_append_left (by omega)];exact hj
   ·cases hj
  have hl:=run_loadCells_list (P:=P) w ⟨b,off,none⟩ _ hc
  rw [hlen] at hl
  simp [loadVar,hT.ag ht,ha,hT.sz ht,hl]
 ·intro ha v hv
  have hlt:off<cs.length:=by
   rcases Nat.lt_or_ge off cs.length with h|h
   ·exact h
   ·rw [List.getElem?_eq_none h] at hv;cases hv
  have hc:w.cell? ⟨b,off,none⟩=some v:=by rw [bF hh,List.getElem?_append_left hlt,hv]
  simp [loadVar,hT.ag ht,ha,hc]
theorem V8 (hT:aU P ctx.tt) {t:TypeId} {i:TI} (ht:aG ctx.tt t=some i) {cs:List Cell} {n off:Nat} {e:TypeId} (he:hp n=some (.cells cs e)) (h:OV i cs n off k):
  ∃r,aK P ctx.X hp nm (fun _=>True) (fun ρ=>Instr.loadAt t (.pointer (addrOf ρ n off))) (fun ρ=>r.val.af ρ) r/\ k r:=by
 unfold OV at h
 split at h
 ·rename_i ha
  split at h
  ·rename_i hl
   refine ⟨_,aK.pure ?_,h⟩
   intro ax W ρ Kn Γ w _ _ dY hst
   have cj:Γ n=some (.cells cs e):=by rw [dY n (by simp),he]
   obtain ⟨b,hb,hh⟩:=hst.at_ n _ cj
   refine ⟨?_,?_⟩
   ·have:=(l9 hT ht (off:=off) (rest:= []) (by simpa using hh)).1 ha (by simpa using hl)
    simp only [Instr.loadAt,Instr.sureAddr,addrOf,hb,Option.map_some,Sem.run_bind,Sem.run_pure,Result.andThen_ok,this,AV.af,A0.af,dS]
   ·intro c hc
    exact (hst.kn n _ cj).2 c (List.mem_of_mem_drop (List.mem_of_mem_take hc))
  ·exact h.elim
 ·rename_i ha
  split at h
  ·rename_i c hc
   refine ⟨_,aK.pure ?_,h⟩
   intro ax W ρ Kn Γ w _ _ dY hst
   have cj:Γ n=some (.cells cs e):=by rw [dY n (by simp),he]
   obtain ⟨b,hb,hh⟩:=hst.at_ n _ cj
   refine ⟨?_,?_⟩
   ·have:=(l9 hT ht (off:=off) (rest:= []) (by simpa using hh)).2 (by simpa using ha) (c.af ρ) (by simp [hc])
    simp only [Instr.loadAt,Instr.sureAddr,addrOf,hb,Option.map_some,Sem.run_bind,Sem.run_pure,Result.andThen_ok,this,AV.af,A0.af]
   ·exact (hst.kn n _ cj).2 c (List.mem_of_getElem? hc)
  ·exact h.elim
theorem dj (a:Addr) (m n:Nat):(a.add m).add n=a.add (m+n):=by
 unfold Addr.add;split<;>split<;>simp_all<;>omega
theorem bn {b:Bool} {p:Prop} (h:ob b p):b=true/\ p:=by cases b<;>first|exact h.elim|exact ⟨rfl,h⟩
theorem fu (ρ:Env): ∀(cs:List Cell) (ns:List Int),ja cs=some ns->cs=ns.map fun n=>Cell.raw (.int .i64 n)
 | [],ns,h=>by simp only [ja,Option.some.injEq] at h;subst h;rfl
 |c::r,ns,h=>by
  unfold ja at h
  split at h
  ·simp_all
  ·rename_i n r' heq
   cases heq
   split at h
   ·rename_i l hl;cases h;rw [fu ρ r l hl];rfl
   ·cases h
  ·cases h
theorem w7: ∀(m off:Nat) (ns:List Int),off+m<=ns.length->ry ns off m=((ns.map fun n=>Cell.raw (.int .i64 n)).drop off).take m
 |0,off,ns,_=>by simp [ry]
 |m+1,off,ns,h=>by
  rw [ry,w7 m (off+1) ns (by omega),List.drop_eq_getElem_cons (i:=off) (by simp;omega),List.take_succ_cons,List.getElem_map,List.getD,List.getElem?_eq_getElem (by omega)]
  rfl
theorem K7 (off:Nat) (y:Int): ∀(ns:List Int) (q:Nat),q<=off->zM off y q ns=ns.set (off- q) y
 | [],q,_=>by simp [zM]
 |n::r,q,h=>by
  rw [zM]
  by_cases e:off=q
  ·subst e
   have: ∀(l:List Int) (p:Nat),off<p->zM off y p l=l:=by
    intro l
    induction l with
    |nil=>intro p _;rfl
    |cons a l ih=>
     intro p hp
     rw [zM,ih _ (by omega)]
     have:Nat.beq off p=false:=by
      cases hb:Nat.beq off p with
      |false=>rfl
      |true=>exact absurd (Nat.eq_of_beq_eq_true hb) (by omega)
     rw [this];rfl
   have hb:Nat.beq off off=true:=Nat.beq_refl off
   rw [this r (off+1) (by omega),hb];simp
  ·rw [K7 off y r (q+1) (by omega)]
   have hb:Nat.beq off q=false:=by
    cases hb:Nat.beq off q with
    |false=>rfl
    |true=>exact absurd (Nat.eq_of_beq_eq_true hb) e
   rw [hb,show off- q=(off- (q+1))+1 by omega];simp
theorem zL: ∀(ys ns:List Int) (off:Nat),tM off ys ns=setCells ns off ys
 | [],_,_=>rfl
 |y::r,ns,off=>by rw [tM,zL r,K7 off y ns 0 (Nat.zero_le _)];rfl
theorem bw (sub:Nat->Option Addr×Nat): ∀(cs:List ck) (q i:Nat),(aD sub q cs)[i]? =(cs[i]?).map (eX (sub (q+i)))
 | [],q,i=>by simp [aD]
 |c::r,q,0=>by simp [aD]
 |c::r,q,i+1=>by
  simp only [aD,List.getElem?_cons_succ]
  rw [bw sub r,show q+1+i=q+(i+1) by omega]
theorem l8 (t:Ty): ∀(l:List t.T) (j:Nat) (x:t.T) (q:Nat),l[j]? =some x->q<t.size->(ak t l)[j*t.size+q]? =(t.aJ x)[q]?
 | [],j,x,q,h,_=>by simp at h
 |y::r,0,x,q,h,hq=>by
  simp only [List.getElem?_cons_zero,Option.some.injEq] at h;subst h
  simp only [ak,List.flatMap_cons,Nat.zero_mul,Nat.zero_add]
  rw [List.getElem?_append_left (by rw [aM];exact hq)]
 |y::r,j+1,x,q,h,hq=>by
  simp only [ak,List.flatMap_cons]
  rw [List.getElem?_append_right (by rw [aM,Nat.add_mul];omega),aM,show (j+1)*t.size+q- t.size=j*t.size+q by rw [Nat.add_mul];omega]
  exact l8 t r j x q (by simpa using h) hq
theorem MM {t:Ty} {l:List t.T} {j:Nat} (h:j<l.length):l[j]? =some (gd t l j):=by
 simp [gd,List.getD,h]
theorem Q6 {u' u:Ty} {l:List u'.T} {l':List u.T} (h:kG u' u l=some l'):ck.sl u' l=ck.sl u l':=by
 unfold kG at h
 split at h
 ·rename_i e;subst e;cases h;rfl
 ·cases h
theorem lI: ∀(t:Ty) (cs:List ck) (x:t.T) (r:List ck),jx t cs=some (x,r)->cs=t.aJ x++r
 | .int k,cs,x,r,h=>by
  simp only [jx] at h
  split at h
  ·split at h
   ·rename_i e;subst e;cases h;rfl
   ·cases h
  ·cases h
 | .bool,cs,x,r,h=>by
  simp only [jx] at h
  split at h
  ·cases h;rfl
  ·cases h
 | .str,cs,x,r,h=>by
  simp only [jx] at h
  split at h
  ·cases h;rfl
  ·cases h
 | .prod a b,cs,x,r,h=>by
  simp only [jx] at h
  split at h
  ·rename_i x1 r1 h1
   split at h
   ·rename_i y r2 h2
    cases h
    rw [lI a _ _ _ h1,lI b _ _ _ h2]
    simp [Ty.aJ]
   ·cases h
  ·cases h
 | .sl u,cs,x,r,h=>by
  simp only [jx] at h
  split at h
  ·split at h
   ·rename_i l' hl
    cases h
    rw [Q6 hl];rfl
   ·cases h
  ·cases h
theorem Y4 (Kn:Nat->Prop) (nm:Nat) (o:aI) (os:List aI) (v v':AV) (ws ws':List (Nat×aI)) (tc zZ:List Nat):
  jO (yz Kn nm) (nm+1) {val:=v,fresh:=os,writes:=ws,aC:=tc} =jO Kn nm {val:=v',fresh:=o::os,writes:=ws',aC:=zZ} :=by
 funext m;simp only [jO,yz,List.length_cons];apply propext
 constructor
 ·rintro ((h|h)|h)
  ·exact .inl h
  ·exact .inr (by omega)
  ·exact .inr (by omega)
 ·rintro (h|h)
  ·exact .inl (.inl h)
  ·by_cases e:m=nm
   ·exact .inl (.inr e)
   ·exact .inr (by omega)
theorem Ve (Γ:HP) (nm:Nat) (o:aI) (os:List aI) (v v':AV) (tc zZ:List Nat) (ho:live (some o)=some o):
  bC {val:=v,fresh:=os,aC:=tc} (nm+1) (bH Γ nm o)=bC {val:=v',fresh:=o::os,aC:=zZ} nm Γ:=by
 funext m
 simp only [bC,cf,List.length_cons,bH]
 by_cases h:m=nm
 ·subst h
  have h1: ¬(m+1<=m/\ m<m+1+os.length):=by omega
  have h2:m<=m/\ m<m+(os.length+1):=by omega
  rw [if_neg h1,if_pos rfl,if_pos h2];simp [ho]
 ·by_cases h2:nm+1≤m∧m<nm+1+os.length
  ·have h3:nm≤m∧m<nm+(os.length+1):=by omega
   rw [if_pos h2,if_pos h3,show m- nm=(m- (nm+1))+1 by omega];simp
  ·have h3: ¬(nm≤m∧m<nm+(os.length+1)):=by omega
   rw [if_neg h2,if_neg h,if_neg h3]
theorem Y5 (Kn:Nat->Prop) (nm:Nat) (v:AV) (tc:List Nat):jO Kn nm {val:=v,fresh:= [],aC:=tc} =Kn:=gH Kn nm v [] tc
theorem St.views {ax:kz} {W w:World} {sub:Nat->Option Addr×Nat} {okf:Nat->Prop} (v:AV) (tc:List Nat): ∀(cs:List ck) (q nm:Nat) (ρ:Env) (Kn:Nat->Prop) (Γ:HP),St ax W ρ Kn Γ w->(∀i,i<(fg nm cs).2.length-> ¬Kn (nm+i))->
  (∀b,okf b->gW ρ Γ w b)->(∀i u l,cs[i]? =some (.sl u l)->fm w okf (sub (q+i)) u l)->
  ∃ρ',(∀m,Kn m->ρ' m=ρ m)/\ (fg nm cs).1.map (Cell.af ρ')=aD sub q cs/\ (∀c∈(fg nm cs).1,c.ok (jO Kn nm {val:=v,fresh:=(fg nm cs).2,aC:=tc}))/\
   St ax W ρ' (jO Kn nm {val:=v,fresh:=(fg nm cs).2,aC:=tc}) (bC {val:=v,fresh:=(fg nm cs).2,aC:=tc} nm Γ) w
 | [],q,nm,ρ,Kn,Γ,h,_,_,_=>⟨ρ,fun _ _=>rfl,rfl,fun c hc=>absurd hc (by simp [fg]),by simp only [fg];rw [Y5,si];exact h⟩
 | .flat v0::r,q,nm,ρ,Kn,Γ,h,hf,hok,hn=>by
  obtain ⟨ρ',h1,h2,h3,h4⟩:=St.views v tc r (q+1) nm ρ Kn Γ h hf hok fun i u l hi=>by
   have:=hn (i+1) u l (by simpa using hi)
   rwa [show q+(i+1)=q+1+i by omega] at this
  refine ⟨ρ',h1,?_,?_,h4⟩
  ·simp only [fg,List.map_cons,h2,aD];rfl
  ·intro c hc
   simp only [fg,List.mem_cons] at hc
   rcases hc with rfl|hc
   ·trivial
   ·exact h3 c hc
 | .sl u l::r,q,nm,ρ,Kn,Γ,h,hf,hok,hn=>by
  have hnm: ¬Kn nm:=by simpa using hf 0 (by simp [fg])
  have h0:fm w okf (sub q) u l:=by simpa using hn 0 u l rfl
  let x:Loc:= {bq:=none,base:=(sub q).1,len:=l.length,cap:=(sub q).2,es:=u.size}
  have hfz: ∀b,gW ρ Γ w b->gW (aY ρ nm x) (bH Γ nm (.row u l 0)) w b:=fun b hb=>⟨hb.1,by
   rintro (⟨m,h1,h2⟩|⟨m,S,h1,h2⟩)
   ·unfold aY at h2
    unfold bH at h1
    split at h2
    ·exact absurd (jI.1 h2) (fun h=>by cases h)
    ·rename_i e;rw [if_neg e] at h1;exact hb.2 (.inl ⟨m,h1,h2⟩)
   ·unfold bH at h1
    split at h1
    ·cases h1
    ·exact hb.2 (.inr ⟨m,S,h1,h2⟩)⟩
  have h1:St ax W (aY ρ nm x) (yz Kn nm) (bH Γ nm (.row u l 0)) w:=by
   refine h.swap (G:= []) (o:= .row u l 0) (x:=x) hnm h.fr (fun _ _ _=>rfl) (fun b hb=>by cases hb) (fun m p hp=> ?_) trivial (fun _ h=>by cases h) fun _ _=> ?_
   ·unfold bH at hp
    split at hp
    ·rename_i e1;cases hp;exact .inl ⟨e1,rfl⟩
    ·rename_i e1;exact .inr ⟨e1,by simp,hp⟩
   ·have e:aY ρ nm x nm=x:=by simp [aY]
    rw [bh,e]
    refine ⟨rfl,rfl,h0.2.1,fun _=>(none,0),?_⟩
    have hfl: ∀(l:List u.T) (c:ck),c∈ak u l-> ∃v,c= .flat v:=fun l c hc=>by
     obtain ⟨y,_,hy⟩:=List.mem_flatMap.1 hc
     exact eC u h0.1 y c hy
    have hv: ∀(cs:List ck),(∀c∈cs,∃v,c= .flat v)-> ∀q,aD (fun _=>(none,0)) q cs=cs.map aL:=by
     intro cs
     induction cs with
     |nil=>intro _ q;rfl
     |cons c r ih=>
      intro hc q
      obtain ⟨v,rfl⟩:=hc c (by simp)
      simp only [aD,List.map_cons]
      rw [ih (fun c hm=>hc c (by simp [hm]))];rfl
    refine ⟨fun i v XB=> ?_,fun i u' l' hi=> ?_,fun _=>rfl,fun h=>absurd rfl h⟩
    ·rw [hv _ (hfl l)] at XB
     obtain ⟨a,e1,e2,e3⟩:=h0.2.2 i v XB
     exact ⟨a,e1,e2,fun _=>hfz _ (hok _ e3)⟩
    ·obtain ⟨v,XB⟩:=hfl l _ (List.mem_of_getElem? hi)
     cases XB
  obtain ⟨ρ',e1,e2,e3,e4⟩:=St.views v tc r (q+1) (nm+1) _ _ _ h1 (fun i hi=>by
   have:=hf (i+1) (by simpa [fg] using hi)
   rintro (h2|h2)
   ·exact this (by rwa [show nm+(i+1)=nm+1+i by omega])
   ·omega) (fun b hb=>hfz b (hok b hb)) fun i u l hi=>by
   have:=hn (i+1) u l (by simpa using hi)
   rwa [show q+(i+1)=q+1+i by omega] at this
  have ex:ρ' nm=x:=by rw [e1 nm (.inr rfl)];simp [aY]
  rw [Y4 (o:= .row u l 0) (v':=v) (ws':= []) (zZ:=tc)] at e3 e4
  rw [Ve (o:= .row u l 0) (v':=v) (zZ:=tc) (ho:=rfl)] at e4
  refine ⟨ρ',fun m hm=>by rw [e1 m (.inl hm)];exact cG hnm m hm,?_,?_,e4⟩
  ·simp only [fg,List.map_cons,e2,aD,Cell.af,ex];rfl
  ·intro c hc
   simp only [fg,List.mem_cons] at hc
   rcases hc with rfl|hc
   ·exact .inr ⟨Nat.le_refl _,by simp [fg]⟩
   ·exact e3 c hc
where
 eC: ∀(t:Ty),t.flat=true-> ∀(x:t.T) (c:ck),c∈t.aJ x-> ∃v,c= .flat v
  | .int _,_,x,c,hc=>by simp [Ty.aJ] at hc;exact ⟨_,hc⟩
  | .bool,_,x,c,hc=>by simp [Ty.aJ] at hc;exact ⟨_,hc⟩
  | .str,_,x,c,hc=>by simp [Ty.aJ] at hc;exact ⟨_,hc⟩
  | .prod a b,h,x,c,hc=>by
   simp only [Ty.flat,Bool.and_eq_true] at h
   simp only [Ty.aJ,List.mem_append] at hc
   rcases hc with hc|hc
   ·exact eC a h.1 _ c hc
   ·exact eC b h.2 _ c hc
  | .sl _,h,_,_,_=>by cases h
theorem vP {t:Ty} {l:List t.T} {j q:Nat} {c:ck} (h:j<l.length) (hq:(t.aJ (gd t l j))[q]? =some c):(ak t l)[j*t.size+q]? =some c:=by
 rw [l8 t l j _ q (MM h) (by have:=(List.getElem?_eq_some_iff.1 hq).1;rwa [aM] at this)];exact hq
theorem nu: ∀(cs:List ck) (ns:List Int),sv cs=some ns->cs=ns.map fun m=> .flat (.int .i64 m)
 | [],ns,h=>by simp only [sv,Option.some.injEq] at h;subst h;rfl
 |c::r,ns,h=>by
  unfold sv at h
  split at h
  ·simp_all
  ·rename_i n r' heq
   cases heq
   split at h
   ·rename_i l hl;cases h
    rw [nu r l hl];rfl
   ·cases h
  ·cases h
theorem Ji (nm:Nat): ∀(ns:List Int),fg nm (ns.map fun m=> .flat (.int .i64 m))=(ns.map fun m=> .raw (.int .i64 m),[])
 | []=>rfl
 |n::r=>by simp only [List.map_cons,fg,Ji nm r]
theorem z8 (nm:Nat): ∀(cs:List ck),(∀c∈cs,∃v,c= .flat v)->fg nm cs=(cs.map fun c=>Cell.raw (aL c),[])
 | [],_=>rfl
 |c::r,h=>by
  obtain ⟨v,rfl⟩:=h c (by simp)
  simp only [fg,z8 nm r fun c hc=>h c (by simp [hc]),List.map_cons];rfl
theorem KD (hT:aU P ctx.tt) {t:TypeId} {i:TI} (ht:aG ctx.tt t=some i) {n j q:Nat} (h:yA i (.v (.one (.bD n j q))) hp nm k):
  ∃r,aK P ctx.X hp nm (fun Kn=>(AV.v (.one (.bD n j q))).ok Kn) (fun ρ=>Instr.loadAt t ((AV.v (.one (.bD n j q))).af ρ)) (fun ρ=>r.val.af ρ) r/\ k r:=by
 unfold yA at h
 dsimp only at h
 split at h
 ·rename_i u l rk he
  split at h
  ·rename_i hsz
   obtain ⟨hj,h⟩:=bn h
   simp only [decide_eq_true_eq] at hj
   generalize hvw:fg nm (bI u l j q i.size)=z at h
   obtain ⟨cs,os⟩:=z
   dsimp only at h
   split at h
   ·rename_i v hv
    refine ⟨_,⟨fun p hp=>absurd hp (by simp),?_⟩,h⟩
    intro ax W ρ Kn Γ w _ _ dY hfr hst
    have cj:Γ n=some (.row u l rk):=by rw [dY n (by simp),he]
    obtain ⟨o1,o2,o3,sub,m1,m2,m3,m4⟩:=hst.at_ n _ cj
    have VP:(bI u l j q i.size).length=i.size:=by simp [bI,aM];omega
    have hcg: ∀m c,(bI u l j q i.size)[m]? =some c->(ak u l)[j*u.size+q+m]? =some c:=fun m c hm=>by
     unfold bI at hm
     rw [List.getElem?_take] at hm
     split at hm
     ·rw [List.getElem?_drop] at hm
      rw [show j*u.size+q+m=j*u.size+(q+m) by omega]
      exact vP hj hm
     ·cases hm
    have hos:(fg nm (bI u l j q i.size)).2=os:=by rw [hvw]
    have hcs:(fg nm (bI u l j q i.size)).1=cs:=by rw [hvw]
    obtain ⟨ρ',e1,e2,e3,e4⟩:=St.views v [n] (bI u l j q i.size) (j*u.size+q) nm ρ Kn Γ hst (by rw [hos];exact hfr) (okf:=fun b=>gW ρ Γ w b) (fun _ h=>h) fun m u' l' hm=>(m2 _ u' l' (hcg m _ hm)).mono fun b hb=>⟨hb.1,rfl⟩
    rw [hos] at e3 e4
    rw [hcs] at e2 e3
    have DN: ∀m v,(aD sub (j*u.size+q) (bI u l j q i.size))[m]? =some v-> ∃a,(ρ n).base=some a/\ w.cell? (a.add (j*u.size+q+m))=some v:=fun m v hm=>by
     rw [bw] at hm
     obtain ⟨c,hc,rfl⟩:=Option.map_eq_some_iff.1 hm
     have:=m1 (j*u.size+q+m) (eX (sub (j*u.size+q+m)) c) (by rw [bw,hcg m c hc];simp)
     obtain ⟨a,a1,a2,_⟩:=this
     exact ⟨a,a1,a2⟩
    have hpos:=(hT t i ht).2.1
    obtain ⟨a,ha,_⟩: ∃a,(ρ n).base=some a/\ True:=by
     have: ∃v,(aD sub (j*u.size+q) (bI u l j q i.size))[0]? =some v:=⟨_,List.getElem?_eq_getElem (by rw [bE,VP];exact hpos)⟩
     obtain ⟨v,hv⟩:=this
     obtain ⟨a,h1,_⟩:=DN 0 v hv
     exact ⟨a,h1,trivial⟩
    have hcell: ∀m v,(aD sub (j*u.size+q) (bI u l j q i.size))[m]? =some v->w.cell? ((a.add (j*u.size+q)).add m)=some v:=fun m v hm=>by
     obtain ⟨a',h1,h2⟩:=DN m v hm
     rw [ha] at h1;cases h1
     rw [dj];exact h2
    have hlen:(aD sub (j*u.size+q) (bI u l j q i.size)).length=i.size:=by rw [bE,VP]
    have ac2:(loadVar t (a.add (j*u.size+q))).run P w= .ok (v.af ρ') w/\ v.ok (jO Kn nm {val:=v,fresh:=os,aC:= [n]}):=by
     unfold qO at hv
     split at hv
     ·rename_i oS
      cases hv
      have tw:=run_loadCells_list (P:=P) w (a.add (j*u.size+q)) _ hcell
      rw [hlen] at tw
      exact ⟨by simp [loadVar,hT.ag ht,oS,hT.sz ht,tw,AV.af,A0.af,e2],e3⟩
     ·rename_i oS
      split at hv
      ·rename_i c
       cases hv
       simp only [List.map_cons,List.map_nil] at e2
       have:=hcell 0 (c.af ρ') (by rw [<- e2];rfl)
       rw [dj,Nat.add_zero] at this
       exact ⟨by simp [loadVar,hT.ag ht,oS,this,AV.af,A0.af],e3 c (by simp)⟩
      ·cases hv
    refine ⟨ρ',w,Eq.trans ?_ ac2.1,e1,ac2.2,e4⟩
    have ex:(AV.v (.one (.bD n j q))).af ρ= .pointer (some (a.add (j*u.size+q))):=by simp [AV.af,A0.af,Cell.af,ha,o2]
    show (Instr.loadAt t ((AV.v (.one (.bD n j q))).af ρ)).run P w=_
    rw [ex]
    simp only [Instr.loadAt,Instr.sureAddr,Sem.run_bind,Sem.run_pure,Result.andThen_ok]
   ·exact h.elim
  ·exact h.elim
 ·rename_i gn c kk u gx l he
  split at h<;>try (exact h.elim)
  rename_i gm hc
  split at h<;>try (exact h.elim)
  rename_i hsz
  obtain ⟨hj,h⟩:=bn h
  simp only [decide_eq_true_eq] at hj
  split at h<;>try (exact h.elim)
  rename_i v hv
  refine ⟨_,aK.pure fun ax W ρ Kn Γ w _ _ dY hst=> ?_,h⟩
  have cj:Γ n=some (.gv gn c kk u gx l):=by rw [dY n (by simp),he]
  obtain ⟨_,o1,o2,_,Kr,o4⟩:=hst.at_ n _ cj
  have hfl: ∀x∈bI u l j q i.size,∃v,x= .flat v:=fun x hx=>St.views.eC u Kr _ x (List.mem_of_mem_drop (List.mem_of_mem_take hx))
  rw [z8 _ _ hfl] at hv
  rcases o4 with ⟨e0,_⟩|⟨e,b,h1,h2,_,h4,h5,_,_,h8,_⟩
  ·rw [e0] at hj;exact absurd hj (Nat.not_lt_zero _)
  have iV:=hst.at_ c _ (by rw [dY c (by simp),hc])
  rcases iV.2.1 e h1 with ⟨h9,_⟩|⟨b',rest,QS,h9,_,h11,_⟩
  ·rw [h9] at h2;cases h2
  rw [h2] at h9;cases h9
  rw [h8] at h11
  have ha:(ρ n).base=some ⟨b,0,none⟩:=by rw [<- h4,h5]
  have hcell: ∀m v,((bI u l j q i.size).map aL)[m]? =some v->w.cell? ((⟨b,0,none⟩:Addr).add (j*u.size+q)|>.add m)=some v:=fun m v hm=>by
   rw [dj]
   have e1:(⟨b,0,none⟩:Addr).add (j*u.size+q+m)=⟨b,j*u.size+q+m,none⟩:=by unfold Addr.add;split<;>simp_all
   rw [e1,bF h11]
   rw [List.getElem?_map] at hm
   obtain ⟨x,hx,rfl⟩:=Option.map_eq_some_iff.1 hm
   unfold bI at hx
   rw [List.getElem?_take] at hx
   split at hx
   ·rw [List.getElem?_drop] at hx
    have:=vP hj hx
    have Xz:(aH u l)[j*u.size+q+m]? =some (aL x):=by
     unfold aH
     rw [List.getElem?_map,show j*u.size+q+m=j*u.size+(q+m) by omega,this];rfl
    rw [List.getElem?_append_left (List.getElem?_eq_some_iff.1 Xz).1];exact Xz
   ·cases hx
  have hlen:((bI u l j q i.size).map aL).length=i.size:=by simp [bI,aM];omega
  have ex:(AV.v (.one (.bD n j q))).af ρ= .pointer (some ((⟨b,0,none⟩:Addr).add (j*u.size+q))):=by simp [AV.af,A0.af,Cell.af,ha,o2]
  have VO:((bI u l j q i.size).map fun c=>Cell.raw (aL c)).map (Cell.af ρ)=(bI u l j q i.size).map aL:=by
   rw [List.map_map];rfl
  refine ⟨?_,?_⟩
  ·show (Instr.loadAt t ((AV.v (.one (.bD n j q))).af ρ)).run P w=_
   rw [ex]
   simp only [Instr.loadAt,Instr.sureAddr,Sem.run_bind,Sem.run_pure,Result.andThen_ok]
   unfold qO at hv
   split at hv
   ·rename_i oS
    cases hv
    have tw:=run_loadCells_list (P:=P) w ((⟨b,0,none⟩:Addr).add (j*u.size+q)) _ hcell
    rw [hlen] at tw
    simp [loadVar,hT.ag ht,oS,hT.sz ht,tw,AV.af,A0.af,VO]
   ·rename_i oS
    split at hv
    ·rename_i c0 hc0
     cases hv
     have Rp:=VO
     dsimp only at hc0
     rw [hc0] at Rp
     simp only [List.map_cons,List.map_nil] at Rp
     have:=hcell 0 (c0.af ρ) (by rw [<- Rp];rfl)
     rw [dj,Nat.add_zero] at this
     simp [loadVar,hT.ag ht,oS,this,AV.af,A0.af]
    ·cases hv
  ·unfold qO at hv
   have hok: ∀c∈(bI u l j q i.size).map fun c=>Cell.raw (aL c),c.ok Kn:=fun c hc=>by
    obtain ⟨_,_,rfl⟩:=List.mem_map.1 hc;trivial
   split at hv
   ·cases hv;exact hok
   ·split at hv
    ·rename_i c0 hc0
     cases hv
     dsimp only at hc0
     exact hok c0 (by rw [hc0];simp)
    ·cases hv
 ·rename_i cs he
  split at h<;>try (exact h.elim)
  rename_i hj;subst hj
  have Rn: ∀ {ax:kz} {W:World} {ρ:Env} {Kn:Nat->Prop} {Γ:HP} {w:World},(∀m∈ [n],Γ m=hp m)->St ax W ρ Kn Γ w-> ∀m c,cs[q+m]? =some c-> ∃a,(ρ n).base=some a/\ w.cell? ((a.add q).add m)=some (c.af ρ):=fun dY hst m c hm=>by
   have g:=hst.at_ n (.rc cs) (by rw [dY n (by simp),he])
   obtain ⟨a,h1,h2,_⟩:=g.2 _ _ hm
   exact ⟨a,h1,by rw [dj];exact h2⟩
  have ex: ∀ {ρ:Env} {a:Addr},(ρ n).base=some a->(AV.v (.one (.bD n 0 q))).af ρ= .pointer (some (a.add q)):=fun ha=>by simp [AV.af,A0.af,Cell.af,ha]
  unfold OV at h
  split at h
  ·rename_i oS
   split at h
   ·rename_i hl
    refine ⟨_,aK.pure ?_,h⟩
    intro ax W ρ Kn Γ w _ _ dY hst
    have cj:Γ n=some (.rc cs):=by rw [dY n (by simp),he]
    have hpos:=(hT t i ht).2.1
    obtain ⟨c0,hc0⟩: ∃c,cs[q+0]? =some c:=⟨_,List.getElem?_eq_getElem (by omega)⟩
    obtain ⟨a,ha,_⟩:=Rn dY hst 0 c0 hc0
    have hcell: ∀m v,(((cs.drop q).take i.size).map (Cell.af ρ))[m]? =some v->w.cell? ((a.add q).add m)=some v:=fun m v hm=>by
     rw [List.getElem?_map] at hm
     obtain ⟨c,hc,rfl⟩:=Option.map_eq_some_iff.1 hm
     rw [List.getElem?_take] at hc
     split at hc
     ·rw [List.getElem?_drop] at hc
      obtain ⟨a',h1,h2⟩:=Rn dY hst m c hc
      rw [ha] at h1;cases h1;exact h2
     ·cases hc
    have tw:=run_loadCells_list (P:=P) w (a.add q) _ hcell
    have hlen:(((cs.drop q).take i.size).map (Cell.af ρ)).length=i.size:=by simp;omega
    rw [hlen] at tw
    refine ⟨?_,fun c hc=>(hst.kn n _ cj).2 c (List.mem_of_mem_drop (List.mem_of_mem_take hc))⟩
    show (Instr.loadAt t ((AV.v (.one (.bD n 0 q))).af ρ)).run P w=_
    rw [ex ha]
    simp only [Instr.loadAt,Instr.sureAddr,Sem.run_bind,Sem.run_pure,Result.andThen_ok]
    simp [loadVar,hT.ag ht,oS,hT.sz ht,tw,AV.af,A0.af]
   ·exact h.elim
  ·rename_i oS
   split at h
   ·rename_i c hc
    refine ⟨_,aK.pure ?_,h⟩
    intro ax W ρ Kn Γ w _ _ dY hst
    have cj:Γ n=some (.rc cs):=by rw [dY n (by simp),he]
    obtain ⟨a,ha,h2⟩:=Rn dY hst 0 c hc
    rw [dj,Nat.add_zero] at h2
    refine ⟨?_,(hst.kn n _ cj).2 c (List.mem_of_getElem? hc)⟩
    show (Instr.loadAt t ((AV.v (.one (.bD n 0 q))).af ρ)).run P w=_
    rw [ex ha]
    simp only [Instr.loadAt,Instr.sureAddr,Sem.run_bind,Sem.run_pure,Result.andThen_ok]
    simp [loadVar,hT.ag ht,oS,h2,AV.af,A0.af]
   ·exact h.elim
 ·exact h.elim
theorem abL {i:TI} {n j q:Nat} (h:yA i (.v (.one (.fK n j q))) hp nm k):yA i (.v (.one (.bD n j q))) hp nm k:=by
 unfold yA at h ⊢
 dsimp only at h ⊢
 split at h
 ·rename_i u l rk he
  split at h
  ·rename_i ns NY
   obtain ⟨h1,h⟩:=bn h
   obtain ⟨h2,h⟩:=bn h
   simp only [decide_eq_true_eq] at h1
   have hl:ns.length=u.size:=by
    have:=aM u (gd u l j)
    rw [nu _ _ NY] at this
    simpa using this
   have e:fg nm (bI u l j q i.size)=(ry ns q i.size,[]):=by
    unfold bI
    rw [nu _ _ NY,<- List.map_drop,<- List.map_take,Ji,w7 _ _ _ (by omega),<- List.map_drop,<- List.map_take]
   rw [he]
   dsimp only
   rw [if_pos h1,h2,e]
   exact h
  ·exact h.elim
 ·exact h.elim
theorem V9 (hT:aU P ctx.tt) {t:TypeId} {i:TI} (ht:aG ctx.tt t=some i) {x:AV} (h:yA i x hp nm k):
  ∃r,aK P ctx.X hp nm (fun Kn=>x.ok Kn) (fun ρ=>Instr.loadAt t (x.af ρ)) (fun ρ=>r.val.af ρ) r/\ k r:=by
 unfold yA at h
 split at h
 ·rename_i n off
  split at h
  ·rename_i cs e he
   obtain ⟨r,h1,h2⟩:=V8 (nm:=nm) hT ht he h
   exact ⟨r,⟨h1.1,fun ax W ρ Kn Γ w a _ c d e=>h1.2 ax W ρ Kn Γ w a trivial c d e⟩,h2⟩
  ·exact h.elim
 ·rename_i n off
  split at h
  ·rename_i cs e he
   split at h
   ·rename_i ns NY
    obtain ⟨hl,h⟩:=bn h
    simp only [decide_eq_true_eq] at hl
    split at h
    ·rename_i v hv
     refine ⟨_,aK.pure ?_,h⟩
     intro ax W ρ Kn Γ w _ _ dY hst
     have cj:Γ n=some (.cells cs e):=by rw [dY n (by simp),he]
     obtain ⟨b,hb,hh⟩:=hst.at_ n _ cj
     have ecs:=fu ρ cs ns NY
     have hlen:cs.length=ns.length:=by rw [ecs];simp
     have br:ry ns off i.size=(cs.drop off).take i.size:=by rw [w7 _ _ _ (by omega),<- ecs]
     rw [br] at hv
     have hrun:=l9 hT ht (off:=off) (w:=w) (rest:= []) (cs:=cs.map (Cell.af ρ)) (b:=b) (e:=e) (by simpa using hh)
     unfold qO at hv
     split at hv
     ·rename_i ha
      cases hv
      refine ⟨?_,fun c hc=>(hst.kn n _ cj).2 c (List.mem_of_mem_drop (List.mem_of_mem_take hc))⟩
      have:=hrun.1 ha (by simpa using hl)
      simp only [Instr.loadAt,Instr.sureAddr,AV.af,A0.af,Cell.af,addrOf,hb,Option.map_some,Sem.run_bind,Sem.run_pure,Result.andThen_ok,this,dS]
     ·rename_i ha
      split at hv
      ·rename_i c hc
       cases hv
       have hcs:cs[off]? =some c:=by
        have h0:((cs.drop off).take i.size)[0]? =some c:=by rw [hc];rfl
        rw [List.getElem?_take] at h0
        split at h0
        ·rw [List.getElem?_drop] at h0;simpa using h0
        ·cases h0
       refine ⟨?_,(hst.kn n _ cj).2 c (List.mem_of_getElem? hcs)⟩
       have:=hrun.2 (by simpa using ha) (c.af ρ) (by simp [hcs])
       simp only [Instr.loadAt,Instr.sureAddr,AV.af,A0.af,Cell.af,addrOf,hb,Option.map_some,Sem.run_bind,Sem.run_pure,Result.andThen_ok,this]
      ·cases hv
    ·exact h.elim
   ·exact h.elim
  ·exact h.elim
 ·rename_i n j q
  exact KD hT ht (by unfold yA;exact h)
 ·rename_i n j q
  exact KD hT ht (abL (by unfold yA;exact h))
 ·exact h.elim
theorem nK {α β:Type} (f:α->β): ∀(ys cs:List α) (off:Nat),(setCells cs off ys).map f=setCells (cs.map f) off (ys.map f)
 | [],_,_=>rfl
 |y::r,cs,off=>by simp only [setCells,List.map_cons];rw [nK f r];simp [List.map_set]
theorem n6 {ρ:Env} {n b off:Nat} (hb:(ρ n).bq=some b):(AV.v (.one (.ptr n off))).af ρ= .pointer (some ⟨b,off,none⟩):=by
 simp [AV.af,A0.af,Cell.af,addrOf,hb]
theorem pJ {ρ:Env} {n b off:Nat} (hb:(ρ n).bq=some b):(AV.v (.one (.nS n off))).af ρ= .pointer (some ⟨b,off,none⟩):=by
 simp [AV.af,A0.af,Cell.af,addrOf,hb]
theorem q6 (hT:aU P ctx.tt) {t:TypeId} {i:TI} (ht:aG ctx.tt t=some i) {a:Addr} {v:Value} {vs:List Value} (hv:v.cells=vs.toArray) (hl:vs.length=i.size) (w:World):
  (Instr.storeAt t (.pointer (some a)) v).run P w=(storeCells a vs).run P w:=by
 simp [Instr.storeAt,Instr.sureAddr,storeVar,hT.sz ht,hv,hl]
theorem vO: ∀(ys:List Cell) (ps:List ck),fO ys=some ps->ps.length=ys.length/\ pV ys=true/\ ∀(ρ:Env),ys.map (Cell.af ρ)=ps.map aL/\ ∀c∈ps,∃v,c= .flat v
 | [],ps,h=>by simp only [fO,Option.some.injEq] at h;subst h;exact ⟨rfl,rfl,fun ρ=>⟨rfl,by simp⟩⟩
 |y::r,ps,h=>by
  unfold fO at h
  split at h
  ·simp_all
  ·rename_i v r' heq
   cases heq
   have main: ∀qs,fO r=some qs->wh v=true->(ck.flat v::qs).length=(Cell.raw v::r).length/\ pV (Cell.raw v::r)=true/\ ∀(ρ:Env),(Cell.raw v::r).map (Cell.af ρ)=(ck.flat v::qs).map aL/\ ∀c∈(ck.flat v::qs),∃v,c= .flat v:=fun qs hq hv=>by
    obtain ⟨h1,h2,h3⟩:=vO r qs hq
    refine ⟨by simp [h1],by simp [pV,Cell.one,hv,h2],fun ρ=>⟨by simp [(h3 ρ).1,Cell.af,aL],fun c hc=> ?_⟩⟩
    rcases List.mem_cons.1 hc with rfl|hc
    ·exact ⟨v,rfl⟩
    ·exact (h3 ρ).2 c hc
   split at h<;>try (cases h;done)
   all_goals
    obtain ⟨qs,hq,rfl⟩:=Option.map_eq_some_iff.1 h
    exact main qs hq rfl
  ·cases h
theorem Mz {c:ck} (h: ∃v,c= .flat v) (s:Option Addr×Nat):eX s c=aL c:=by obtain ⟨v,rfl⟩:=h;rfl
theorem di {α:Type} : ∀(ys cs:List α) (off i:Nat),off+ys.length<=cs.length->(setCells cs off ys)[i]? =if off<=i/\ i<off+ys.length then ys[i- off]? else cs[i]? :=by
 intro ys cs off i h
 rw [jr ys cs off h]
 simp only [List.getElem?_append,List.length_append,List.length_take,List.getElem?_take,List.getElem?_drop]
 grind
theorem pE (t:Ty) (x':t.T): ∀(l:List t.T) (j:Nat),j<l.length->ak t (l.set j x')=setCells (ak t l) (j*t.size) (t.aJ x')
 | [],j,h=>by simp at h
 |x::r,0,_=>by
  simp only [List.set_cons_zero,ak,List.flatMap_cons,Nat.zero_mul]
  rw [jr _ _ _ (by simp [aM])]
  simp [aM]
 |x::r,j+1,h=>by
  simp only [List.length_cons] at h
  have hl:=bj t r
  have ih:=pE t x' r j (by omega)
  have hb:j*t.size+t.size<=r.length*t.size:=by rw [<- Nat.succ_mul];exact Nat.mul_le_mul_right _ (by omega)
  simp only [List.set_cons_succ,ak,List.flatMap_cons] at ih hl ⊢
  rw [ih]
  apply List.ext_getElem?
  intro i
  have e:(j+1)*t.size=j*t.size+t.size:=Nat.succ_mul _ _
  rw [di _ _ _ _ (by rw [List.length_append,aM,aM,hl,e];omega),List.getElem?_append,di _ _ _ _ (by rw [aM,hl];omega),List.getElem?_append]
  simp only [aM,e]
  by_cases h1:i<t.size
  ·rw [if_pos h1,if_pos h1,if_neg (by omega)]
  ·rw [if_neg h1,if_neg h1]
   by_cases h2:j*t.size<=i- t.size/\ i- t.size<j*t.size+t.size
   ·rw [if_pos h2,if_pos (by omega),show i- (j*t.size+t.size)=i- t.size- j*t.size by omega]
   ·rw [if_neg h2,if_neg (by omega)]
theorem OL: ∀(ms:List Int),pV (ms.map fun n=>Cell.raw (.int .i64 n))=true
 | []=>rfl
 |a::r=>by simp [pV,Cell.one,wh,OL r]
theorem St.drop {ax:kz} {W:World} {ρ:Env} {Kn:Nat->Prop} {Γ ru:HP} {w:World} (h:St ax W ρ Kn Γ w) (hs: ∀x p,ru x=some p->Γ x=some p):St ax W ρ Kn ru w:=by
 have hL: ∀b,LO ρ ru b->LO ρ Γ b:=fun b hb=>by
  rcases hb with ⟨m,h1,h2⟩|⟨m,S,h1,h2⟩
  ·obtain ⟨o,ho⟩:=Option.isSome_iff_exists.1 h1
   exact .inl ⟨m,by rw [hs m o ho];rfl,h2⟩
  ·exact .inr ⟨m,S,hs m _ h1,h2⟩
 have hsm: ∀m,(ru m).isSome=true->(Γ m).isSome=true:=fun m hm=>by
  obtain ⟨o,ho⟩:=Option.isSome_iff_exists.1 hm
  rw [hs m o ho];rfl
 exact ⟨h.fr,fun n o ho=>ct (Kn:=Kn) (h.at_ n o (hs n o ho)) (fun _ _=>rfl) (h.kn n o (hs n o ho)).1 (h.kn n o (hs n o ho)).2 (fun b hb=>⟨⟨hb.1,fun q=>hb.2 (hL b q)⟩,rfl⟩) (fun _ _ h=>h) fun _ _=>rfl,
  fun n o ho=>h.kn n o (hs n o ho),fun n m b hn hm=>h.dK n m b (hsm n hn) (hsm m hm),fun n b hn=>h.oF n b (hsm n hn),fun b ⟨m,S,h1,h2⟩=>⟨(h.zo b ⟨m,S,hs m _ h1,h2⟩).1,fun ⟨m',h3,h4⟩=>(h.zo b ⟨m,S,hs m _ h1,h2⟩).2 ⟨m',hsm m' h3,h4⟩⟩,fun n o ho=>h.yl n o (hs n o ho)⟩
theorem Tq (hT:aU P ctx.tt) {t:TypeId} {i:TI} (ht:aG ctx.tt t=some i) {n j q:Nat} {y:AV} {ys:List Cell} (hys:y.cells=some ys) (hsz:ys.length=i.size) {u:Ty} {l:List u.T} {rk:Nat} (he:hp n=some (.row u l rk)) (rE: ¬rk=0) (h:Tp u l rk n j q ys hp k):
  ∃r,aK P ctx.X hp nm (fun Kn=>(AV.v (.one (.bD n j q))).ok Kn/\ y.ok Kn) (fun ρ=>Instr.storeAt t ((AV.v (.one (.bD n j q))).af ρ) (y.af ρ)) (fun _=>()) r/\ r.val=aX/\ k r:=by
 unfold Tp at h
 split at h
 rotate_left
 ·exact h.elim
 rename_i m
 split at h
 rotate_left
 ·exact h.elim
 rename_i u' lm rm hm
 split at h
 ·exact h.elim
 rename_i hc
 simp only [not_or] at hc
 obtain ⟨hrm,RC,hmn,Kr,hq⟩:=hc
 have Kr:u'.flat=true:=by simpa using Kr
 split at h
 rotate_left
 ·exact h.elim
 rename_i x' hx'
 obtain ⟨hj,h⟩:=bn h
 have h:=h.2 _ rfl
 simp only [decide_eq_true_eq] at hj
 refine ⟨_,⟨fun p eo=> ?_,?_⟩,rfl,h⟩
 ·simp only [List.mem_cons,List.not_mem_nil,or_false] at eo
  rcases eo with rfl|rfl
  ·rw [he];simp
  ·rw [hm];simp
 intro ax W ρ Kn Γ w _ hk dY _ hst
 have cj:Γ n=some (.row u l rk):=by rw [dY n (by simp),he]
 have vU:Γ m=some (.row u' lm rm):=by rw [dY m (by simp),hm]
 obtain ⟨o1,o2,o3,sub,m1,m2,m3,m4⟩:=hst.at_ n _ cj
 obtain ⟨p1,p2,p3,agW,q1,q2,q3,q4⟩:=hst.at_ m _ vU
 rcases (m4 rE).old RC with ⟨_,h0,_⟩|⟨b,rest,e,hb,hbase,hh,hcap⟩
 ·subst h0;simp at hj
 have hcx:u.aJ x'=setCells (u.aJ (gd u l j)) q [.sl u' lm]:=by
  have:=lI u _ _ _ hx';rw [List.append_nil] at this;exact this.symm
 have hrl:=bj u l
 have hjl:j*u.size+u.size<=l.length*u.size:=by rw [<- Nat.succ_mul];exact Nat.mul_le_mul_right _ (by omega)
 have CY: ∀x,(ak u (l.set j x'))[x]? =if x=j*u.size+q then some (.sl u' lm) else (ak u l)[x]? :=fun x=>by
  rw [pE u x' l j hj,di _ _ _ _ (by rw [aM];omega),aM,hcx]
  by_cases h1:j*u.size<=x/\ x<j*u.size+u.size
  ·rw [if_pos h1,di _ _ _ _ (by rw [aM];simp;omega)]
   by_cases h2:x=j*u.size+q
   ·subst h2
    rw [if_pos rfl,if_pos (by constructor<;>simp<;>omega)]
    have:j*u.size+q- j*u.size- q=0:=by omega
    rw [this];rfl
   ·rw [if_neg (by simp;omega),if_neg h2]
    have:=l8 u l j _ (x- j*u.size) (MM hj) (by omega)
    rw [show j*u.size+(x- j*u.size)=x by omega] at this
    exact this.symm
  ·rw [if_neg h1,if_neg (by omega)]
 obtain ⟨sub',TW⟩: ∃sub':Nat->Option Addr×Nat,sub'=fun x=>if x=j*u.size+q then ((ρ m).base,(ρ m).cap) else sub x:=⟨_,rfl⟩
 have DN:aD sub' 0 (ak u (l.set j x'))=setCells (aD sub 0 (ak u l)) (j*u.size+q) ([Cell.full m].map (Cell.af ρ)):=by
  apply List.ext_getElem?
  intro x
  rw [bw,CY,di _ _ _ _ (by rw [bE];simp;omega),bw]
  by_cases h1:x=j*u.size+q
  ·subst h1
   rw [if_pos rfl,if_pos (by simp),Nat.sub_self,TW]
   simp [eX,Cell.af,p1]
  ·rw [if_neg h1,if_neg (by simp;omega),TW,Nat.zero_add]
   simp only [if_neg h1]
 have hlt:j*u.size+q+1<=(aD sub 0 (ak u l)).length:=by rw [bE,hrl];omega
 have hrun:(Instr.storeAt t ((AV.v (.one (.bD n j q))).af ρ) (y.af ρ)).run P w= .ok () (w.setRow b (aD sub' 0 (ak u (l.set j x'))++rest).toArray):=by
  have hst:=run_storeCells_at P b (j*u.size+q) e ([Cell.full m].map (Cell.af ρ)) 0 _ w hh (by simp;omega) (qz [Cell.full m] rfl ρ)
  have ex:(AV.v (.one (.bD n j q))).af ρ= .pointer (some ⟨b,j*u.size+q,none⟩):=by
   simp only [AV.af,A0.af,Cell.af,hbase,o2,Option.map_some]
   unfold Addr.add;split<;>simp_all
  rw [ex,q6 hT ht (AV.iT hys ρ) (by simpa using hsz),hst,DN]
  congr 2
  simp only [Nat.add_zero,List.length_map]
  rw [jr _ _ _ (by simpa using hlt)]
  rw [List.take_append_of_le_length (by omega),List.drop_append_of_le_length (by simp;omega)]
  simp
 refine ⟨ρ,_,hrun,fun _ _=>rfl,fun a ha=>absurd ha (by simp),?_⟩
 obtain ⟨TD,RE⟩: ∃TD:HP,TD=fun x=>if x=m then none else Γ x:=⟨_,rfl⟩
 have oZ:St ax W ρ Kn TD w:=hst.drop fun x p eo=>by
  rw [RE] at eo
  dsimp only at eo
  split at eo
  ·cases eo
  ·exact eo
 have agr:TD n=some (.row u l rk):=by rw [RE];dsimp only;rw [if_neg (Ne.symm hmn)];exact cj
 have Yu:bC {val:=aX,writes:= [(n,.row u (l.set j x') rk),(m,.gone)],aC:= [n,m]} nm Γ=bH TD n (.row u (l.set j x') rk):=by
  funext x
  simp only [bC,bH,cf,List.length_nil,RE]
  rw [if_neg (by omega)]
  by_cases h1:m=x
  ·subst h1
   simp [live,hmn]
  ·by_cases h2:n=x
   ·subst h2;simp [h1,live]
   ·simp [h1,h2,Ne.symm h1,Ne.symm h2]
 rw [gH,Yu]
 refine oZ.write agr hb trivial (fun _ h=>by cases h) fun hfz=> ?_
 have Rv: ∀b',gW ρ Γ w b'->gW ρ TD w b':=fun b' hb'=>⟨hb'.1,by
  rintro (⟨x,h1,h2⟩|⟨x,S,h1,h2⟩)
  ·rw [RE] at h1
   dsimp only at h1
   split at h1
   ·cases h1
   ·exact hb'.2 (.inl ⟨x,h1,h2⟩)
  ·rw [RE] at h1
   dsimp only at h1
   split at h1
   ·cases h1
   ·exact hb'.2 (.inr ⟨x,S,h1,h2⟩)⟩
 have hfm: ∀b',(ρ m).bq=some b'->bA w b'->gW ρ TD w b':=fun b' hb' Ro=>⟨Ro,by
  rintro (⟨x,h1,h2⟩|⟨x,S,h1,h2⟩)
  ·rw [RE] at h1
   dsimp only at h1
   split at h1
   ·cases h1
   ·rename_i hx
    exact hx (hst.dK x m b' h1 (by rw [vU];rfl) h2 (.inl hb'))
  ·rw [RE] at h1
   dsimp only at h1
   split at h1
   ·cases h1
   ·exact (hst.zo b' ⟨x,S,h1,h2⟩).2 ⟨m,by rw [vU];rfl,.inl hb'⟩⟩
 have CZ:=setRow_heap w b _ (aD sub' 0 (ak u (l.set j x'))++rest).toArray _ _ hh
 refine ⟨by simpa using o1,o2,by simpa using o3,sub',fun x v hx=> ?_,fun x u2 l2 hx=> ?_,m3,fun _=>gV.new (.inr ⟨b,rest,e,hb,hbase,CZ,?_⟩)⟩
 ·refine ⟨_,hbase,?_,fun e=>absurd e rE⟩
  have e1:(⟨b,0,none⟩:Addr).add x=⟨b,x,none⟩:=by unfold Addr.add;split<;>simp_all
  rw [e1,bF CZ,List.getElem?_append_left (List.getElem?_eq_some_iff.1 hx).1];exact hx
 ·rw [CY] at hx
  split at hx
  ·rename_i hx0
   cases hx
   have es:sub' x=((ρ m).base,(ρ m).cap):=by rw [TW,hx0];simp
   rw [es]
   refine ⟨Kr,p3,fun i v hv=> ?_⟩
   have hvs:aD agW 0 (ak u' lm)=aH u' lm:=by
    unfold aH
    have: ∀(cs:List ck) (z:Nat),(∀c∈cs,∃v,c= .flat v)->aD agW z cs=cs.map aL:=by
     intro cs
     induction cs with
     |nil=>intro _ _;rfl
     |cons c r ih=>
      intro z hz
      obtain ⟨v,rfl⟩:=hz c (by simp)
      simp only [aD,List.map_cons,ih (z+1) fun c hc=>hz c (by simp [hc])]
      rfl
    exact this _ 0 fun c hc=>by
     obtain ⟨x2,_,h2⟩:=List.mem_flatMap.1 hc
     exact St.views.eC u' Kr x2 c h2
   obtain ⟨a,k1,k2,_⟩:=q1 i v (by rw [hvs];exact hv)
   rcases q4 hrm with ⟨_,h0,_⟩|⟨bm,alb,ajS,em,hbm,Yx,hhm,ajf⟩
   ·rw [List.eq_nil_of_length_eq_zero h0] at hv;simp [aH,ak] at hv
   ·rw [Yx] at k1
    cases k1
    have hcb:bA w bm:=⟨_,_,_,hhm⟩
    obtain ⟨f1,f2⟩:=hfz bm (hfm bm hbm hcb)
    refine ⟨_,Yx,?_,f1,fun _=>⟨(hst.own m bm (by rw [vU];rfl) hbm).imp_right .inl,(Mi.of hhm).same f2⟩⟩
    rw [<- k2]
    exact World.cell?_of_block (by rw [dX];exact f2)
  ·rename_i hx0
   have es:sub' x=sub x:=by rw [TW];exact if_neg hx0
   rw [es]
   exact (m2 x _ _ hx).mono fun b' hb'=>⟨⟨(hfz b' (Rv b' hb'.1)).1,fun e=>⟨(hb'.2 e).1,(hb'.2 e).2.same (hfz b' (Rv b' hb'.1)).2⟩⟩,(hfz b' (Rv b' hb'.1)).2⟩
 ·exact ⟨by rw [hcap.1];simp [bE,bj],hcap.2⟩
theorem I7 (hT:aU P ctx.tt) {t:TypeId} {i:TI} (ht:aG ctx.tt t=some i) {n j q:Nat} {y:AV} (h:rW i (.v (.one (.bD n j q))) y hp k):
  ∃r,aK P ctx.X hp nm (fun Kn=>(AV.v (.one (.bD n j q))).ok Kn/\ y.ok Kn) (fun ρ=>Instr.storeAt t ((AV.v (.one (.bD n j q))).af ρ) (y.af ρ)) (fun _=>()) r/\ r.val=aX/\ k r:=by
 unfold rW at h
 cases hys:y.cells with
 |none=>rw [hys] at h;exact h.elim
 |some ys=>
 rw [hys] at h
 dsimp only at h
 split at h
 ·rename_i hsz
  split at h
  ·rename_i u l rk he
   split at h
   ·exact h.elim
   ·rename_i rE
    obtain ⟨rE,RC⟩:=not_or.1 rE
    split at h
    ·rename_i ps hps
     split at h
     ·rename_i hq
      split at h
      ·rename_i x' hx'
       obtain ⟨hj,h⟩:=bn h
       have h:=h.2 _ rfl
       simp only [decide_eq_true_eq] at hj
       refine ⟨_,⟨fun p eo=>by simp at eo;subst eo;rw [he];simp,?_⟩,rfl,h⟩
       intro ax W ρ Kn Γ w _ hk dY _ hst
       have cj:Γ n=some (.row u l rk):=by rw [dY n (by simp),he]
       obtain ⟨o1,o2,o3,sub,m1,m2,m3,m4⟩:=hst.at_ n _ cj
       rcases (m4 rE).old RC with ⟨_,h0,_⟩|⟨b,rest,e,hb,hbase,hh,hcap⟩
       ·subst h0;simp at hj
       obtain ⟨yy,hone,hpc⟩:=vO ys ps hps
       have hcx:u.aJ x'=setCells (u.aJ (gd u l j)) q ps:=by
        have:=lI u _ _ _ hx';rw [List.append_nil] at this;exact this.symm
       have hrl:=bj u l
       have hjl:j*u.size+u.size<=l.length*u.size:=by rw [<- Nat.succ_mul];exact Nat.mul_le_mul_right _ (by omega)
       have CY: ∀m,(ak u (l.set j x'))[m]? =if j*u.size+q<=m/\ m<j*u.size+q+ps.length then ps[m- (j*u.size+q)]? else (ak u l)[m]? :=fun m=>by
        rw [pE u x' l j hj,di _ _ _ _ (by rw [aM];omega),aM,hcx]
        by_cases h1:j*u.size<=m/\ m<j*u.size+u.size
        ·rw [if_pos h1,di _ _ _ _ (by rw [aM];omega)]
         by_cases h2:q<=m- j*u.size/\ m- j*u.size<q+ps.length
         ·rw [if_pos h2,if_pos (by omega),show m- j*u.size- q=m- (j*u.size+q) by omega]
         ·rw [if_neg h2,if_neg (by omega)]
          have:=l8 u l j _ (m- j*u.size) (MM hj) (by omega)
          rw [show j*u.size+(m- j*u.size)=m by omega] at this
          exact this.symm
        ·rw [if_neg h1,if_neg (by omega)]
       have DN:aD sub 0 (ak u (l.set j x'))=setCells (aD sub 0 (ak u l)) (j*u.size+q) (ys.map (Cell.af ρ)):=by
        apply List.ext_getElem?
        intro m
        rw [bw,CY,di _ _ _ _ (by rw [bE];simp;omega),bw,(hpc ρ).1]
        simp only [List.length_map,List.getElem?_map]
        by_cases h1:j*u.size+q<=m/\ m<j*u.size+q+ps.length
        ·rw [if_pos h1,if_pos h1]
         cases hm:ps[m- (j*u.size+q)]? with
         |none=>rfl
         |some c=>exact congrArg some (Mz ((hpc ρ).2 c (List.mem_of_getElem? hm)) _)
        ·rw [if_neg h1,if_neg h1]
       have hlt:j*u.size+q+ys.length<=(aD sub 0 (ak u l)).length:=by rw [bE,hrl];omega
       have hrun:(Instr.storeAt t ((AV.v (.one (.bD n j q))).af ρ) (y.af ρ)).run P w= .ok () (w.setRow b (aD sub 0 (ak u (l.set j x'))++rest).toArray):=by
        have hst:=run_storeCells_at P b (j*u.size+q) e (ys.map (Cell.af ρ)) 0 _ w hh (by simp;omega) (qz ys hone ρ)
        have ex:(AV.v (.one (.bD n j q))).af ρ= .pointer (some ⟨b,j*u.size+q,none⟩):=by
         simp only [AV.af,A0.af,Cell.af,hbase,o2,Option.map_some]
         unfold Addr.add;split<;>simp_all
        rw [ex,q6 hT ht (AV.iT hys ρ) (by simpa using hsz),hst,DN]
        congr 2
        simp only [Nat.add_zero,List.length_map]
        rw [jr _ _ _ (by simpa using hlt)]
        rw [List.take_append_of_le_length (by omega),List.drop_append_of_le_length (by omega)]
        simp
       refine ⟨ρ,_,hrun,fun _ _=>rfl,fun a ha=>absurd ha (by simp),?_⟩
       rw [gH,mG _ _ _ _ _ _ rfl]
       refine hst.write cj hb trivial (fun _ h=>by cases h) fun hfz=> ?_
       have CZ:=setRow_heap w b _ (aD sub 0 (ak u (l.set j x'))++rest).toArray _ _ hh
       refine ⟨by simpa using o1,o2,by simpa using o3,sub,fun m v hm=> ?_,fun m u' l' hm=> ?_,m3,fun _=>gV.new (.inr ⟨b,rest,e,hb,hbase,CZ,?_⟩)⟩
       ·refine ⟨_,hbase,?_,fun e=>absurd e rE⟩
        have e1:(⟨b,0,none⟩:Addr).add m=⟨b,m,none⟩:=by unfold Addr.add;split<;>simp_all
        rw [e1,bF CZ,List.getElem?_append_left (List.getElem?_eq_some_iff.1 hm).1];exact hm
       ·rw [CY] at hm
        split at hm
        ·obtain ⟨v,hv⟩:=(hpc ρ).2 _ (List.mem_of_getElem? hm);cases hv
        ·exact (m2 m u' l' hm).mono fun b' hb'=>⟨⟨(hfz b' hb'.1).1,fun e=>⟨(hb'.2 e).1,(hb'.2 e).2.same (hfz b' hb'.1).2⟩⟩,(hfz b' hb'.1).2⟩
       ·exact ⟨by rw [hcap.1];simp [bE,bj],hcap.2⟩
      ·exact h.elim
     ·exact h.elim
    ·exact Tq hT ht hys hsz he rE h
  ·exact h.elim
 ·exact h.elim
theorem vN: ∀(ms:List Int),fO (ms.map fun m=>Cell.raw (.int .i64 m))=some (ms.map fun m=> .flat (.int .i64 m))
 | []=>rfl
 |m::r=>by simp only [List.map_cons,fO,vN r,Option.map_some]
theorem aaE {i:TI} {n j q:Nat} {y:AV} (h:rW i (.v (.one (.fK n j q))) y hp k):rW i (.v (.one (.bD n j q))) y hp k:=by
 unfold rW at h ⊢
 cases hys:y.cells with
 |none=>rw [hys] at h;exact h.elim
 |some ys=>
 rw [hys] at h
 dsimp only at h ⊢
 split at h
 ·rename_i hsz
  rw [if_pos hsz]
  split at h
  ·rename_i u l rk he
   split at h
   ·exact h.elim
   ·rename_i rE
    rw [if_neg rE]
    split at h
    ·rename_i ms ns hms NY
     have ey:=fu (fun _=> {}) ys ms hms
     have hf:fO ys=some (ms.map fun m=> .flat (.int .i64 m)):=by rw [ey];exact vN ms
     rw [hf]
     dsimp only
     have e:setCells (u.aJ (gd u l j)) q (ms.map fun m=>ck.flat (.int .i64 m))=(tM q ms ns).map fun m=> .flat (.int .i64 m):=by
      rw [nu _ _ NY,zL,nK]
     split at h
     ·rename_i x' hx'
      obtain ⟨h1,h⟩:=bn h
      simp only [decide_eq_true_eq] at h1
      have hl:ys.length=ms.length:=by rw [ey];simp
      rw [if_pos (by simpa [<- hl] using h1),e,hx']
      exact h
     ·exact h.elim
    ·exact h.elim
  ·exact h.elim
 ·exact h.elim
theorem To (hT:aU P ctx.tt) {t:TypeId} {i:TI} (ht:aG ctx.tt t=some i) {x y:AV} (h:rW i x y hp k):
  ∃r,aK P ctx.X hp nm (fun Kn=>x.ok Kn/\ y.ok Kn) (fun ρ=>Instr.storeAt t (x.af ρ) (y.af ρ)) (fun _=>()) r/\ r.val=aX/\ k r:=by
 have core: ∀ {ρ:Env} {w:World} {n b off:Nat} {cs ys:List Cell} {e:TypeId} {v:Value},y.cells=some ys->ys.length=i.size->pV ys=true->(ρ n).bq=some b->w.heap[b]? =some (.cells (cs.map (Cell.af ρ)).toArray e (0,0))->off+ys.length<=cs.length->v= .pointer (some ⟨b,off,none⟩)->
   (Instr.storeAt t v (y.af ρ)).run P w= .ok () (w.setRow b ((setCells cs off ys).map (Cell.af ρ)).toArray):=by
  intro ρ w n b off cs ys e v hys hsz hone hb hh hl hv
  have hst:=run_storeCells_at P b off e (ys.map (Cell.af ρ)) 0 _ w hh (by simp;omega) (qz ys hone ρ)
  rw [hv,q6 hT ht (AV.iT hys ρ) (by simpa using hsz),hst]
  congr 2
  simp only [Nat.add_zero,List.length_map,NM (Cell.af ρ) ys cs off hl]
 unfold rW at h
 split at h
 ·rename_i n off ys hys
  split at h
  ·rename_i hsz
   split at h
   ·rename_i hone
    split at h
    ·rename_i cs e he
     split at h
     ·rename_i hl
      refine ⟨_,⟨fun p eo=>by simp at eo;subst eo;rw [he];simp,?_⟩,rfl,h⟩
      intro ax W ρ Kn Γ w _ hk dY _ hst
      have cj:Γ n=some (.cells cs e):=by rw [dY n (by simp),he]
      obtain ⟨b,hb,hh⟩:=hst.at_ n _ cj
      have hrun:=core hys hsz hone hb hh hl (n6 hb)
      refine ⟨ρ,_,hrun,fun _ _=>rfl,fun a ha=>absurd ha (by simp),?_⟩
      rw [gH,mG _ _ _ _ _ _ rfl]
      refine hst.write cj hb (fun c hc=> ?_) (fun _ h=>by cases h) fun _=>⟨b,hb,by rw [setRow_heap _ _ _ _ _ _ hh]⟩
      rcases uC hl hc with h1|h1
      ·exact (hst.kn n _ cj).2 c h1
      ·exact AV.Aj hys hk.2 c h1
     ·exact h.elim
    ·exact h.elim
   ·exact h.elim
  ·exact h.elim
 ·rename_i n off ys hys
  split at h
  ·rename_i hsz
   split at h
   ·rename_i cs e he
    split at h
    ·rename_i ns ms NY hms
     obtain ⟨hl,h⟩:=bn h
     simp only [decide_eq_true_eq] at hl
     have ec:=fu (fun _=> {}) cs ns NY
     have ey:=fu (fun _=> {}) ys ms hms
     have iV:(tM off ms ns).map (fun q=>Cell.raw (.int .i64 q))=setCells cs off ys:=by
      rw [zL,nK,<- ec,<- ey]
     rw [iV] at h
     have hone:pV ys=true:=by
      rw [ey];exact OL ms
     refine ⟨_,⟨fun p eo=>by simp at eo;subst eo;rw [he];simp,?_⟩,rfl,h⟩
     intro ax W ρ Kn Γ w _ hk dY _ hst
     have cj:Γ n=some (.cells cs e):=by rw [dY n (by simp),he]
     obtain ⟨b,hb,hh⟩:=hst.at_ n _ cj
     have hrun:=core hys hsz hone hb hh hl (pJ hb)
     refine ⟨ρ,_,hrun,fun _ _=>rfl,fun a ha=>absurd ha (by simp),?_⟩
     rw [gH,mG _ _ _ _ _ _ rfl]
     refine hst.write cj hb (fun c hc=> ?_) (fun _ h=>by cases h) fun _=>⟨b,hb,by rw [setRow_heap _ _ _ _ _ _ hh]⟩
     rcases uC hl hc with h1|h1
     ·exact (hst.kn n _ cj).2 c h1
     ·exact AV.Aj hys hk.2 c h1
    ·exact h.elim
   ·exact h.elim
  ·exact h.elim
 ·rename_i n j q ys hys
  exact I7 hT ht (by unfold rW;rw [hys];exact h)
 ·rename_i n j q ys hys
  exact I7 hT ht (aaE (by unfold rW;rw [hys];exact h))
 ·exact h.elim
theorem w4 (Kn:Nat->Prop):aX.ok Kn:=fun a ha=>absurd ha (by simp)
theorem zD (cs:List Cell) (e:TypeId) (v:AV) (D3:(Nat->Prop)->Prop) (f:Env->Sem Value) (hok: ∀Kn,D3 Kn-> ∀c∈cs,c.ok Kn)
  (hv: ∀Kn,v.ok (yz Kn nm)) (hf: ∀(ρ:Env) (w:World),(f ρ).run P w= .ok (v.af (aY ρ nm {bq:=some w.heap.size})) (w.alloc (.cells (cs.map (Cell.af ρ)).toArray e (0,0)))):
  aK P ctx.X hp nm D3 f (fun ρ=>v.af ρ) {val:=v,fresh:= [.cells cs e]} :=by
 refine ⟨fun p hp=>absurd hp (by simp),?_⟩
 intro ax W ρ Kn Γ w _ hk _ hfr hst
 have hn: ¬Kn nm:=by simpa using hfr 0 (by simp)
 refine ⟨aY ρ nm {bq:=some w.heap.size},_,hf ρ w,cG hn,?_,?_⟩
 ·rw [tD];exact hv Kn
 ·rw [tD,XP];exact hst.alloc hn (hok Kn hk)
theorem Bb (ρ:Env) (w:World) (off:Nat):(AV.v (.one (.ptr nm off))).af (aY ρ nm {bq:=some w.heap.size})= .pointer (some ⟨w.heap.size,off,none⟩):=by
 simp [AV.af,A0.af,Cell.af,addrOf,aY]
theorem Vd (hT:aU P ctx.tt) {t:TypeId} {i:TI} (ht:aG ctx.tt t=some i):
  aK P ctx.X hp nm (fun _=>True) (fun _=>Instr.alloc t true (.tuple #[])) (fun ρ=>(AV.v (.one (.ptr nm 0))).af ρ) {val:= .v (.one (.ptr nm 0)),fresh:= [.cells (jt i.zero) t]} :=by
 refine zD _ _ _ _ _ (fun _ _=>NI _ _) (fun _=> .inr rfl) fun ρ w=> ?_
 rw [Bb]
 simp [Instr.alloc,hT.z ht,newVar,newRow,jt,-List.map_map,Fz]
theorem aa6 {t:TypeId} {x:AV} {xs:List Cell} (hx:x.cells=some xs):
  aK P ctx.X hp nm (fun Kn=>x.ok Kn) (fun ρ=>Instr.box t (x.af ρ)) (fun ρ=>(AV.v (.one (.ptr nm 0))).af ρ) {val:= .v (.one (.ptr nm 0)),fresh:= [.cells xs t]} :=by
 refine zD _ _ _ _ _ (fun Kn hk=>AV.Aj hx hk) (fun _=> .inr rfl) fun ρ w=> ?_
 rw [Bb]
 simp [Instr.box,newVar,newRow,AV.iT hx]
end
end Go.Ev
