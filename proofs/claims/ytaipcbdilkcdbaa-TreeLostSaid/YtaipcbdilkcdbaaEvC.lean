/- Each operation, but for calls, does what 'opE' says. -/
import Derived.Test.YtaipcbdilkcdbaaEvB
noncomputable section
set_option linter.unusedSectionVars false
set_option linter.unusedVariables false
set_option linter.unusedSimpArgs false
namespace Go.Ev
open Go.RowKit
def br (P:Program) (tt:List (Nat×TI)):Prop:= ∀t i,aF tt t=some i->P.underlying t=some i.desc/\
 0<i.size/\ ∃inf,P.info? t=some inf/\ inf.size=i.size/\ inf.bytes=i.bytes/\ inf.zero=some i.zero/\ (aE i.desc=true->P.stoodInHeld t=false/\ P.eqGuardType P.depth t=false)
section
variable {P:Program} {tt:List (Nat×TI)} {t:TypeId} {i:TI}
theorem br.u (h:br P tt) (ht:aF tt t=some i) (w:World):(underlying t).run P w= .ok i.desc w:=run_underlying (h t i ht).1 w
theorem br.ti (h:br P tt) (ht:aF tt t=some i) (w:World): ∃inf,(typeInfo t).run P w= .ok inf w/\ inf.size=i.size/\ inf.bytes=i.bytes/\ inf.zero=some i.zero:=by
 obtain ⟨_,_,inf,h1,h2,h3,h4,_⟩:=h t i ht
 exact ⟨inf,by simp [typeInfo,h1],h2,h3,h4⟩
theorem br.sz (h:br P tt) (ht:aF tt t=some i) (w:World):(sizeOf t).run P w= .ok i.size w:=by
 obtain ⟨inf,h1,h2,_⟩:=h.ti ht w
 simp [sizeOf,h1,h2]
theorem br.z (h:br P tt) (ht:aF tt t=some i) (w:World):(zeroValue t).run P w= .ok i.zero w:=by
 obtain ⟨inf,h1,_,_,h4⟩:=h.ti ht w
 simp [zeroValue,h1,h4]
theorem br.ag (h:br P tt) (ht:aF tt t=some i) (w:World):(isAgg t).run P w= .ok (aE i.desc) w:=by
 simp only [isAgg,Sem.run_bind,h.u ht w,Result.andThen_ok,aE]
 cases i.desc<;>rfl
end
theorem dQ (f:Cell->Value) (cs:List Cell) (off m:Nat):((cs.drop off).take m).map f=((cs.map f).drop off).take m:=by simp [List.map_drop,List.map_take]
section
variable {P:Program} {ctx:Ctx} {hp:HP} {nm:Nat} {k:Rec->Prop}
theorem bL {w:World} {b:Nat} {cs:List Value} {e:TypeId} (h:w.heap[b]? =some (.cells cs.toArray e (0,0))) (o:Nat):w.cell? ⟨b,o,none⟩=cs[o]? :=by
 simp [World.cell?,h]
theorem jY (hT:br P ctx.tt) {t:TypeId} {i:TI} (ht:aF ctx.tt t=some i) {w:World} {b off:Nat} {cs rest:List Value} {e:TypeId}
  (hh:w.heap[b]? =some (.cells (cs++rest).toArray e (0,0))):
  (aE i.desc=true->off+i.size<=cs.length->(loadVar t ⟨b,off,none⟩).run P w= .ok (.agg ((cs.drop off).take i.size).toArray) w)/\
  (aE i.desc=false-> ∀v,cs[off]? =some v->(loadVar t ⟨b,off,none⟩).run P w= .ok v w):=by
 constructor
 ·intro ha hl
  have hlen:((cs.drop off).take i.size).length=i.size:=by simp;omega
  have hc: ∀j v,((cs.drop off).take i.size)[j]? =some v->w.cell? ((⟨b,off,none⟩:Addr).add j)=some v:=by
   intro j v hj
   have e1:(⟨b,off,none⟩:Addr).add j=⟨b,off+j,none⟩:=by unfold Addr.add;split<;>simp_all
   rw [e1,bL hh]
   rw [List.getElem?_take] at hj
   split at hj
   ·rename_i OC
    rw [List.getElem?_drop] at hj
    rw [List.getElem?_append_left (by omega)];exact hj
   ·cases hj
  have hl:=run_loadCells_list (P:=P) w ⟨b,off,none⟩ _ hc
  rw [hlen] at hl
  simp [loadVar,hT.ag ht,ha,hT.sz ht,hl]
 ·intro ha v hv
  have hlt:off<cs.length:=by
   rcases Nat.lt_or_ge off cs.length with h|h
   ·exact h
   ·rw [List.getElem?_eq_none h] at hv;cases hv
  have hc:w.cell? ⟨b,off,none⟩=some v:=by rw [bL hh,List.getElem?_append_left hlt,hv]
  simp [loadVar,hT.ag ht,ha,hc]
theorem Mw (hT:br P ctx.tt) {t:TypeId} {i:TI} (ht:aF ctx.tt t=some i) {cs:List Cell} {n off:Nat} {e:TypeId} (he:hp n=some (.cells cs e)) (h:GL i cs n off k):
  ∃r,aL P ctx.X hp nm (fun _=>True) (fun ρ=>Instr.loadAt t (.pointer (addrOf ρ n off))) (fun ρ=>r.val.af ρ) r/\ k r:=by
 unfold GL at h
 split at h
 ·rename_i ha
  split at h
  ·rename_i hl
   refine ⟨_,aL.pure ?_,h⟩
   intro ax W ρ Kn Γ w _ _ dU hst
   have bV:Γ n=some (.cells cs e):=by rw [dU n (by simp),he]
   obtain ⟨b,hb,hh⟩:=hst.at_ n _ bV
   refine ⟨?_,?_⟩
   ·have:=(jY hT ht (off:=off) (rest:= []) (by simpa using hh)).1 ha (by simpa using hl)
    simp only [Instr.loadAt,Instr.sureAddr,addrOf,hb,Option.map_some,Sem.run_bind,Sem.run_pure,Result.andThen_ok,this,AV.af,A0.af,dQ]
   ·intro c hc
    exact (hst.kn n _ bV).2 c (List.mem_of_mem_drop (List.mem_of_mem_take hc))
  ·exact h.elim
 ·rename_i ha
  split at h
  ·rename_i c hc
   refine ⟨_,aL.pure ?_,h⟩
   intro ax W ρ Kn Γ w _ _ dU hst
   have bV:Γ n=some (.cells cs e):=by rw [dU n (by simp),he]
   obtain ⟨b,hb,hh⟩:=hst.at_ n _ bV
   refine ⟨?_,?_⟩
   ·have:=(jY hT ht (off:=off) (rest:= []) (by simpa using hh)).2 (by simpa using ha) (c.af ρ) (by simp [hc])
    simp only [Instr.loadAt,Instr.sureAddr,addrOf,hb,Option.map_some,Sem.run_bind,Sem.run_pure,Result.andThen_ok,this,AV.af,A0.af]
   ·exact (hst.kn n _ bV).2 c (List.mem_of_getElem? hc)
  ·exact h.elim
theorem dm (a:Addr) (m n:Nat):(a.add m).add n=a.add (m+n):=by
 unfold Addr.add;split<;>split<;>simp_all<;>omega
theorem bh {b:Bool} {p:Prop} (h:ob b p):b=true/\ p:=by cases b<;>first|exact h.elim|exact ⟨rfl,h⟩
theorem fa (ρ:Env): ∀(cs:List Cell) (ns:List Int),gZ cs=some ns->cs=ns.map fun n=>Cell.raw (.int .i64 n)
 | [],ns,h=>by simp only [gZ,Option.some.injEq] at h;subst h;rfl
 |c::r,ns,h=>by
  unfold gZ at h
  split at h
  ·simp_all
  ·rename_i n r' heq
   cases heq
   split at h
   ·rename_i l hl;cases h;rw [fa ρ r l hl];rfl
   ·cases h
  ·cases h
theorem sv: ∀(m off:Nat) (ns:List Int),off+m<=ns.length->oA ns off m=((ns.map fun n=>Cell.raw (.int .i64 n)).drop off).take m
 |0,off,ns,_=>by simp [oA]
 |m+1,off,ns,h=>by
  rw [oA,sv m (off+1) ns (by omega),List.drop_eq_getElem_cons (i:=off) (by simp;omega),List.take_succ_cons,List.getElem_map,List.getD,List.getElem?_eq_getElem (by omega)]
  rfl
theorem DN (off:Nat) (y:Int): ∀(ns:List Int) (q:Nat),q<=off->uH off y q ns=ns.set (off- q) y
 | [],q,_=>by simp [uH]
 |n::r,q,h=>by
  rw [uH]
  by_cases e:off=q
  ·subst e
   have: ∀(l:List Int) (p:Nat),off<p->uH off y p l=l:=by
    intro l
    induction l with
    |nil=>intro p _;rfl
    |cons a l ih=>
     intro p hp
     rw [uH,ih _ (by omega)]
     have:Nat.beq off p=false:=by
      cases hb:Nat.beq off p with
      |false=>rfl
      |true=>exact absurd (Nat.eq_of_beq_eq_true hb) (by omega)
     rw [this];rfl
   have hb:Nat.beq off off=true:=Nat.beq_refl off
   rw [this r (off+1) (by omega),hb];simp
  ·rw [DN off y r (q+1) (by omega)]
   have hb:Nat.beq off q=false:=by
    cases hb:Nat.beq off q with
    |false=>rfl
    |true=>exact absurd (Nat.eq_of_beq_eq_true hb) e
   rw [hb,show off- q=(off- (q+1))+1 by omega];simp
theorem uG: ∀(ys ns:List Int) (off:Nat),qi off ys ns=setCells ns off ys
 | [],_,_=>rfl
 |y::r,ns,off=>by rw [qi,uG r,DN off y ns 0 (Nat.zero_le _)];rfl
theorem bD (sub:Nat->Option Addr×Nat): ∀(cs:List cn) (q i:Nat),(aA sub q cs)[i]? =(cs[i]?).map (eN (sub (q+i)))
 | [],q,i=>by simp [aA]
 |c::r,q,0=>by simp [aA]
 |c::r,q,i+1=>by
  simp only [aA,List.getElem?_cons_succ]
  rw [bD sub r,show q+1+i=q+(i+1) by omega]
theorem jX (t:Ty): ∀(l:List t.T) (j:Nat) (x:t.T) (q:Nat),l[j]? =some x->q<t.size->(ak t l)[j*t.size+q]? =(t.aI x)[q]?
 | [],j,x,q,h,_=>by simp at h
 |y::r,0,x,q,h,hq=>by
  simp only [List.getElem?_cons_zero,Option.some.injEq] at h;subst h
  simp only [ak,List.flatMap_cons,Nat.zero_mul,Nat.zero_add]
  rw [List.getElem?_append_left (by rw [aO];exact hq)]
 |y::r,j+1,x,q,h,hq=>by
  simp only [ak,List.flatMap_cons]
  rw [List.getElem?_append_right (by rw [aO,Nat.add_mul];omega),aO,show (j+1)*t.size+q- t.size=j*t.size+q by rw [Nat.add_mul];omega]
  exact jX t r j x q (by simpa using h) hq
theorem EU {t:Ty} {l:List t.T} {j:Nat} (h:j<l.length):l[j]? =some (gd t l j):=by
 simp [gd,List.getD,h]
theorem Iw {u' u:Ty} {l:List u'.T} {l':List u.T} (h:iM u' u l=some l'):cn.sl u' l=cn.sl u l':=by
 unfold iM at h
 split at h
 ·rename_i e;subst e;cases h;rfl
 ·cases h
theorem jQ: ∀(t:Ty) (cs:List cn) (x:t.T) (r:List cn),iJ t cs=some (x,r)->cs=t.aI x++r
 | .int k,cs,x,r,h=>by
  simp only [iJ] at h
  split at h
  ·split at h
   ·rename_i e;subst e;cases h;rfl
   ·cases h
  ·cases h
 | .bool,cs,x,r,h=>by
  simp only [iJ] at h
  split at h
  ·cases h;rfl
  ·cases h
 | .str,cs,x,r,h=>by
  simp only [iJ] at h
  split at h
  ·cases h;rfl
  ·cases h
 | .prod a b,cs,x,r,h=>by
  simp only [iJ] at h
  split at h
  ·rename_i x1 r1 h1
   split at h
   ·rename_i y r2 h2
    cases h
    rw [jQ a _ _ _ h1,jQ b _ _ _ h2]
    simp [Ty.aI]
   ·cases h
  ·cases h
 | .sl u,cs,x,r,h=>by
  simp only [iJ] at h
  split at h
  ·split at h
   ·rename_i l' hl
    cases h
    rw [Iw hl];rfl
   ·cases h
  ·cases h
theorem O6 (Kn:Nat->Prop) (nm:Nat) (o:aG) (os:List aG) (v v':AV) (ws VB:List (Nat×aG)) (tc uS:List Nat):
  iQ (sM Kn nm) (nm+1) {val:=v,fresh:=os,writes:=ws,az:=tc} =iQ Kn nm {val:=v',fresh:=o::os,writes:=VB,az:=uS} :=by
 funext m;simp only [iQ,sM,List.length_cons];apply propext
 constructor
 ·rintro ((h|h)|h)
  ·exact .inl h
  ·exact .inr (by omega)
  ·exact .inr (by omega)
 ·rintro (h|h)
  ·exact .inl (.inl h)
  ·by_cases e:m=nm
   ·exact .inl (.inr e)
   ·exact .inr (by omega)
theorem LA (Γ:HP) (nm:Nat) (o:aG) (os:List aG) (v v':AV) (tc uS:List Nat) (ho:live (some o)=some o):
  bB {val:=v,fresh:=os,az:=tc} (nm+1) (bN Γ nm o)=bB {val:=v',fresh:=o::os,az:=uS} nm Γ:=by
 funext m
 simp only [bB,bW,List.length_cons,bN]
 by_cases h:m=nm
 ·subst h
  have h1: ¬(m+1<=m/\ m<m+1+os.length):=by omega
  have h2:m<=m/\ m<m+(os.length+1):=by omega
  rw [if_neg h1,if_pos rfl,if_pos h2];simp [ho]
 ·by_cases h2:nm+1≤m∧m<nm+1+os.length
  ·have h3:nm≤m∧m<nm+(os.length+1):=by omega
   rw [if_pos h2,if_pos h3,show m- nm=(m- (nm+1))+1 by omega];simp
  ·have h3: ¬(nm≤m∧m<nm+(os.length+1)):=by omega
   rw [if_neg h2,if_neg h,if_neg h3]
theorem O7 (Kn:Nat->Prop) (nm:Nat) (v:AV) (tc:List Nat):iQ Kn nm {val:=v,fresh:= [],az:=tc} =Kn:=fO Kn nm v [] tc
theorem St.views {ax:iV} {W w:World} {sub:Nat->Option Addr×Nat} {XR:Nat->Prop} (v:AV) (tc:List Nat): ∀(cs:List cn) (q nm:Nat) (ρ:Env) (Kn:Nat->Prop) (Γ:HP),St ax W ρ Kn Γ w->(∀i,i<(eV nm cs).2.length-> ¬Kn (nm+i))->
  (∀b,XR b->eo ρ Γ w b)->(∀i u l,cs[i]? =some (.sl u l)->eX w XR (sub (q+i)) u l)->
  ∃ρ',(∀m,Kn m->ρ' m=ρ m)/\ (eV nm cs).1.map (Cell.af ρ')=aA sub q cs/\ (∀c∈(eV nm cs).1,c.ok (iQ Kn nm {val:=v,fresh:=(eV nm cs).2,az:=tc}))/\
   St ax W ρ' (iQ Kn nm {val:=v,fresh:=(eV nm cs).2,az:=tc}) (bB {val:=v,fresh:=(eV nm cs).2,az:=tc} nm Γ) w
 | [],q,nm,ρ,Kn,Γ,h,_,_,_=>⟨ρ,fun _ _=>rfl,rfl,fun c hc=>absurd hc (by simp [eV]),by simp only [eV];rw [O7,oV];exact h⟩
 | .flat v0::r,q,nm,ρ,Kn,Γ,h,hf,hok,hn=>by
  obtain ⟨ρ',h1,h2,h3,h4⟩:=St.views v tc r (q+1) nm ρ Kn Γ h hf hok fun i u l hi=>by
   have:=hn (i+1) u l (by simpa using hi)
   rwa [show q+(i+1)=q+1+i by omega] at this
  refine ⟨ρ',h1,?_,?_,h4⟩
  ·simp only [eV,List.map_cons,h2,aA];rfl
  ·intro c hc
   simp only [eV,List.mem_cons] at hc
   rcases hc with rfl|hc
   ·trivial
   ·exact h3 c hc
 | .sl u l::r,q,nm,ρ,Kn,Γ,h,hf,hok,hn=>by
  have hnm: ¬Kn nm:=by simpa using hf 0 (by simp [eV])
  have h0:eX w XR (sub q) u l:=by simpa using hn 0 u l rfl
  let x:Loc:= {bt:=none,base:=(sub q).1,len:=l.length,cap:=(sub q).2,es:=u.size}
  have hfz: ∀b,eo ρ Γ w b->eo (aV ρ nm x) (bN Γ nm (.row u l 0)) w b:=fun b hb=>⟨hb.1,by
   rintro (⟨m,h1,h2⟩|⟨m,S,h1,h2⟩)
   ·unfold aV at h2
    unfold bN at h1
    split at h2
    ·exact absurd (gU.1 h2) (fun h=>by cases h)
    ·rename_i e;rw [if_neg e] at h1;exact hb.2 (.inl ⟨m,h1,h2⟩)
   ·unfold bN at h1
    split at h1
    ·cases h1
    ·exact hb.2 (.inr ⟨m,S,h1,h2⟩)⟩
  have h1:St ax W (aV ρ nm x) (sM Kn nm) (bN Γ nm (.row u l 0)) w:=by
   refine h.swap (G:= []) (o:= .row u l 0) (x:=x) hnm h.fr (fun _ _ _=>rfl) (fun b hb=>by cases hb) (fun m p hp=> ?_) trivial (fun _ h=>by cases h) fun _ _=> ?_
   ·unfold bN at hp
    split at hp
    ·rename_i e1;cases hp;exact .inl ⟨e1,rfl⟩
    ·rename_i e1;exact .inr ⟨e1,by simp,hp⟩
   ·have e:aV ρ nm x nm=x:=by simp [aV]
    rw [aX,e]
    refine ⟨rfl,rfl,h0.2.1,fun _=>(none,0),?_⟩
    have hfl: ∀(l:List u.T) (c:cn),c∈ak u l-> ∃v,c= .flat v:=fun l c hc=>by
     obtain ⟨y,_,hy⟩:=List.mem_flatMap.1 hc
     exact cZ u h0.1 y c hy
    have hv: ∀(cs:List cn),(∀c∈cs,∃v,c= .flat v)-> ∀q,aA (fun _=>(none,0)) q cs=cs.map aM:=by
     intro cs
     induction cs with
     |nil=>intro _ q;rfl
     |cons c r ih=>
      intro hc q
      obtain ⟨v,rfl⟩:=hc c (by simp)
      simp only [aA,List.map_cons]
      rw [ih (fun c hm=>hc c (by simp [hm]))];rfl
    refine ⟨fun i v QO=> ?_,fun i u' l' hi=> ?_,fun _=>rfl,fun h=>absurd rfl h⟩
    ·rw [hv _ (hfl l)] at QO
     obtain ⟨a,e1,e2,e3⟩:=h0.2.2 i v QO
     exact ⟨a,e1,e2,fun _=>hfz _ (hok _ e3)⟩
    ·obtain ⟨v,QO⟩:=hfl l _ (List.mem_of_getElem? hi)
     cases QO
  obtain ⟨ρ',e1,e2,e3,e4⟩:=St.views v tc r (q+1) (nm+1) _ _ _ h1 (fun i hi=>by
   have:=hf (i+1) (by simpa [eV] using hi)
   rintro (h2|h2)
   ·exact this (by rwa [show nm+(i+1)=nm+1+i by omega])
   ·omega) (fun b hb=>hfz b (hok b hb)) fun i u l hi=>by
   have:=hn (i+1) u l (by simpa using hi)
   rwa [show q+(i+1)=q+1+i by omega] at this
  have ex:ρ' nm=x:=by rw [e1 nm (.inr rfl)];simp [aV]
  rw [O6 (o:= .row u l 0) (v':=v) (VB:= []) (uS:=tc)] at e3 e4
  rw [LA (o:= .row u l 0) (v':=v) (uS:=tc) (ho:=rfl)] at e4
  refine ⟨ρ',fun m hm=>by rw [e1 m (.inl hm)];exact cD hnm m hm,?_,?_,e4⟩
  ·simp only [eV,List.map_cons,e2,aA,Cell.af,ex];rfl
  ·intro c hc
   simp only [eV,List.mem_cons] at hc
   rcases hc with rfl|hc
   ·exact .inr ⟨Nat.le_refl _,by simp [eV]⟩
   ·exact e3 c hc
where
 cZ: ∀(t:Ty),t.flat=true-> ∀(x:t.T) (c:cn),c∈t.aI x-> ∃v,c= .flat v
  | .int _,_,x,c,hc=>by simp [Ty.aI] at hc;exact ⟨_,hc⟩
  | .bool,_,x,c,hc=>by simp [Ty.aI] at hc;exact ⟨_,hc⟩
  | .str,_,x,c,hc=>by simp [Ty.aI] at hc;exact ⟨_,hc⟩
  | .prod a b,h,x,c,hc=>by
   simp only [Ty.flat,Bool.and_eq_true] at h
   simp only [Ty.aI,List.mem_append] at hc
   rcases hc with hc|hc
   ·exact cZ a h.1 _ c hc
   ·exact cZ b h.2 _ c hc
  | .sl _,h,_,_,_=>by cases h
theorem rB {t:Ty} {l:List t.T} {j q:Nat} {c:cn} (h:j<l.length) (hq:(t.aI (gd t l j))[q]? =some c):(ak t l)[j*t.size+q]? =some c:=by
 rw [jX t l j _ q (EU h) (by have:=(List.getElem?_eq_some_iff.1 hq).1;rwa [aO] at this)];exact hq
theorem lq: ∀(cs:List cn) (ns:List Int),pq cs=some ns->cs=ns.map fun m=> .flat (.int .i64 m)
 | [],ns,h=>by simp only [pq,Option.some.injEq] at h;subst h;rfl
 |c::r,ns,h=>by
  unfold pq at h
  split at h
  ·simp_all
  ·rename_i n r' heq
   cases heq
   split at h
   ·rename_i l hl;cases h
    rw [lq r l hl];rfl
   ·cases h
  ·cases h
theorem Ct (nm:Nat): ∀(ns:List Int),eV nm (ns.map fun m=> .flat (.int .i64 m))=(ns.map fun m=> .raw (.int .i64 m),[])
 | []=>rfl
 |n::r=>by simp only [List.map_cons,eV,Ct nm r]
theorem uV (nm:Nat): ∀(cs:List cn),(∀c∈cs,∃v,c= .flat v)->eV nm cs=(cs.map fun c=>Cell.raw (aM c),[])
 | [],_=>rfl
 |c::r,h=>by
  obtain ⟨v,rfl⟩:=h c (by simp)
  simp only [eV,uV nm r fun c hc=>h c (by simp [hc]),List.map_cons];rfl
theorem Dt (hT:br P ctx.tt) {t:TypeId} {i:TI} (ht:aF ctx.tt t=some i) {n j q:Nat} (h:tI i (.v (.one (.cx n j q))) hp nm k):
  ∃r,aL P ctx.X hp nm (fun Kn=>(AV.v (.one (.cx n j q))).ok Kn) (fun ρ=>Instr.loadAt t ((AV.v (.one (.cx n j q))).af ρ)) (fun ρ=>r.val.af ρ) r/\ k r:=by
 unfold tI at h
 dsimp only at h
 split at h
 ·rename_i u l rk he
  split at h
  ·rename_i hsz
   obtain ⟨hj,h⟩:=bh h
   simp only [decide_eq_true_eq] at hj
   generalize WI:eV nm (bP u l j q i.size)=z at h
   obtain ⟨cs,os⟩:=z
   dsimp only at h
   split at h
   ·rename_i v hv
    refine ⟨_,⟨fun p hp=>absurd hp (by simp),?_⟩,h⟩
    intro ax W ρ Kn Γ w _ _ dU hfr hst
    have bV:Γ n=some (.row u l rk):=by rw [dU n (by simp),he]
    obtain ⟨o1,o2,o3,sub,m1,m2,m3,m4⟩:=hst.at_ n _ bV
    have Gn:(bP u l j q i.size).length=i.size:=by simp [bP,aO];omega
    have ZW: ∀m c,(bP u l j q i.size)[m]? =some c->(ak u l)[j*u.size+q+m]? =some c:=fun m c hm=>by
     unfold bP at hm
     rw [List.getElem?_take] at hm
     split at hm
     ·rw [List.getElem?_drop] at hm
      rw [show j*u.size+q+m=j*u.size+(q+m) by omega]
      exact rB hj hm
     ·cases hm
    have hos:(eV nm (bP u l j q i.size)).2=os:=by rw [WI]
    have hcs:(eV nm (bP u l j q i.size)).1=cs:=by rw [WI]
    obtain ⟨ρ',e1,e2,e3,e4⟩:=St.views v [n] (bP u l j q i.size) (j*u.size+q) nm ρ Kn Γ hst (by rw [hos];exact hfr) (XR:=fun b=>eo ρ Γ w b) (fun _ h=>h) fun m u' l' hm=>(m2 _ u' l' (ZW m _ hm)).mono fun b hb=>⟨hb.1,rfl⟩
    rw [hos] at e3 e4
    rw [hcs] at e2 e3
    have yy: ∀m v,(aA sub (j*u.size+q) (bP u l j q i.size))[m]? =some v-> ∃a,(ρ n).base=some a/\ w.cell? (a.add (j*u.size+q+m))=some v:=fun m v hm=>by
     rw [bD] at hm
     obtain ⟨c,hc,rfl⟩:=Option.map_eq_some_iff.1 hm
     have:=m1 (j*u.size+q+m) (eN (sub (j*u.size+q+m)) c) (by rw [bD,ZW m c hc];simp)
     obtain ⟨a,a1,a2,_⟩:=this
     exact ⟨a,a1,a2⟩
    have hpos:=(hT t i ht).2.1
    obtain ⟨a,ha,_⟩: ∃a,(ρ n).base=some a/\ True:=by
     have: ∃v,(aA sub (j*u.size+q) (bP u l j q i.size))[0]? =some v:=⟨_,List.getElem?_eq_getElem (by rw [bJ,Gn];exact hpos)⟩
     obtain ⟨v,hv⟩:=this
     obtain ⟨a,h1,_⟩:=yy 0 v hv
     exact ⟨a,h1,trivial⟩
    have hcell: ∀m v,(aA sub (j*u.size+q) (bP u l j q i.size))[m]? =some v->w.cell? ((a.add (j*u.size+q)).add m)=some v:=fun m v hm=>by
     obtain ⟨a',h1,h2⟩:=yy m v hm
     rw [ha] at h1;cases h1
     rw [dm];exact h2
    have hlen:(aA sub (j*u.size+q) (bP u l j q i.size)).length=i.size:=by rw [bJ,Gn]
    have S3:(loadVar t (a.add (j*u.size+q))).run P w= .ok (v.af ρ') w/\ v.ok (iQ Kn nm {val:=v,fresh:=os,az:= [n]}):=by
     unfold nY at hv
     split at hv
     ·rename_i mo
      cases hv
      have yw:=run_loadCells_list (P:=P) w (a.add (j*u.size+q)) _ hcell
      rw [hlen] at yw
      exact ⟨by simp [loadVar,hT.ag ht,mo,hT.sz ht,yw,AV.af,A0.af,e2],e3⟩
     ·rename_i mo
      split at hv
      ·rename_i c
       cases hv
       simp only [List.map_cons,List.map_nil] at e2
       have:=hcell 0 (c.af ρ') (by rw [<- e2];rfl)
       rw [dm,Nat.add_zero] at this
       exact ⟨by simp [loadVar,hT.ag ht,mo,this,AV.af,A0.af],e3 c (by simp)⟩
      ·cases hv
    refine ⟨ρ',w,Eq.trans ?_ S3.1,e1,S3.2,e4⟩
    have ex:(AV.v (.one (.cx n j q))).af ρ= .pointer (some (a.add (j*u.size+q))):=by simp [AV.af,A0.af,Cell.af,ha,o2]
    show (Instr.loadAt t ((AV.v (.one (.cx n j q))).af ρ)).run P w=_
    rw [ex]
    simp only [Instr.loadAt,Instr.sureAddr,Sem.run_bind,Sem.run_pure,Result.andThen_ok]
   ·exact h.elim
  ·exact h.elim
 ·rename_i gn c kk u gx l he
  split at h<;>try (exact h.elim)
  rename_i gm hc
  split at h<;>try (exact h.elim)
  rename_i hsz
  obtain ⟨hj,h⟩:=bh h
  simp only [decide_eq_true_eq] at hj
  split at h<;>try (exact h.elim)
  rename_i v hv
  refine ⟨_,aL.pure fun ax W ρ Kn Γ w _ _ dU hst=> ?_,h⟩
  have bV:Γ n=some (.gv gn c kk u gx l):=by rw [dU n (by simp),he]
  obtain ⟨_,o1,o2,_,Cy,o4⟩:=hst.at_ n _ bV
  have hfl: ∀x∈bP u l j q i.size,∃v,x= .flat v:=fun x hx=>St.views.cZ u Cy _ x (List.mem_of_mem_drop (List.mem_of_mem_take hx))
  rw [uV _ _ hfl] at hv
  rcases o4 with ⟨e0,_⟩|⟨e,b,h1,h2,_,h4,h5,_,_,h8,_⟩
  ·rw [e0] at hj;exact absurd hj (Nat.not_lt_zero _)
  have fF:=hst.at_ c _ (by rw [dU c (by simp),hc])
  rcases fF.2.1 e h1 with ⟨h9,_⟩|⟨b',rest,Im,h9,_,TL,_⟩
  ·rw [h9] at h2;cases h2
  rw [h2] at h9;cases h9
  rw [h8] at TL
  have ha:(ρ n).base=some ⟨b,0,none⟩:=by rw [<- h4,h5]
  have hcell: ∀m v,((bP u l j q i.size).map aM)[m]? =some v->w.cell? ((⟨b,0,none⟩:Addr).add (j*u.size+q)|>.add m)=some v:=fun m v hm=>by
   rw [dm]
   have e1:(⟨b,0,none⟩:Addr).add (j*u.size+q+m)=⟨b,j*u.size+q+m,none⟩:=by unfold Addr.add;split<;>simp_all
   rw [e1,bL TL]
   rw [List.getElem?_map] at hm
   obtain ⟨x,hx,rfl⟩:=Option.map_eq_some_iff.1 hm
   unfold bP at hx
   rw [List.getElem?_take] at hx
   split at hx
   ·rw [List.getElem?_drop] at hx
    have:=rB hj hx
    have QH:(aJ u l)[j*u.size+q+m]? =some (aM x):=by
     unfold aJ
     rw [List.getElem?_map,show j*u.size+q+m=j*u.size+(q+m) by omega,this];rfl
    rw [List.getElem?_append_left (List.getElem?_eq_some_iff.1 QH).1];exact QH
   ·cases hx
  have hlen:((bP u l j q i.size).map aM).length=i.size:=by simp [bP,aO];omega
  have ex:(AV.v (.one (.cx n j q))).af ρ= .pointer (some ((⟨b,0,none⟩:Addr).add (j*u.size+q))):=by simp [AV.af,A0.af,Cell.af,ha,o2]
  have Mg:((bP u l j q i.size).map fun c=>Cell.raw (aM c)).map (Cell.af ρ)=(bP u l j q i.size).map aM:=by
   rw [List.map_map];rfl
  refine ⟨?_,?_⟩
  ·show (Instr.loadAt t ((AV.v (.one (.cx n j q))).af ρ)).run P w=_
   rw [ex]
   simp only [Instr.loadAt,Instr.sureAddr,Sem.run_bind,Sem.run_pure,Result.andThen_ok]
   unfold nY at hv
   split at hv
   ·rename_i mo
    cases hv
    have yw:=run_loadCells_list (P:=P) w ((⟨b,0,none⟩:Addr).add (j*u.size+q)) _ hcell
    rw [hlen] at yw
    simp [loadVar,hT.ag ht,mo,hT.sz ht,yw,AV.af,A0.af,Mg]
   ·rename_i mo
    split at hv
    ·rename_i c0 hc0
     cases hv
     have IQ:=Mg
     dsimp only at hc0
     rw [hc0] at IQ
     simp only [List.map_cons,List.map_nil] at IQ
     have:=hcell 0 (c0.af ρ) (by rw [<- IQ];rfl)
     rw [dm,Nat.add_zero] at this
     simp [loadVar,hT.ag ht,mo,this,AV.af,A0.af]
    ·cases hv
  ·unfold nY at hv
   have hok: ∀c∈(bP u l j q i.size).map fun c=>Cell.raw (aM c),c.ok Kn:=fun c hc=>by
    obtain ⟨_,_,rfl⟩:=List.mem_map.1 hc;trivial
   split at hv
   ·cases hv;exact hok
   ·split at hv
    ·rename_i c0 hc0
     cases hv
     dsimp only at hc0
     exact hok c0 (by rw [hc0];simp)
    ·cases hv
 ·rename_i cs he
  split at h<;>try (exact h.elim)
  rename_i hj;subst hj
  have IN: ∀ {ax:iV} {W:World} {ρ:Env} {Kn:Nat->Prop} {Γ:HP} {w:World},(∀m∈ [n],Γ m=hp m)->St ax W ρ Kn Γ w-> ∀m c,cs[q+m]? =some c-> ∃a,(ρ n).base=some a/\ w.cell? ((a.add q).add m)=some (c.af ρ):=fun dU hst m c hm=>by
   have g:=hst.at_ n (.rc cs) (by rw [dU n (by simp),he])
   obtain ⟨a,h1,h2,_⟩:=g.2 _ _ hm
   exact ⟨a,h1,by rw [dm];exact h2⟩
  have ex: ∀ {ρ:Env} {a:Addr},(ρ n).base=some a->(AV.v (.one (.cx n 0 q))).af ρ= .pointer (some (a.add q)):=fun ha=>by simp [AV.af,A0.af,Cell.af,ha]
  unfold GL at h
  split at h
  ·rename_i mo
   split at h
   ·rename_i hl
    refine ⟨_,aL.pure ?_,h⟩
    intro ax W ρ Kn Γ w _ _ dU hst
    have bV:Γ n=some (.rc cs):=by rw [dU n (by simp),he]
    have hpos:=(hT t i ht).2.1
    obtain ⟨c0,hc0⟩: ∃c,cs[q+0]? =some c:=⟨_,List.getElem?_eq_getElem (by omega)⟩
    obtain ⟨a,ha,_⟩:=IN dU hst 0 c0 hc0
    have hcell: ∀m v,(((cs.drop q).take i.size).map (Cell.af ρ))[m]? =some v->w.cell? ((a.add q).add m)=some v:=fun m v hm=>by
     rw [List.getElem?_map] at hm
     obtain ⟨c,hc,rfl⟩:=Option.map_eq_some_iff.1 hm
     rw [List.getElem?_take] at hc
     split at hc
     ·rw [List.getElem?_drop] at hc
      obtain ⟨a',h1,h2⟩:=IN dU hst m c hc
      rw [ha] at h1;cases h1;exact h2
     ·cases hc
    have yw:=run_loadCells_list (P:=P) w (a.add q) _ hcell
    have hlen:(((cs.drop q).take i.size).map (Cell.af ρ)).length=i.size:=by simp;omega
    rw [hlen] at yw
    refine ⟨?_,fun c hc=>(hst.kn n _ bV).2 c (List.mem_of_mem_drop (List.mem_of_mem_take hc))⟩
    show (Instr.loadAt t ((AV.v (.one (.cx n 0 q))).af ρ)).run P w=_
    rw [ex ha]
    simp only [Instr.loadAt,Instr.sureAddr,Sem.run_bind,Sem.run_pure,Result.andThen_ok]
    simp [loadVar,hT.ag ht,mo,hT.sz ht,yw,AV.af,A0.af]
   ·exact h.elim
  ·rename_i mo
   split at h
   ·rename_i c hc
    refine ⟨_,aL.pure ?_,h⟩
    intro ax W ρ Kn Γ w _ _ dU hst
    have bV:Γ n=some (.rc cs):=by rw [dU n (by simp),he]
    obtain ⟨a,ha,h2⟩:=IN dU hst 0 c hc
    rw [dm,Nat.add_zero] at h2
    refine ⟨?_,(hst.kn n _ bV).2 c (List.mem_of_getElem? hc)⟩
    show (Instr.loadAt t ((AV.v (.one (.cx n 0 q))).af ρ)).run P w=_
    rw [ex ha]
    simp only [Instr.loadAt,Instr.sureAddr,Sem.run_bind,Sem.run_pure,Result.andThen_ok]
    simp [loadVar,hT.ag ht,mo,h2,AV.af,A0.af]
   ·exact h.elim
 ·exact h.elim
theorem RM {i:TI} {n j q:Nat} (h:tI i (.v (.one (.fq n j q))) hp nm k):tI i (.v (.one (.cx n j q))) hp nm k:=by
 unfold tI at h ⊢
 dsimp only at h ⊢
 split at h
 ·rename_i u l rk he
  split at h
  ·rename_i ns FL
   obtain ⟨h1,h⟩:=bh h
   obtain ⟨h2,h⟩:=bh h
   simp only [decide_eq_true_eq] at h1
   have hl:ns.length=u.size:=by
    have:=aO u (gd u l j)
    rw [lq _ _ FL] at this
    simpa using this
   have e:eV nm (bP u l j q i.size)=(oA ns q i.size,[]):=by
    unfold bP
    rw [lq _ _ FL,<- List.map_drop,<- List.map_take,Ct,sv _ _ _ (by omega),<- List.map_drop,<- List.map_take]
   rw [he]
   dsimp only
   rw [if_pos h1,h2,e]
   exact h
  ·exact h.elim
 ·exact h.elim
theorem Mx (hT:br P ctx.tt) {t:TypeId} {i:TI} (ht:aF ctx.tt t=some i) {x:AV} (h:tI i x hp nm k):
  ∃r,aL P ctx.X hp nm (fun Kn=>x.ok Kn) (fun ρ=>Instr.loadAt t (x.af ρ)) (fun ρ=>r.val.af ρ) r/\ k r:=by
 unfold tI at h
 split at h
 ·rename_i n off
  split at h
  ·rename_i cs e he
   obtain ⟨r,h1,h2⟩:=Mw (nm:=nm) hT ht he h
   exact ⟨r,⟨h1.1,fun ax W ρ Kn Γ w a _ c d e=>h1.2 ax W ρ Kn Γ w a trivial c d e⟩,h2⟩
  ·exact h.elim
 ·rename_i n off
  split at h
  ·rename_i cs e he
   split at h
   ·rename_i ns FL
    obtain ⟨hl,h⟩:=bh h
    simp only [decide_eq_true_eq] at hl
    split at h
    ·rename_i v hv
     refine ⟨_,aL.pure ?_,h⟩
     intro ax W ρ Kn Γ w _ _ dU hst
     have bV:Γ n=some (.cells cs e):=by rw [dU n (by simp),he]
     obtain ⟨b,hb,hh⟩:=hst.at_ n _ bV
     have VM:=fa ρ cs ns FL
     have hlen:cs.length=ns.length:=by rw [VM];simp
     have bz:oA ns off i.size=(cs.drop off).take i.size:=by rw [sv _ _ _ (by omega),<- VM]
     rw [bz] at hv
     have hrun:=jY hT ht (off:=off) (w:=w) (rest:= []) (cs:=cs.map (Cell.af ρ)) (b:=b) (e:=e) (by simpa using hh)
     unfold nY at hv
     split at hv
     ·rename_i ha
      cases hv
      refine ⟨?_,fun c hc=>(hst.kn n _ bV).2 c (List.mem_of_mem_drop (List.mem_of_mem_take hc))⟩
      have:=hrun.1 ha (by simpa using hl)
      simp only [Instr.loadAt,Instr.sureAddr,AV.af,A0.af,Cell.af,addrOf,hb,Option.map_some,Sem.run_bind,Sem.run_pure,Result.andThen_ok,this,dQ]
     ·rename_i ha
      split at hv
      ·rename_i c hc
       cases hv
       have hcs:cs[off]? =some c:=by
        have h0:((cs.drop off).take i.size)[0]? =some c:=by rw [hc];rfl
        rw [List.getElem?_take] at h0
        split at h0
        ·rw [List.getElem?_drop] at h0;simpa using h0
        ·cases h0
       refine ⟨?_,(hst.kn n _ bV).2 c (List.mem_of_getElem? hcs)⟩
       have:=hrun.2 (by simpa using ha) (c.af ρ) (by simp [hcs])
       simp only [Instr.loadAt,Instr.sureAddr,AV.af,A0.af,Cell.af,addrOf,hb,Option.map_some,Sem.run_bind,Sem.run_pure,Result.andThen_ok,this]
      ·cases hv
    ·exact h.elim
   ·exact h.elim
  ·exact h.elim
 ·rename_i n j q
  exact Dt hT ht (by unfold tI;exact h)
 ·rename_i n j q
  exact Dt hT ht (RM (by unfold tI;exact h))
 ·exact h.elim
theorem lA {α β:Type} (f:α->β): ∀(ys cs:List α) (off:Nat),(setCells cs off ys).map f=setCells (cs.map f) off (ys.map f)
 | [],_,_=>rfl
 |y::r,cs,off=>by simp only [setCells,List.map_cons];rw [lA f r];simp [List.map_set]
theorem lQ {ρ:Env} {n b off:Nat} (hb:(ρ n).bt=some b):(AV.v (.one (.ptr n off))).af ρ= .pointer (some ⟨b,off,none⟩):=by
 simp [AV.af,A0.af,Cell.af,addrOf,hb]
theorem mG {ρ:Env} {n b off:Nat} (hb:(ρ n).bt=some b):(AV.v (.one (.jE n off))).af ρ= .pointer (some ⟨b,off,none⟩):=by
 simp [AV.af,A0.af,Cell.af,addrOf,hb]
theorem oq (hT:br P ctx.tt) {t:TypeId} {i:TI} (ht:aF ctx.tt t=some i) {a:Addr} {v:Value} {vs:List Value} (hv:v.cells=vs.toArray) (hl:vs.length=i.size) (w:World):
  (Instr.storeAt t (.pointer (some a)) v).run P w=(storeCells a vs).run P w:=by
 simp [Instr.storeAt,Instr.sureAddr,storeVar,hT.sz ht,hv,hl]
theorem rA: ∀(ys:List Cell) (ps:List cn),fx ys=some ps->ps.length=ys.length/\ mO ys=true/\ ∀(ρ:Env),ys.map (Cell.af ρ)=ps.map aM/\ ∀c∈ps,∃v,c= .flat v
 | [],ps,h=>by simp only [fx,Option.some.injEq] at h;subst h;exact ⟨rfl,rfl,fun ρ=>⟨rfl,by simp⟩⟩
 |y::r,ps,h=>by
  unfold fx at h
  split at h
  ·simp_all
  ·rename_i v r' heq
   cases heq
   have main: ∀qs,fx r=some qs->rU v=true->(cn.flat v::qs).length=(Cell.raw v::r).length/\ mO (Cell.raw v::r)=true/\ ∀(ρ:Env),(Cell.raw v::r).map (Cell.af ρ)=(cn.flat v::qs).map aM/\ ∀c∈(cn.flat v::qs),∃v,c= .flat v:=fun qs hq hv=>by
    obtain ⟨h1,h2,h3⟩:=rA r qs hq
    refine ⟨by simp [h1],by simp [mO,Cell.one,hv,h2],fun ρ=>⟨by simp [(h3 ρ).1,Cell.af,aM],fun c hc=> ?_⟩⟩
    rcases List.mem_cons.1 hc with rfl|hc
    ·exact ⟨v,rfl⟩
    ·exact (h3 ρ).2 c hc
   split at h<;>try (cases h;done)
   all_goals
    obtain ⟨qs,hq,rfl⟩:=Option.map_eq_some_iff.1 h
    exact main qs hq rfl
  ·cases h
theorem EJ {c:cn} (h: ∃v,c= .flat v) (s:Option Addr×Nat):eN s c=aM c:=by obtain ⟨v,rfl⟩:=h;rfl
theorem dj {α:Type} : ∀(ys cs:List α) (off i:Nat),off+ys.length<=cs.length->(setCells cs off ys)[i]? =if off<=i/\ i<off+ys.length then ys[i- off]? else cs[i]? :=by
 intro ys cs off i h
 rw [iu ys cs off h]
 simp only [List.getElem?_append,List.length_append,List.length_take,List.getElem?_take,List.getElem?_drop]
 grind
theorem mC (t:Ty) (x':t.T): ∀(l:List t.T) (j:Nat),j<l.length->ak t (l.set j x')=setCells (ak t l) (j*t.size) (t.aI x')
 | [],j,h=>by simp at h
 |x::r,0,_=>by
  simp only [List.set_cons_zero,ak,List.flatMap_cons,Nat.zero_mul]
  rw [iu _ _ _ (by simp [aO])]
  simp [aO]
 |x::r,j+1,h=>by
  simp only [List.length_cons] at h
  have hl:=bn t r
  have ih:=mC t x' r j (by omega)
  have hb:j*t.size+t.size<=r.length*t.size:=by rw [<- Nat.succ_mul];exact Nat.mul_le_mul_right _ (by omega)
  simp only [List.set_cons_succ,ak,List.flatMap_cons] at ih hl ⊢
  rw [ih]
  apply List.ext_getElem?
  intro i
  have e:(j+1)*t.size=j*t.size+t.size:=Nat.succ_mul _ _
  rw [dj _ _ _ _ (by rw [List.length_append,aO,aO,hl,e];omega),List.getElem?_append,dj _ _ _ _ (by rw [aO,hl];omega),List.getElem?_append]
  simp only [aO,e]
  by_cases h1:i<t.size
  ·rw [if_pos h1,if_pos h1,if_neg (by omega)]
  ·rw [if_neg h1,if_neg h1]
   by_cases h2:j*t.size<=i- t.size/\ i- t.size<j*t.size+t.size
   ·rw [if_pos h2,if_pos (by omega),show i- (j*t.size+t.size)=i- t.size- j*t.size by omega]
   ·rw [if_neg h2,if_neg (by omega)]
theorem Gx: ∀(ms:List Int),mO (ms.map fun n=>Cell.raw (.int .i64 n))=true
 | []=>rfl
 |a::r=>by simp [mO,Cell.one,rU,Gx r]
theorem St.drop {ax:iV} {W:World} {ρ:Env} {Kn:Nat->Prop} {Γ ow:HP} {w:World} (h:St ax W ρ Kn Γ w) (hs: ∀x p,ow x=some p->Γ x=some p):St ax W ρ Kn ow w:=by
 have hL: ∀b,LO ρ ow b->LO ρ Γ b:=fun b hb=>by
  rcases hb with ⟨m,h1,h2⟩|⟨m,S,h1,h2⟩
  ·obtain ⟨o,ho⟩:=Option.isSome_iff_exists.1 h1
   exact .inl ⟨m,by rw [hs m o ho];rfl,h2⟩
  ·exact .inr ⟨m,S,hs m _ h1,h2⟩
 have S7: ∀m,(ow m).isSome=true->(Γ m).isSome=true:=fun m hm=>by
  obtain ⟨o,ho⟩:=Option.isSome_iff_exists.1 hm
  rw [hs m o ho];rfl
 exact ⟨h.fr,fun n o ho=>ct (Kn:=Kn) (h.at_ n o (hs n o ho)) (fun _ _=>rfl) (h.kn n o (hs n o ho)).1 (h.kn n o (hs n o ho)).2 (fun b hb=>⟨⟨hb.1,fun q=>hb.2 (hL b q)⟩,rfl⟩) (fun _ _ h=>h) fun _ _=>rfl,
  fun n o ho=>h.kn n o (hs n o ho),fun n m b hn hm=>h.cW n m b (S7 n hn) (S7 m hm),fun n b hn=>h.jR n b (S7 n hn),fun b ⟨m,S,h1,h2⟩=>⟨(h.rH b ⟨m,S,hs m _ h1,h2⟩).1,fun ⟨m',h3,h4⟩=>(h.rH b ⟨m,S,hs m _ h1,h2⟩).2 ⟨m',S7 m' h3,h4⟩⟩,fun n o ho=>h.qI n o (hs n o ho)⟩
theorem J0 (hT:br P ctx.tt) {t:TypeId} {i:TI} (ht:aF ctx.tt t=some i) {n j q:Nat} {y:AV} {ys:List Cell} (hys:y.cells=some ys) (hsz:ys.length=i.size) {u:Ty} {l:List u.T} {rk:Nat} (he:hp n=some (.row u l rk)) (mW: ¬rk=0) (h:JZ u l rk n j q ys hp k):
  ∃r,aL P ctx.X hp nm (fun Kn=>(AV.v (.one (.cx n j q))).ok Kn/\ y.ok Kn) (fun ρ=>Instr.storeAt t ((AV.v (.one (.cx n j q))).af ρ) (y.af ρ)) (fun _=>()) r/\ r.val=aW/\ k r:=by
 unfold JZ at h
 split at h
 rotate_left
 ·exact h.elim
 rename_i m
 split at h
 rotate_left
 ·exact h.elim
 rename_i u' lm rm hm
 split at h
 ·exact h.elim
 rename_i hc
 simp only [not_or] at hc
 obtain ⟨hrm,I4,hmn,Cy,hq⟩:=hc
 have Cy:u'.flat=true:=by simpa using Cy
 split at h
 rotate_left
 ·exact h.elim
 rename_i x' hx'
 obtain ⟨hj,h⟩:=bh h
 have h:=h.2 _ rfl
 simp only [decide_eq_true_eq] at hj
 refine ⟨_,⟨fun p fI=> ?_,?_⟩,rfl,h⟩
 ·simp only [List.mem_cons,List.not_mem_nil,or_false] at fI
  rcases fI with rfl|rfl
  ·rw [he];simp
  ·rw [hm];simp
 intro ax W ρ Kn Γ w _ hk dU _ hst
 have bV:Γ n=some (.row u l rk):=by rw [dU n (by simp),he]
 have rK:Γ m=some (.row u' lm rm):=by rw [dU m (by simp),hm]
 obtain ⟨o1,o2,o3,sub,m1,m2,m3,m4⟩:=hst.at_ n _ bV
 obtain ⟨p1,p2,p3,Xm,q1,q2,q3,q4⟩:=hst.at_ m _ rK
 rcases (m4 mW).old I4 with ⟨_,h0,_⟩|⟨b,rest,e,hb,hbase,hh,hcap⟩
 ·subst h0;simp at hj
 have Wa:u.aI x'=setCells (u.aI (gd u l j)) q [.sl u' lm]:=by
  have:=jQ u _ _ _ hx';rw [List.append_nil] at this;exact this.symm
 have OL:=bn u l
 have Ub:j*u.size+u.size<=l.length*u.size:=by rw [<- Nat.succ_mul];exact Nat.mul_le_mul_right _ (by omega)
 have uo: ∀x,(ak u (l.set j x'))[x]? =if x=j*u.size+q then some (.sl u' lm) else (ak u l)[x]? :=fun x=>by
  rw [mC u x' l j hj,dj _ _ _ _ (by rw [aO];omega),aO,Wa]
  by_cases h1:j*u.size<=x/\ x<j*u.size+u.size
  ·rw [if_pos h1,dj _ _ _ _ (by rw [aO];simp;omega)]
   by_cases h2:x=j*u.size+q
   ·subst h2
    rw [if_pos rfl,if_pos (by constructor<;>simp<;>omega)]
    have:j*u.size+q- j*u.size- q=0:=by omega
    rw [this];rfl
   ·rw [if_neg (by simp;omega),if_neg h2]
    have:=jX u l j _ (x- j*u.size) (EU hj) (by omega)
    rw [show j*u.size+(x- j*u.size)=x by omega] at this
    exact this.symm
  ·rw [if_neg h1,if_neg (by omega)]
 obtain ⟨sub',Kt⟩: ∃sub':Nat->Option Addr×Nat,sub'=fun x=>if x=j*u.size+q then ((ρ m).base,(ρ m).cap) else sub x:=⟨_,rfl⟩
 have yy:aA sub' 0 (ak u (l.set j x'))=setCells (aA sub 0 (ak u l)) (j*u.size+q) ([Cell.full m].map (Cell.af ρ)):=by
  apply List.ext_getElem?
  intro x
  rw [bD,uo,dj _ _ _ _ (by rw [bJ];simp;omega),bD]
  by_cases h1:x=j*u.size+q
  ·subst h1
   rw [if_pos rfl,if_pos (by simp),Nat.sub_self,Kt]
   simp [eN,Cell.af,p1]
  ·rw [if_neg h1,if_neg (by simp;omega),Kt,Nat.zero_add]
   simp only [if_neg h1]
 have hlt:j*u.size+q+1<=(aA sub 0 (ak u l)).length:=by rw [bJ,OL];omega
 have hrun:(Instr.storeAt t ((AV.v (.one (.cx n j q))).af ρ) (y.af ρ)).run P w= .ok () (w.setRow b (aA sub' 0 (ak u (l.set j x'))++rest).toArray):=by
  have hst:=run_storeCells_at P b (j*u.size+q) e ([Cell.full m].map (Cell.af ρ)) 0 _ w hh (by simp;omega) (nI [Cell.full m] rfl ρ)
  have ex:(AV.v (.one (.cx n j q))).af ρ= .pointer (some ⟨b,j*u.size+q,none⟩):=by
   simp only [AV.af,A0.af,Cell.af,hbase,o2,Option.map_some]
   unfold Addr.add;split<;>simp_all
  rw [ex,oq hT ht (AV.gQ hys ρ) (by simpa using hsz),hst,yy]
  congr 2
  simp only [Nat.add_zero,List.length_map]
  rw [iu _ _ _ (by simpa using hlt)]
  rw [List.take_append_of_le_length (by omega),List.drop_append_of_le_length (by simp;omega)]
  simp
 refine ⟨ρ,_,hrun,fun _ _=>rfl,fun a ha=>absurd ha (by simp),?_⟩
 obtain ⟨J6,I6⟩: ∃J6:HP,J6=fun x=>if x=m then none else Γ x:=⟨_,rfl⟩
 have my:St ax W ρ Kn J6 w:=hst.drop fun x p fI=>by
  rw [I6] at fI
  dsimp only at fI
  split at fI
  ·cases fI
  ·exact fI
 have WL:J6 n=some (.row u l rk):=by rw [I6];dsimp only;rw [if_neg (Ne.symm hmn)];exact bV
 have Oi:bB {val:=aW,writes:= [(n,.row u (l.set j x') rk),(m,.gone)],az:= [n,m]} nm Γ=bN J6 n (.row u (l.set j x') rk):=by
  funext x
  simp only [bB,bN,bW,List.length_nil,I6]
  rw [if_neg (by omega)]
  by_cases h1:m=x
  ·subst h1
   simp [live,hmn]
  ·by_cases h2:n=x
   ·subst h2;simp [h1,live]
   ·simp [h1,h2,Ne.symm h1,Ne.symm h2]
 rw [fO,Oi]
 refine my.write WL hb trivial (fun _ h=>by cases h) fun hfz=> ?_
 have IW: ∀b',eo ρ Γ w b'->eo ρ J6 w b':=fun b' hb'=>⟨hb'.1,by
  rintro (⟨x,h1,h2⟩|⟨x,S,h1,h2⟩)
  ·rw [I6] at h1
   dsimp only at h1
   split at h1
   ·cases h1
   ·exact hb'.2 (.inl ⟨x,h1,h2⟩)
  ·rw [I6] at h1
   dsimp only at h1
   split at h1
   ·cases h1
   ·exact hb'.2 (.inr ⟨x,S,h1,h2⟩)⟩
 have Ru: ∀b',(ρ m).bt=some b'->bg w b'->eo ρ J6 w b':=fun b' hb' IP=>⟨IP,by
  rintro (⟨x,h1,h2⟩|⟨x,S,h1,h2⟩)
  ·rw [I6] at h1
   dsimp only at h1
   split at h1
   ·cases h1
   ·rename_i hx
    exact hx (hst.cW x m b' h1 (by rw [rK];rfl) h2 (.inl hb'))
  ·rw [I6] at h1
   dsimp only at h1
   split at h1
   ·cases h1
   ·exact (hst.rH b' ⟨x,S,h1,h2⟩).2 ⟨m,by rw [rK];rfl,.inl hb'⟩⟩
 have FK:=setRow_heap w b _ (aA sub' 0 (ak u (l.set j x'))++rest).toArray _ _ hh
 refine ⟨by simpa using o1,o2,by simpa using o3,sub',fun x v hx=> ?_,fun x u2 l2 hx=> ?_,m3,fun _=>fS.new (.inr ⟨b,rest,e,hb,hbase,FK,?_⟩)⟩
 ·refine ⟨_,hbase,?_,fun e=>absurd e mW⟩
  have e1:(⟨b,0,none⟩:Addr).add x=⟨b,x,none⟩:=by unfold Addr.add;split<;>simp_all
  rw [e1,bL FK,List.getElem?_append_left (List.getElem?_eq_some_iff.1 hx).1];exact hx
 ·rw [uo] at hx
  split at hx
  ·rename_i hx0
   cases hx
   have es:sub' x=((ρ m).base,(ρ m).cap):=by rw [Kt,hx0];simp
   rw [es]
   refine ⟨Cy,p3,fun i v hv=> ?_⟩
   have hvs:aA Xm 0 (ak u' lm)=aJ u' lm:=by
    unfold aJ
    have: ∀(cs:List cn) (z:Nat),(∀c∈cs,∃v,c= .flat v)->aA Xm z cs=cs.map aM:=by
     intro cs
     induction cs with
     |nil=>intro _ _;rfl
     |cons c r ih=>
      intro z hz
      obtain ⟨v,rfl⟩:=hz c (by simp)
      simp only [aA,List.map_cons,ih (z+1) fun c hc=>hz c (by simp [hc])]
      rfl
    exact this _ 0 fun c hc=>by
     obtain ⟨x2,_,h2⟩:=List.mem_flatMap.1 hc
     exact St.views.cZ u' Cy x2 c h2
   obtain ⟨a,k1,k2,_⟩:=q1 i v (by rw [hvs];exact hv)
   rcases q4 hrm with ⟨_,h0,_⟩|⟨bm,abT,aax,em,QI,On,Z0,ZV⟩
   ·rw [List.eq_nil_of_length_eq_zero h0] at hv;simp [aJ,ak] at hv
   ·rw [On] at k1
    cases k1
    have hcb:bg w bm:=⟨_,_,_,Z0⟩
    obtain ⟨f1,f2⟩:=hfz bm (Ru bm QI hcb)
    refine ⟨_,On,?_,f1,fun _=>⟨(hst.own m bm (by rw [rK];rfl) QI).imp_right .inl,(Ex.of Z0).same f2⟩⟩
    rw [<- k2]
    exact World.cell?_of_block (by rw [dz];exact f2)
  ·rename_i hx0
   have es:sub' x=sub x:=by rw [Kt];exact if_neg hx0
   rw [es]
   exact (m2 x _ _ hx).mono fun b' hb'=>⟨⟨(hfz b' (IW b' hb'.1)).1,fun e=>⟨(hb'.2 e).1,(hb'.2 e).2.same (hfz b' (IW b' hb'.1)).2⟩⟩,(hfz b' (IW b' hb'.1)).2⟩
 ·exact ⟨by rw [hcap.1];simp [bJ,bn],hcap.2⟩
theorem Cn (hT:br P ctx.tt) {t:TypeId} {i:TI} (ht:aF ctx.tt t=some i) {n j q:Nat} {y:AV} (h:oO i (.v (.one (.cx n j q))) y hp k):
  ∃r,aL P ctx.X hp nm (fun Kn=>(AV.v (.one (.cx n j q))).ok Kn/\ y.ok Kn) (fun ρ=>Instr.storeAt t ((AV.v (.one (.cx n j q))).af ρ) (y.af ρ)) (fun _=>()) r/\ r.val=aW/\ k r:=by
 unfold oO at h
 cases hys:y.cells with
 |none=>rw [hys] at h;exact h.elim
 |some ys=>
 rw [hys] at h
 dsimp only at h
 split at h
 ·rename_i hsz
  split at h
  ·rename_i u l rk he
   split at h
   ·exact h.elim
   ·rename_i mW
    obtain ⟨mW,I4⟩:=not_or.1 mW
    split at h
    ·rename_i ps hps
     split at h
     ·rename_i hq
      split at h
      ·rename_i x' hx'
       obtain ⟨hj,h⟩:=bh h
       have h:=h.2 _ rfl
       simp only [decide_eq_true_eq] at hj
       refine ⟨_,⟨fun p fI=>by simp at fI;subst fI;rw [he];simp,?_⟩,rfl,h⟩
       intro ax W ρ Kn Γ w _ hk dU _ hst
       have bV:Γ n=some (.row u l rk):=by rw [dU n (by simp),he]
       obtain ⟨o1,o2,o3,sub,m1,m2,m3,m4⟩:=hst.at_ n _ bV
       rcases (m4 mW).old I4 with ⟨_,h0,_⟩|⟨b,rest,e,hb,hbase,hh,hcap⟩
       ·subst h0;simp at hj
       obtain ⟨rJ,hone,Wu⟩:=rA ys ps hps
       have Wa:u.aI x'=setCells (u.aI (gd u l j)) q ps:=by
        have:=jQ u _ _ _ hx';rw [List.append_nil] at this;exact this.symm
       have OL:=bn u l
       have Ub:j*u.size+u.size<=l.length*u.size:=by rw [<- Nat.succ_mul];exact Nat.mul_le_mul_right _ (by omega)
       have uo: ∀m,(ak u (l.set j x'))[m]? =if j*u.size+q<=m/\ m<j*u.size+q+ps.length then ps[m- (j*u.size+q)]? else (ak u l)[m]? :=fun m=>by
        rw [mC u x' l j hj,dj _ _ _ _ (by rw [aO];omega),aO,Wa]
        by_cases h1:j*u.size<=m/\ m<j*u.size+u.size
        ·rw [if_pos h1,dj _ _ _ _ (by rw [aO];omega)]
         by_cases h2:q<=m- j*u.size/\ m- j*u.size<q+ps.length
         ·rw [if_pos h2,if_pos (by omega),show m- j*u.size- q=m- (j*u.size+q) by omega]
         ·rw [if_neg h2,if_neg (by omega)]
          have:=jX u l j _ (m- j*u.size) (EU hj) (by omega)
          rw [show j*u.size+(m- j*u.size)=m by omega] at this
          exact this.symm
        ·rw [if_neg h1,if_neg (by omega)]
       have yy:aA sub 0 (ak u (l.set j x'))=setCells (aA sub 0 (ak u l)) (j*u.size+q) (ys.map (Cell.af ρ)):=by
        apply List.ext_getElem?
        intro m
        rw [bD,uo,dj _ _ _ _ (by rw [bJ];simp;omega),bD,(Wu ρ).1]
        simp only [List.length_map,List.getElem?_map]
        by_cases h1:j*u.size+q<=m/\ m<j*u.size+q+ps.length
        ·rw [if_pos h1,if_pos h1]
         cases hm:ps[m- (j*u.size+q)]? with
         |none=>rfl
         |some c=>exact congrArg some (EJ ((Wu ρ).2 c (List.mem_of_getElem? hm)) _)
        ·rw [if_neg h1,if_neg h1]
       have hlt:j*u.size+q+ys.length<=(aA sub 0 (ak u l)).length:=by rw [bJ,OL];omega
       have hrun:(Instr.storeAt t ((AV.v (.one (.cx n j q))).af ρ) (y.af ρ)).run P w= .ok () (w.setRow b (aA sub 0 (ak u (l.set j x'))++rest).toArray):=by
        have hst:=run_storeCells_at P b (j*u.size+q) e (ys.map (Cell.af ρ)) 0 _ w hh (by simp;omega) (nI ys hone ρ)
        have ex:(AV.v (.one (.cx n j q))).af ρ= .pointer (some ⟨b,j*u.size+q,none⟩):=by
         simp only [AV.af,A0.af,Cell.af,hbase,o2,Option.map_some]
         unfold Addr.add;split<;>simp_all
        rw [ex,oq hT ht (AV.gQ hys ρ) (by simpa using hsz),hst,yy]
        congr 2
        simp only [Nat.add_zero,List.length_map]
        rw [iu _ _ _ (by simpa using hlt)]
        rw [List.take_append_of_le_length (by omega),List.drop_append_of_le_length (by omega)]
        simp
       refine ⟨ρ,_,hrun,fun _ _=>rfl,fun a ha=>absurd ha (by simp),?_⟩
       rw [fO,kj _ _ _ _ _ _ rfl]
       refine hst.write bV hb trivial (fun _ h=>by cases h) fun hfz=> ?_
       have FK:=setRow_heap w b _ (aA sub 0 (ak u (l.set j x'))++rest).toArray _ _ hh
       refine ⟨by simpa using o1,o2,by simpa using o3,sub,fun m v hm=> ?_,fun m u' l' hm=> ?_,m3,fun _=>fS.new (.inr ⟨b,rest,e,hb,hbase,FK,?_⟩)⟩
       ·refine ⟨_,hbase,?_,fun e=>absurd e mW⟩
        have e1:(⟨b,0,none⟩:Addr).add m=⟨b,m,none⟩:=by unfold Addr.add;split<;>simp_all
        rw [e1,bL FK,List.getElem?_append_left (List.getElem?_eq_some_iff.1 hm).1];exact hm
       ·rw [uo] at hm
        split at hm
        ·obtain ⟨v,hv⟩:=(Wu ρ).2 _ (List.mem_of_getElem? hm);cases hv
        ·exact (m2 m u' l' hm).mono fun b' hb'=>⟨⟨(hfz b' hb'.1).1,fun e=>⟨(hb'.2 e).1,(hb'.2 e).2.same (hfz b' hb'.1).2⟩⟩,(hfz b' hb'.1).2⟩
       ·exact ⟨by rw [hcap.1];simp [bJ,bn],hcap.2⟩
      ·exact h.elim
     ·exact h.elim
    ·exact J0 hT ht hys hsz he mW h
  ·exact h.elim
 ·exact h.elim
theorem rz: ∀(ms:List Int),fx (ms.map fun m=>Cell.raw (.int .i64 m))=some (ms.map fun m=> .flat (.int .i64 m))
 | []=>rfl
 |m::r=>by simp only [List.map_cons,fx,rz r,Option.map_some]
theorem Qu {i:TI} {n j q:Nat} {y:AV} (h:oO i (.v (.one (.fq n j q))) y hp k):oO i (.v (.one (.cx n j q))) y hp k:=by
 unfold oO at h ⊢
 cases hys:y.cells with
 |none=>rw [hys] at h;exact h.elim
 |some ys=>
 rw [hys] at h
 dsimp only at h ⊢
 split at h
 ·rename_i hsz
  rw [if_pos hsz]
  split at h
  ·rename_i u l rk he
   split at h
   ·exact h.elim
   ·rename_i mW
    rw [if_neg mW]
    split at h
    ·rename_i ms ns Uf FL
     have ey:=fa (fun _=> {}) ys ms Uf
     have hf:fx ys=some (ms.map fun m=> .flat (.int .i64 m)):=by rw [ey];exact rz ms
     rw [hf]
     dsimp only
     have e:setCells (u.aI (gd u l j)) q (ms.map fun m=>cn.flat (.int .i64 m))=(qi q ms ns).map fun m=> .flat (.int .i64 m):=by
      rw [lq _ _ FL,uG,lA]
     split at h
     ·rename_i x' hx'
      obtain ⟨h1,h⟩:=bh h
      simp only [decide_eq_true_eq] at h1
      have hl:ys.length=ms.length:=by rw [ey];simp
      rw [if_pos (by simpa [<- hl] using h1),e,hx']
      exact h
     ·exact h.elim
    ·exact h.elim
  ·exact h.elim
 ·exact h.elim
theorem JY (hT:br P ctx.tt) {t:TypeId} {i:TI} (ht:aF ctx.tt t=some i) {x y:AV} (h:oO i x y hp k):
  ∃r,aL P ctx.X hp nm (fun Kn=>x.ok Kn/\ y.ok Kn) (fun ρ=>Instr.storeAt t (x.af ρ) (y.af ρ)) (fun _=>()) r/\ r.val=aW/\ k r:=by
 have core: ∀ {ρ:Env} {w:World} {n b off:Nat} {cs ys:List Cell} {e:TypeId} {v:Value},y.cells=some ys->ys.length=i.size->mO ys=true->(ρ n).bt=some b->w.heap[b]? =some (.cells (cs.map (Cell.af ρ)).toArray e (0,0))->off+ys.length<=cs.length->v= .pointer (some ⟨b,off,none⟩)->
   (Instr.storeAt t v (y.af ρ)).run P w= .ok () (w.setRow b ((setCells cs off ys).map (Cell.af ρ)).toArray):=by
  intro ρ w n b off cs ys e v hys hsz hone hb hh hl hv
  have hst:=run_storeCells_at P b off e (ys.map (Cell.af ρ)) 0 _ w hh (by simp;omega) (nI ys hone ρ)
  rw [hv,oq hT ht (AV.gQ hys ρ) (by simpa using hsz),hst]
  congr 2
  simp only [Nat.add_zero,List.length_map,Fz (Cell.af ρ) ys cs off hl]
 unfold oO at h
 split at h
 ·rename_i n off ys hys
  split at h
  ·rename_i hsz
   split at h
   ·rename_i hone
    split at h
    ·rename_i cs e he
     split at h
     ·rename_i hl
      refine ⟨_,⟨fun p fI=>by simp at fI;subst fI;rw [he];simp,?_⟩,rfl,h⟩
      intro ax W ρ Kn Γ w _ hk dU _ hst
      have bV:Γ n=some (.cells cs e):=by rw [dU n (by simp),he]
      obtain ⟨b,hb,hh⟩:=hst.at_ n _ bV
      have hrun:=core hys hsz hone hb hh hl (lQ hb)
      refine ⟨ρ,_,hrun,fun _ _=>rfl,fun a ha=>absurd ha (by simp),?_⟩
      rw [fO,kj _ _ _ _ _ _ rfl]
      refine hst.write bV hb (fun c hc=> ?_) (fun _ h=>by cases h) fun _=>⟨b,hb,by rw [setRow_heap _ _ _ _ _ _ hh]⟩
      rcases qt hl hc with h1|h1
      ·exact (hst.kn n _ bV).2 c h1
      ·exact AV.u9 hys hk.2 c h1
     ·exact h.elim
    ·exact h.elim
   ·exact h.elim
  ·exact h.elim
 ·rename_i n off ys hys
  split at h
  ·rename_i hsz
   split at h
   ·rename_i cs e he
    split at h
    ·rename_i ns ms FL Uf
     obtain ⟨hl,h⟩:=bh h
     simp only [decide_eq_true_eq] at hl
     have ec:=fa (fun _=> {}) cs ns FL
     have ey:=fa (fun _=> {}) ys ms Uf
     have fF:(qi off ms ns).map (fun q=>Cell.raw (.int .i64 q))=setCells cs off ys:=by
      rw [uG,lA,<- ec,<- ey]
     rw [fF] at h
     have hone:mO ys=true:=by
      rw [ey];exact Gx ms
     refine ⟨_,⟨fun p fI=>by simp at fI;subst fI;rw [he];simp,?_⟩,rfl,h⟩
     intro ax W ρ Kn Γ w _ hk dU _ hst
     have bV:Γ n=some (.cells cs e):=by rw [dU n (by simp),he]
     obtain ⟨b,hb,hh⟩:=hst.at_ n _ bV
     have hrun:=core hys hsz hone hb hh hl (mG hb)
     refine ⟨ρ,_,hrun,fun _ _=>rfl,fun a ha=>absurd ha (by simp),?_⟩
     rw [fO,kj _ _ _ _ _ _ rfl]
     refine hst.write bV hb (fun c hc=> ?_) (fun _ h=>by cases h) fun _=>⟨b,hb,by rw [setRow_heap _ _ _ _ _ _ hh]⟩
     rcases qt hl hc with h1|h1
     ·exact (hst.kn n _ bV).2 c h1
     ·exact AV.u9 hys hk.2 c h1
    ·exact h.elim
   ·exact h.elim
  ·exact h.elim
 ·rename_i n j q ys hys
  exact Cn hT ht (by unfold oO;rw [hys];exact h)
 ·rename_i n j q ys hys
  exact Cn hT ht (Qu (by unfold oO;rw [hys];exact h))
 ·exact h.elim
theorem qD (Kn:Nat->Prop):aW.ok Kn:=fun a ha=>absurd ha (by simp)
theorem uz (cs:List Cell) (e:TypeId) (v:AV) (yN:(Nat->Prop)->Prop) (f:Env->Sem Value) (hok: ∀Kn,yN Kn-> ∀c∈cs,c.ok Kn)
  (hv: ∀Kn,v.ok (sM Kn nm)) (hf: ∀(ρ:Env) (w:World),(f ρ).run P w= .ok (v.af (aV ρ nm {bt:=some w.heap.size})) (w.alloc (.cells (cs.map (Cell.af ρ)).toArray e (0,0)))):
  aL P ctx.X hp nm yN f (fun ρ=>v.af ρ) {val:=v,fresh:= [.cells cs e]} :=by
 refine ⟨fun p hp=>absurd hp (by simp),?_⟩
 intro ax W ρ Kn Γ w _ hk _ hfr hst
 have hn: ¬Kn nm:=by simpa using hfr 0 (by simp)
 refine ⟨aV ρ nm {bt:=some w.heap.size},_,hf ρ w,cD hn,?_,?_⟩
 ·rw [qb];exact hv Kn
 ·rw [qb,NH];exact hst.alloc hn (hok Kn hk)
theorem wo (ρ:Env) (w:World) (off:Nat):(AV.v (.one (.ptr nm off))).af (aV ρ nm {bt:=some w.heap.size})= .pointer (some ⟨w.heap.size,off,none⟩):=by
 simp [AV.af,A0.af,Cell.af,addrOf,aV]
theorem Lx (hT:br P ctx.tt) {t:TypeId} {i:TI} (ht:aF ctx.tt t=some i):
  aL P ctx.X hp nm (fun _=>True) (fun _=>Instr.alloc t true (.tuple #[])) (fun ρ=>(AV.v (.one (.ptr nm 0))).af ρ) {val:= .v (.one (.ptr nm 0)),fresh:= [.cells (iz i.zero) t]} :=by
 refine uz _ _ _ _ _ (fun _ _=>Fw _ _) (fun _=> .inr rfl) fun ρ w=> ?_
 rw [wo]
 simp [Instr.alloc,hT.z ht,newVar,newRow,iz,-List.map_map,zU]
theorem Q8 {t:TypeId} {x:AV} {xs:List Cell} (hx:x.cells=some xs):
  aL P ctx.X hp nm (fun Kn=>x.ok Kn) (fun ρ=>Instr.box t (x.af ρ)) (fun ρ=>(AV.v (.one (.ptr nm 0))).af ρ) {val:= .v (.one (.ptr nm 0)),fresh:= [.cells xs t]} :=by
 refine uz _ _ _ _ _ (fun Kn hk=>AV.u9 hx hk) (fun _=> .inr rfl) fun ρ w=> ?_
 rw [wo]
 simp [Instr.box,newVar,newRow,AV.gQ hx]
end
end Go.Ev
