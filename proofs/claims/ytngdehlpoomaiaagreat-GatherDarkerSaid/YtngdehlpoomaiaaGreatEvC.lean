/- Each operation, but for calls, does what 'opE' says. -/
import Derived.Test.YtngdehlpoomaiaaGreatEvB
noncomputable section
set_option linter.unusedSectionVars false
set_option linter.unusedVariables false
set_option linter.unusedSimpArgs false
namespace Go.Ev
open Go.RowKit
def aK (P:Program) (tt:List (Nat×TI)):Prop:= ∀t i,aI tt t=some i->P.underlying t=some i.desc/\
 0<i.size/\ ∃inf,P.info? t=some inf/\ inf.size=i.size/\ inf.bytes=i.bytes/\ inf.zero=some i.zero/\ (dc i.desc=true->P.stoodInHeld t=false/\ P.eqGuardType P.depth t=false)
section
variable {P:Program} {tt:List (Nat×TI)} {t:TypeId} {i:TI}
theorem aK.u (h:aK P tt) (ht:aI tt t=some i) (w:World):(underlying t).run P w= .ok i.desc w:=run_underlying (h t i ht).1 w
theorem aK.ti (h:aK P tt) (ht:aI tt t=some i) (w:World): ∃inf,(typeInfo t).run P w= .ok inf w/\ inf.size=i.size/\ inf.bytes=i.bytes/\ inf.zero=some i.zero:=by
 obtain ⟨_,_,inf,h1,h2,h3,h4,_⟩:=h t i ht
 exact ⟨inf,by simp [typeInfo,h1],h2,h3,h4⟩
theorem aK.sz (h:aK P tt) (ht:aI tt t=some i) (w:World):(sizeOf t).run P w= .ok i.size w:=by
 obtain ⟨inf,h1,h2,_⟩:=h.ti ht w
 simp [sizeOf,h1,h2]
theorem aK.z (h:aK P tt) (ht:aI tt t=some i) (w:World):(zeroValue t).run P w= .ok i.zero w:=by
 obtain ⟨inf,h1,_,_,h4⟩:=h.ti ht w
 simp [zeroValue,h1,h4]
theorem aK.ag (h:aK P tt) (ht:aI tt t=some i) (w:World):(isAgg t).run P w= .ok (dc i.desc) w:=by
 simp only [isAgg,Sem.run_bind,h.u ht w,Result.andThen_ok,dc]
 cases i.desc<;>rfl
end
theorem gK (f:Cell->Value) (cs:List Cell) (off m:Nat):((cs.drop off).take m).map f=((cs.map f).drop off).take m:=by simp [List.map_drop,List.map_take]
section
variable {P:Program} {ctx:Ctx} {hp:HP} {nm:Nat} {k:Rec->Prop}
theorem bL {w:World} {b:Nat} {cs:List Value} {e:TypeId} (h:w.heap[b]? =some (.cells cs.toArray e (0,0))) (o:Nat):w.cell? ⟨b,o,none⟩=cs[o]? :=by
 simp [World.cell?,h]
theorem kH (hT:aK P ctx.tt) {t:TypeId} {i:TI} (ht:aI ctx.tt t=some i) {w:World} {b off:Nat} {cs rest:List Value} {e:TypeId}
  (hh:w.heap[b]? =some (.cells (cs++rest).toArray e (0,0))):
  (dc i.desc=true->off+i.size<=cs.length->(loadVar t ⟨b,off,none⟩).run P w= .ok (.agg ((cs.drop off).take i.size).toArray) w)/\
  (dc i.desc=false-> ∀v,cs[off]? =some v->(loadVar t ⟨b,off,none⟩).run P w= .ok v w):=by
 constructor
 ·intro ha hl
  have hlen:((cs.drop off).take i.size).length=i.size:=by simp;omega
  have hc: ∀j v,((cs.drop off).take i.size)[j]? =some v->w.cell? ((⟨b,off,none⟩:Addr).add j)=some v:=by
   intro j v hj
   have e1:(⟨b,off,none⟩:Addr).add j=⟨b,off+j,none⟩:=by unfold Addr.add;split<;>simp_all
   rw [e1,bL hh]
   rw [List.getElem?_take] at hj
   split at hj
   ·rename_i hj2
    rw [List.getElem?_drop] at hj
    rw [List.getElem?_append_left (by omega)];exact hj
   ·cases hj
  have hl:=run_loadCells_list (P:=P) w ⟨b,off,none⟩ _ hc
  rw [hlen] at hl
  simp [loadVar,hT.ag ht,ha,hT.sz ht,hl]
 ·intro ha v hv
  have hlt:off<cs.length:=by
   rcases Nat.lt_or_ge off cs.length with h|h
   ·exact h
   ·rw [List.getElem?_eq_none h] at hv;cases hv
  have hc:w.cell? ⟨b,off,none⟩=some v:=by rw [bL hh,List.getElem?_append_left hlt,hv]
  simp [loadVar,hT.ag ht,ha,hc]
theorem VX (hT:aK P ctx.tt) {t:TypeId} {i:TI} (ht:aI ctx.tt t=some i) {cs:List Cell} {n off:Nat} {e:TypeId} (he:hp n=some (.cells cs e)) (h:zA i cs n off k):
  ∃r,aM P ctx.X hp nm (fun _=>True) (fun ρ=>Instr.loadAt t (.pointer (addrOf ρ n off))) (fun ρ=>r.val.ae ρ) r/\ k r:=by
 unfold zA at h
 split at h
 ·rename_i ha
  split at h
  ·rename_i hl
   refine ⟨_,aM.pure ?_,h⟩
   intro aq W ρ Kn Γ w _ _ je hst
   have bQ:Γ n=some (.cells cs e):=by rw [je n (by simp),he]
   obtain ⟨b,hb,hh⟩:=hst.at_ n _ bQ
   refine ⟨?_,?_⟩
   ·have:=(kH hT ht (off:=off) (rest:= []) (by simpa using hh)).1 ha (by simpa using hl)
    simp only [Instr.loadAt,Instr.sureAddr,addrOf,hb,Option.map_some,Sem.run_bind,Sem.run_pure,Result.andThen_ok,this,AV.ae,A0.ae,gK]
   ·intro c hc
    exact (hst.kn n _ bQ).2 c (List.mem_of_mem_drop (List.mem_of_mem_take hc))
  ·exact h.elim
 ·rename_i ha
  split at h
  ·rename_i c hc
   refine ⟨_,aM.pure ?_,h⟩
   intro aq W ρ Kn Γ w _ _ je hst
   have bQ:Γ n=some (.cells cs e):=by rw [je n (by simp),he]
   obtain ⟨b,hb,hh⟩:=hst.at_ n _ bQ
   refine ⟨?_,?_⟩
   ·have:=(kH hT ht (off:=off) (rest:= []) (by simpa using hh)).2 (by simpa using ha) (c.ae ρ) (by simp [hc])
    simp only [Instr.loadAt,Instr.sureAddr,addrOf,hb,Option.map_some,Sem.run_bind,Sem.run_pure,Result.andThen_ok,this,AV.ae,A0.ae]
   ·exact (hst.kn n _ bQ).2 c (List.mem_of_getElem? hc)
  ·exact h.elim
theorem dU (a:Addr) (m n:Nat):(a.add m).add n=a.add (m+n):=by
 unfold Addr.add;split<;>split<;>simp_all<;>omega
theorem bk {b:Bool} {p:Prop} (h:ob b p):b=true/\ p:=by cases b<;>first|exact h.elim|exact ⟨rfl,h⟩
theorem gP (ρ:Env): ∀(cs:List Cell) (ns:List Int),jl cs=some ns->cs=ns.map fun n=>Cell.raw (.int .i64 n)
 | [],ns,h=>by simp only [jl,Option.some.injEq] at h;subst h;rfl
 |c::r,ns,h=>by
  unfold jl at h
  split at h
  ·simp_all
  ·rename_i n r' heq
   cases heq
   split at h
   ·rename_i l hl;cases h;rw [gP ρ r l hl];rfl
   ·cases h
  ·cases h
theorem vC: ∀(m off:Nat) (ns:List Int),off+m<=ns.length->pS ns off m=((ns.map fun n=>Cell.raw (.int .i64 n)).drop off).take m
 |0,off,ns,_=>by simp [pS]
 |m+1,off,ns,h=>by
  rw [pS,vC m (off+1) ns (by omega),List.drop_eq_getElem_cons (i:=off) (by simp;omega),List.take_succ_cons,List.getElem_map,List.getD,List.getElem?_eq_getElem (by omega)]
  rfl
theorem JA (off:Nat) (y:Int): ∀(ns:List Int) (q:Nat),q<=off->x9 off y q ns=ns.set (off- q) y
 | [],q,_=>by simp [x9]
 |n::r,q,h=>by
  rw [x9]
  by_cases e:off=q
  ·subst e
   have: ∀(l:List Int) (p:Nat),off<p->x9 off y p l=l:=by
    intro l
    induction l with
    |nil=>intro p _;rfl
    |cons a l ih=>
     intro p hp
     rw [x9,ih _ (by omega)]
     have:Nat.beq off p=false:=by
      cases hb:Nat.beq off p with
      |false=>rfl
      |true=>exact absurd (Nat.eq_of_beq_eq_true hb) (by omega)
     rw [this];rfl
   have hb:Nat.beq off off=true:=Nat.beq_refl off
   rw [this r (off+1) (by omega),hb];simp
  ·rw [JA off y r (q+1) (by omega)]
   have hb:Nat.beq off q=false:=by
    cases hb:Nat.beq off q with
    |false=>rfl
    |true=>exact absurd (Nat.eq_of_beq_eq_true hb) e
   rw [hb,show off- q=(off- (q+1))+1 by omega];simp
theorem x8: ∀(ys ns:List Int) (off:Nat),sq off ys ns=setCells ns off ys
 | [],_,_=>rfl
 |y::r,ns,off=>by rw [sq,x8 r,JA off y ns 0 (Nat.zero_le _)];rfl
theorem dj (sub:Nat->Option Addr×Nat): ∀(cs:List cm) (q i:Nat),(aH sub q cs)[i]? =(cs[i]?).map (lH (sub (q+i)))
 | [],q,i=>by simp [aH]
 |c::r,q,0=>by simp [aH]
 |c::r,q,i+1=>by
  simp only [aH,List.getElem?_cons_succ]
  rw [dj sub r,show q+1+i=q+(i+1) by omega]
theorem nu (t:Ty): ∀(l:List t.T) (j:Nat) (x:t.T) (q:Nat),l[j]? =some x->q<t.size->(ay t l)[j*t.size+q]? =(t.aU x)[q]?
 | [],j,x,q,h,_=>by simp at h
 |y::r,0,x,q,h,hq=>by
  simp only [List.getElem?_cons_zero,Option.some.injEq] at h;subst h
  simp only [ay,List.flatMap_cons,Nat.zero_mul,Nat.zero_add]
  rw [List.getElem?_append_left (by rw [aW];exact hq)]
 |y::r,j+1,x,q,h,hq=>by
  simp only [ay,List.flatMap_cons]
  rw [List.getElem?_append_right (by rw [aW,Nat.add_mul];omega),aW,show (j+1)*t.size+q- t.size=j*t.size+q by rw [Nat.add_mul];omega]
  exact nu t r j x q (by simpa using h) hq
theorem QD {t:Ty} {l:List t.T} {j:Nat} (h:j<l.length):l[j]? =some (gd t l j):=by
 simp [gd,List.getD,h]
theorem Qm {u' u:Ty} {l:List u'.T} {l':List u.T} (h:iw u' u l=some l'):cm.sl u' l=cm.sl u l':=by
 unfold iw at h
 split at h
 ·rename_i e;subst e;cases h;rfl
 ·cases h
theorem ni: ∀(t:Ty) (cs:List cm) (x:t.T) (r:List cm),ju t cs=some (x,r)->cs=t.aU x++r
 | .int k,cs,x,r,h=>by
  simp only [ju] at h
  split at h
  ·split at h
   ·rename_i e;subst e;cases h;rfl
   ·cases h
  ·cases h
 | .bool,cs,x,r,h=>by
  simp only [ju] at h
  split at h
  ·cases h;rfl
  ·cases h
 | .str,cs,x,r,h=>by
  simp only [ju] at h
  split at h
  ·cases h;rfl
  ·cases h
 | .prod a b,cs,x,r,h=>by
  simp only [ju] at h
  split at h
  ·rename_i x1 r1 h1
   split at h
   ·rename_i y r2 h2
    cases h
    rw [ni a _ _ _ h1,ni b _ _ _ h2]
    simp [Ty.aU]
   ·cases h
  ·cases h
 | .sl u,cs,x,r,h=>by
  simp only [ju] at h
  split at h
  ·split at h
   ·rename_i l' hl
    cases h
    rw [Qm hl];rfl
   ·cases h
  ·cases h
theorem ZB (Kn:Nat->Prop) (nm:Nat) (o:aF) (os:List aF) (v v':AV) (ws ws':List (Nat×aF)) (tc yw:List Nat):
  mH (HD Kn nm) (nm+1) {val:=v,fresh:=os,writes:=ws,aD:=tc} =mH Kn nm {val:=v',fresh:=o::os,writes:=ws',aD:=yw} :=by
 funext m;simp only [mH,HD,List.length_cons];apply propext
 constructor
 ·rintro ((h|h)|h)
  ·exact .inl h
  ·exact .inr (by omega)
  ·exact .inr (by omega)
 ·rintro (h|h)
  ·exact .inl (.inl h)
  ·by_cases e:m=nm
   ·exact .inl (.inr e)
   ·exact .inr (by omega)
theorem UE (Γ:HP) (nm:Nat) (o:aF) (os:List aF) (v v':AV) (tc yw:List Nat) (ho:live (some o)=some o):
  bU {val:=v,fresh:=os,aD:=tc} (nm+1) (fb Γ nm o)=bU {val:=v',fresh:=o::os,aD:=yw} nm Γ:=by
 funext m
 simp only [bU,bZ,List.length_cons,fb]
 by_cases h:m=nm
 ·subst h
  have h1: ¬(m+1<=m/\ m<m+1+os.length):=by omega
  have h2:m<=m/\ m<m+(os.length+1):=by omega
  rw [if_neg h1,if_pos rfl,if_pos h2];simp [ho]
 ·by_cases h2:nm+1≤m∧m<nm+1+os.length
  ·have h3:nm≤m∧m<nm+(os.length+1):=by omega
   rw [if_pos h2,if_pos h3,show m- nm=(m- (nm+1))+1 by omega];simp
  ·have h3: ¬(nm≤m∧m<nm+(os.length+1)):=by omega
   rw [if_neg h2,if_neg h,if_neg h3]
theorem ZC (Kn:Nat->Prop) (nm:Nat) (v:AV) (tc:List Nat):mH Kn nm {val:=v,fresh:= [],aD:=tc} =Kn:=fh Kn nm v [] tc
theorem St.views {aq:e8} {W w:World} {sub:Nat->Option Addr×Nat} {okf:Nat->Prop} (v:AV) (tc:List Nat): ∀(cs:List cm) (q nm:Nat) (ρ:Env) (Kn:Nat->Prop) (Γ:HP),St aq W ρ Kn Γ w->(∀i,i<(fJ nm cs).2.length-> ¬Kn (nm+i))->
  (∀b,okf b->dM ρ Γ w b)->(∀i u l,cs[i]? =some (.sl u l)->e9 w okf (sub (q+i)) u l)->
  ∃ρ',(∀m,Kn m->ρ' m=ρ m)/\ (fJ nm cs).1.map (Cell.ae ρ')=aH sub q cs/\ (∀c∈(fJ nm cs).1,c.ok (mH Kn nm {val:=v,fresh:=(fJ nm cs).2,aD:=tc}))/\
   St aq W ρ' (mH Kn nm {val:=v,fresh:=(fJ nm cs).2,aD:=tc}) (bU {val:=v,fresh:=(fJ nm cs).2,aD:=tc} nm Γ) w
 | [],q,nm,ρ,Kn,Γ,h,_,_,_=>⟨ρ,fun _ _=>rfl,rfl,fun c hc=>absurd hc (by simp [fJ]),by simp only [fJ];rw [ZC,nY];exact h⟩
 | .flat v0::r,q,nm,ρ,Kn,Γ,h,hf,hok,hn=>by
  obtain ⟨ρ',h1,h2,h3,h4⟩:=St.views v tc r (q+1) nm ρ Kn Γ h hf hok fun i u l hi=>by
   have:=hn (i+1) u l (by simpa using hi)
   rwa [show q+(i+1)=q+1+i by omega] at this
  refine ⟨ρ',h1,?_,?_,h4⟩
  ·simp only [fJ,List.map_cons,h2,aH];rfl
  ·intro c hc
   simp only [fJ,List.mem_cons] at hc
   rcases hc with rfl|hc
   ·trivial
   ·exact h3 c hc
 | .sl u l::r,q,nm,ρ,Kn,Γ,h,hf,hok,hn=>by
  have hnm: ¬Kn nm:=by simpa using hf 0 (by simp [fJ])
  have h0:e9 w okf (sub q) u l:=by simpa using hn 0 u l rfl
  let x:Loc:= {blk:=none,base:=(sub q).1,len:=l.length,cap:=(sub q).2,es:=u.size}
  have hfz: ∀b,dM ρ Γ w b->dM (bw ρ nm x) (fb Γ nm (.row u l 0)) w b:=fun b hb=>⟨hb.1,by
   rintro (⟨m,h1,h2⟩|⟨m,S,h1,h2⟩)
   ·unfold bw at h2
    unfold fb at h1
    split at h2
    ·exact absurd (jd.1 h2) (fun h=>by cases h)
    ·rename_i e;rw [if_neg e] at h1;exact hb.2 (.inl ⟨m,h1,h2⟩)
   ·unfold fb at h1
    split at h1
    ·cases h1
    ·exact hb.2 (.inr ⟨m,S,h1,h2⟩)⟩
  have h1:St aq W (bw ρ nm x) (HD Kn nm) (fb Γ nm (.row u l 0)) w:=by
   refine h.swap (G:= []) (o:= .row u l 0) (x:=x) hnm h.fr (fun _ _ _=>rfl) (fun b hb=>by cases hb) (fun m p hp=> ?_) trivial (fun _ h=>by cases h) fun _ _=> ?_
   ·unfold fb at hp
    split at hp
    ·rename_i e1;cases hp;exact .inl ⟨e1,rfl⟩
    ·rename_i e1;exact .inr ⟨e1,by simp,hp⟩
   ·have e:bw ρ nm x nm=x:=by simp [bw]
    rw [br,e]
    refine ⟨rfl,rfl,h0.2.1,fun _=>(none,0),?_⟩
    have hfl: ∀(l:List u.T) (c:cm),c∈ay u l-> ∃v,c= .flat v:=fun l c hc=>by
     obtain ⟨y,_,hy⟩:=List.mem_flatMap.1 hc
     exact fV u h0.1 y c hy
    have hv: ∀(cs:List cm),(∀c∈cs,∃v,c= .flat v)-> ∀q,aH (fun _=>(none,0)) q cs=cs.map bK:=by
     intro cs
     induction cs with
     |nil=>intro _ q;rfl
     |cons c r ih=>
      intro hc q
      obtain ⟨v,rfl⟩:=hc c (by simp)
      simp only [aH,List.map_cons]
      rw [ih (fun c hm=>hc c (by simp [hm]))];rfl
    refine ⟨fun i v VD=> ?_,fun i u' l' hi=> ?_,fun _=>rfl,fun h=>absurd rfl h⟩
    ·rw [hv _ (hfl l)] at VD
     obtain ⟨a,e1,e2,e3⟩:=h0.2.2 i v VD
     exact ⟨a,e1,e2,fun _=>hfz _ (hok _ e3)⟩
    ·obtain ⟨v,VD⟩:=hfl l _ (List.mem_of_getElem? hi)
     cases VD
  obtain ⟨ρ',e1,e2,e3,e4⟩:=St.views v tc r (q+1) (nm+1) _ _ _ h1 (fun i hi=>by
   have:=hf (i+1) (by simpa [fJ] using hi)
   rintro (h2|h2)
   ·exact this (by rwa [show nm+(i+1)=nm+1+i by omega])
   ·omega) (fun b hb=>hfz b (hok b hb)) fun i u l hi=>by
   have:=hn (i+1) u l (by simpa using hi)
   rwa [show q+(i+1)=q+1+i by omega] at this
  have ex:ρ' nm=x:=by rw [e1 nm (.inr rfl)];simp [bw]
  rw [ZB (o:= .row u l 0) (v':=v) (ws':= []) (yw:=tc)] at e3 e4
  rw [UE (o:= .row u l 0) (v':=v) (yw:=tc) (ho:=rfl)] at e4
  refine ⟨ρ',fun m hm=>by rw [e1 m (.inl hm)];exact iP hnm m hm,?_,?_,e4⟩
  ·simp only [fJ,List.map_cons,e2,aH,Cell.ae,ex];rfl
  ·intro c hc
   simp only [fJ,List.mem_cons] at hc
   rcases hc with rfl|hc
   ·exact .inr ⟨Nat.le_refl _,by simp [fJ]⟩
   ·exact e3 c hc
where
 fV: ∀(t:Ty),t.flat=true-> ∀(x:t.T) (c:cm),c∈t.aU x-> ∃v,c= .flat v
  | .int _,_,x,c,hc=>by simp [Ty.aU] at hc;exact ⟨_,hc⟩
  | .bool,_,x,c,hc=>by simp [Ty.aU] at hc;exact ⟨_,hc⟩
  | .str,_,x,c,hc=>by simp [Ty.aU] at hc;exact ⟨_,hc⟩
  | .prod a b,h,x,c,hc=>by
   simp only [Ty.flat,Bool.and_eq_true] at h
   simp only [Ty.aU,List.mem_append] at hc
   rcases hc with hc|hc
   ·exact fV a h.1 _ c hc
   ·exact fV b h.2 _ c hc
  | .sl _,h,_,_,_=>by cases h
theorem YF {t:Ty} {l:List t.T} {j q:Nat} {c:cm} (h:j<l.length) (hq:(t.aU (gd t l j))[q]? =some c):(ay t l)[j*t.size+q]? =some c:=by
 rw [nu t l j _ q (QD h) (by have:=(List.getElem?_eq_some_iff.1 hq).1;rwa [aW] at this)];exact hq
theorem lM: ∀(cs:List cm) (ns:List Int),qM cs=some ns->cs=ns.map fun m=> .flat (.int .i64 m)
 | [],ns,h=>by simp only [qM,Option.some.injEq] at h;subst h;rfl
 |c::r,ns,h=>by
  unfold qM at h
  split at h
  ·simp_all
  ·rename_i n r' heq
   cases heq
   split at h
   ·rename_i l hl;cases h
    rw [lM r l hl];rfl
   ·cases h
  ·cases h
theorem Ho (nm:Nat): ∀(ns:List Int),fJ nm (ns.map fun m=> .flat (.int .i64 m))=(ns.map fun m=> .raw (.int .i64 m),[])
 | []=>rfl
 |n::r=>by simp only [List.map_cons,fJ,Ho nm r]
theorem Hl (nm:Nat): ∀(cs:List cm),(∀c∈cs,∃v,c= .flat v)->fJ nm cs=(cs.map fun c=>Cell.raw (bK c),[])
 | [],_=>rfl
 |c::r,h=>by
  obtain ⟨v,rfl⟩:=h c (by simp)
  simp only [fJ,Hl nm r fun c hc=>h c (by simp [hc]),List.map_cons];rfl
theorem Ji (hT:aK P ctx.tt) {t:TypeId} {i:TI} (ht:aI ctx.tt t=some i) {n j q:Nat} (h:pG i (.v (.one (.cW n j q))) hp nm k):
  ∃r,aM P ctx.X hp nm (fun Kn=>(AV.v (.one (.cW n j q))).ok Kn) (fun ρ=>Instr.loadAt t ((AV.v (.one (.cW n j q))).ae ρ)) (fun ρ=>r.val.ae ρ) r/\ k r:=by
 unfold pG at h
 dsimp only at h
 split at h
 ·rename_i u l rk he
  split at h
  ·rename_i hsz
   obtain ⟨hj,h⟩:=bk h
   simp only [decide_eq_true_eq] at hj
   generalize hvw:fJ nm (cH u l j q i.size)=z at h
   obtain ⟨cs,os⟩:=z
   dsimp only at h
   split at h
   ·rename_i v hv
    refine ⟨_,⟨fun p hp=>absurd hp (by simp),?_⟩,h⟩
    intro aq W ρ Kn Γ w _ _ je hfr hst
    have bQ:Γ n=some (.row u l rk):=by rw [je n (by simp),he]
    obtain ⟨o1,o2,o3,sub,m1,m2,m3,m4⟩:=hst.at_ n _ bQ
    have Nu:(cH u l j q i.size).length=i.size:=by simp [cH,aW];omega
    have hcg: ∀m c,(cH u l j q i.size)[m]? =some c->(ay u l)[j*u.size+q+m]? =some c:=fun m c hm=>by
     unfold cH at hm
     rw [List.getElem?_take] at hm
     split at hm
     ·rw [List.getElem?_drop] at hm
      rw [show j*u.size+q+m=j*u.size+(q+m) by omega]
      exact YF hj hm
     ·cases hm
    have hos:(fJ nm (cH u l j q i.size)).2=os:=by rw [hvw]
    have hcs:(fJ nm (cH u l j q i.size)).1=cs:=by rw [hvw]
    obtain ⟨ρ',e1,e2,e3,e4⟩:=St.views v [n] (cH u l j q i.size) (j*u.size+q) nm ρ Kn Γ hst (by rw [hos];exact hfr) (okf:=fun b=>dM ρ Γ w b) (fun _ h=>h) fun m u' l' hm=>(m2 _ u' l' (hcg m _ hm)).mono fun b hb=>⟨hb.1,rfl⟩
    rw [hos] at e3 e4
    rw [hcs] at e2 e3
    have IY: ∀m v,(aH sub (j*u.size+q) (cH u l j q i.size))[m]? =some v-> ∃a,(ρ n).base=some a/\ w.cell? (a.add (j*u.size+q+m))=some v:=fun m v hm=>by
     rw [dj] at hm
     obtain ⟨c,hc,rfl⟩:=Option.map_eq_some_iff.1 hm
     have:=m1 (j*u.size+q+m) (lH (sub (j*u.size+q+m)) c) (by rw [dj,hcg m c hc];simp)
     obtain ⟨a,a1,a2,_⟩:=this
     exact ⟨a,a1,a2⟩
    have hpos:=(hT t i ht).2.1
    obtain ⟨a,ha,_⟩: ∃a,(ρ n).base=some a/\ True:=by
     have: ∃v,(aH sub (j*u.size+q) (cH u l j q i.size))[0]? =some v:=⟨_,List.getElem?_eq_getElem (by rw [bM,Nu];exact hpos)⟩
     obtain ⟨v,hv⟩:=this
     obtain ⟨a,h1,_⟩:=IY 0 v hv
     exact ⟨a,h1,trivial⟩
    have hcell: ∀m v,(aH sub (j*u.size+q) (cH u l j q i.size))[m]? =some v->w.cell? ((a.add (j*u.size+q)).add m)=some v:=fun m v hm=>by
     obtain ⟨a',h1,h2⟩:=IY m v hm
     rw [ha] at h1;cases h1
     rw [dU];exact h2
    have hlen:(aH sub (j*u.size+q) (cH u l j q i.size)).length=i.size:=by rw [bM,Nu]
    have aeK:(loadVar t (a.add (j*u.size+q))).run P w= .ok (v.ae ρ') w/\ v.ok (mH Kn nm {val:=v,fresh:=os,aD:= [n]}):=by
     unfold uI at hv
     split at hv
     ·rename_i pZ
      cases hv
      have Dh:=run_loadCells_list (P:=P) w (a.add (j*u.size+q)) _ hcell
      rw [hlen] at Dh
      exact ⟨by simp [loadVar,hT.ag ht,pZ,hT.sz ht,Dh,AV.ae,A0.ae,e2],e3⟩
     ·rename_i pZ
      split at hv
      ·rename_i c
       cases hv
       simp only [List.map_cons,List.map_nil] at e2
       have:=hcell 0 (c.ae ρ') (by rw [<- e2];rfl)
       rw [dU,Nat.add_zero] at this
       exact ⟨by simp [loadVar,hT.ag ht,pZ,this,AV.ae,A0.ae],e3 c (by simp)⟩
      ·cases hv
    refine ⟨ρ',w,Eq.trans ?_ aeK.1,e1,aeK.2,e4⟩
    have ex:(AV.v (.one (.cW n j q))).ae ρ= .pointer (some (a.add (j*u.size+q))):=by simp [AV.ae,A0.ae,Cell.ae,ha,o2]
    show (Instr.loadAt t ((AV.v (.one (.cW n j q))).ae ρ)).run P w=_
    rw [ex]
    simp only [Instr.loadAt,Instr.sureAddr,Sem.run_bind,Sem.run_pure,Result.andThen_ok]
   ·exact h.elim
  ·exact h.elim
 ·rename_i gn c kk u gx l he
  split at h<;>try (exact h.elim)
  rename_i gm hc
  split at h<;>try (exact h.elim)
  rename_i hsz
  obtain ⟨hj,h⟩:=bk h
  simp only [decide_eq_true_eq] at hj
  split at h<;>try (exact h.elim)
  rename_i v hv
  refine ⟨_,aM.pure fun aq W ρ Kn Γ w _ _ je hst=> ?_,h⟩
  have bQ:Γ n=some (.gv gn c kk u gx l):=by rw [je n (by simp),he]
  obtain ⟨_,o1,o2,_,huf,o4⟩:=hst.at_ n _ bQ
  have hfl: ∀x∈cH u l j q i.size,∃v,x= .flat v:=fun x hx=>St.views.fV u huf _ x (List.mem_of_mem_drop (List.mem_of_mem_take hx))
  rw [Hl _ _ hfl] at hv
  rcases o4 with ⟨e0,_⟩|⟨e,b,h1,h2,_,h4,h5,_,_,h8,_⟩
  ·rw [e0] at hj;exact absurd hj (Nat.not_lt_zero _)
  have Zg:=hst.at_ c _ (by rw [je c (by simp),hc])
  rcases Zg.2.1 e h1 with ⟨h9,_⟩|⟨b',rest,tt',h9,_,h11,_⟩
  ·rw [h9] at h2;cases h2
  rw [h2] at h9;cases h9
  rw [h8] at h11
  have ha:(ρ n).base=some ⟨b,0,none⟩:=by rw [<- h4,h5]
  have hcell: ∀m v,((cH u l j q i.size).map bK)[m]? =some v->w.cell? ((⟨b,0,none⟩:Addr).add (j*u.size+q)|>.add m)=some v:=fun m v hm=>by
   rw [dU]
   have e1:(⟨b,0,none⟩:Addr).add (j*u.size+q+m)=⟨b,j*u.size+q+m,none⟩:=by unfold Addr.add;split<;>simp_all
   rw [e1,bL h11]
   rw [List.getElem?_map] at hm
   obtain ⟨x,hx,rfl⟩:=Option.map_eq_some_iff.1 hm
   unfold cH at hx
   rw [List.getElem?_take] at hx
   split at hx
   ·rw [List.getElem?_drop] at hx
    have:=YF hj hx
    have h12:(bh u l)[j*u.size+q+m]? =some (bK x):=by
     unfold bh
     rw [List.getElem?_map,show j*u.size+q+m=j*u.size+(q+m) by omega,this];rfl
    rw [List.getElem?_append_left (List.getElem?_eq_some_iff.1 h12).1];exact h12
   ·cases hx
  have hlen:((cH u l j q i.size).map bK).length=i.size:=by simp [cH,aW];omega
  have ex:(AV.v (.one (.cW n j q))).ae ρ= .pointer (some ((⟨b,0,none⟩:Addr).add (j*u.size+q))):=by simp [AV.ae,A0.ae,Cell.ae,ha,o2]
  have hcc:((cH u l j q i.size).map fun c=>Cell.raw (bK c)).map (Cell.ae ρ)=(cH u l j q i.size).map bK:=by
   rw [List.map_map];rfl
  refine ⟨?_,?_⟩
  ·show (Instr.loadAt t ((AV.v (.one (.cW n j q))).ae ρ)).run P w=_
   rw [ex]
   simp only [Instr.loadAt,Instr.sureAddr,Sem.run_bind,Sem.run_pure,Result.andThen_ok]
   unfold uI at hv
   split at hv
   ·rename_i pZ
    cases hv
    have Dh:=run_loadCells_list (P:=P) w ((⟨b,0,none⟩:Addr).add (j*u.size+q)) _ hcell
    rw [hlen] at Dh
    simp [loadVar,hT.ag ht,pZ,hT.sz ht,Dh,AV.ae,A0.ae,hcc]
   ·rename_i pZ
    split at hv
    ·rename_i c0 hc0
     cases hv
     have afX:=hcc
     dsimp only at hc0
     rw [hc0] at afX
     simp only [List.map_cons,List.map_nil] at afX
     have:=hcell 0 (c0.ae ρ) (by rw [<- afX];rfl)
     rw [dU,Nat.add_zero] at this
     simp [loadVar,hT.ag ht,pZ,this,AV.ae,A0.ae]
    ·cases hv
  ·unfold uI at hv
   have hok: ∀c∈(cH u l j q i.size).map fun c=>Cell.raw (bK c),c.ok Kn:=fun c hc=>by
    obtain ⟨_,_,rfl⟩:=List.mem_map.1 hc;trivial
   split at hv
   ·cases hv;exact hok
   ·split at hv
    ·rename_i c0 hc0
     cases hv
     dsimp only at hc0
     exact hok c0 (by rw [hc0];simp)
    ·cases hv
 ·rename_i cs he
  split at h<;>try (exact h.elim)
  rename_i hj;subst hj
  have Df: ∀ {aq:e8} {W:World} {ρ:Env} {Kn:Nat->Prop} {Γ:HP} {w:World},(∀m∈ [n],Γ m=hp m)->St aq W ρ Kn Γ w-> ∀m c,cs[q+m]? =some c-> ∃a,(ρ n).base=some a/\ w.cell? ((a.add q).add m)=some (c.ae ρ):=fun je hst m c hm=>by
   have g:=hst.at_ n (.rc cs) (by rw [je n (by simp),he])
   obtain ⟨a,h1,h2,_⟩:=g.2 _ _ hm
   exact ⟨a,h1,by rw [dU];exact h2⟩
  have ex: ∀ {ρ:Env} {a:Addr},(ρ n).base=some a->(AV.v (.one (.cW n 0 q))).ae ρ= .pointer (some (a.add q)):=fun ha=>by simp [AV.ae,A0.ae,Cell.ae,ha]
  unfold zA at h
  split at h
  ·rename_i pZ
   split at h
   ·rename_i hl
    refine ⟨_,aM.pure ?_,h⟩
    intro aq W ρ Kn Γ w _ _ je hst
    have bQ:Γ n=some (.rc cs):=by rw [je n (by simp),he]
    have hpos:=(hT t i ht).2.1
    obtain ⟨c0,hc0⟩: ∃c,cs[q+0]? =some c:=⟨_,List.getElem?_eq_getElem (by omega)⟩
    obtain ⟨a,ha,_⟩:=Df je hst 0 c0 hc0
    have hcell: ∀m v,(((cs.drop q).take i.size).map (Cell.ae ρ))[m]? =some v->w.cell? ((a.add q).add m)=some v:=fun m v hm=>by
     rw [List.getElem?_map] at hm
     obtain ⟨c,hc,rfl⟩:=Option.map_eq_some_iff.1 hm
     rw [List.getElem?_take] at hc
     split at hc
     ·rw [List.getElem?_drop] at hc
      obtain ⟨a',h1,h2⟩:=Df je hst m c hc
      rw [ha] at h1;cases h1;exact h2
     ·cases hc
    have Dh:=run_loadCells_list (P:=P) w (a.add q) _ hcell
    have hlen:(((cs.drop q).take i.size).map (Cell.ae ρ)).length=i.size:=by simp;omega
    rw [hlen] at Dh
    refine ⟨?_,fun c hc=>(hst.kn n _ bQ).2 c (List.mem_of_mem_drop (List.mem_of_mem_take hc))⟩
    show (Instr.loadAt t ((AV.v (.one (.cW n 0 q))).ae ρ)).run P w=_
    rw [ex ha]
    simp only [Instr.loadAt,Instr.sureAddr,Sem.run_bind,Sem.run_pure,Result.andThen_ok]
    simp [loadVar,hT.ag ht,pZ,hT.sz ht,Dh,AV.ae,A0.ae]
   ·exact h.elim
  ·rename_i pZ
   split at h
   ·rename_i c hc
    refine ⟨_,aM.pure ?_,h⟩
    intro aq W ρ Kn Γ w _ _ je hst
    have bQ:Γ n=some (.rc cs):=by rw [je n (by simp),he]
    obtain ⟨a,ha,h2⟩:=Df je hst 0 c hc
    rw [dU,Nat.add_zero] at h2
    refine ⟨?_,(hst.kn n _ bQ).2 c (List.mem_of_getElem? hc)⟩
    show (Instr.loadAt t ((AV.v (.one (.cW n 0 q))).ae ρ)).run P w=_
    rw [ex ha]
    simp only [Instr.loadAt,Instr.sureAddr,Sem.run_bind,Sem.run_pure,Result.andThen_ok]
    simp [loadVar,hT.ag ht,pZ,h2,AV.ae,A0.ae]
   ·exact h.elim
 ·exact h.elim
theorem adu {i:TI} {n j q:Nat} (h:pG i (.v (.one (.fB n j q))) hp nm k):pG i (.v (.one (.cW n j q))) hp nm k:=by
 unfold pG at h ⊢
 dsimp only at h ⊢
 split at h
 ·rename_i u l rk he
  split at h
  ·rename_i ns Mt
   obtain ⟨h1,h⟩:=bk h
   obtain ⟨h2,h⟩:=bk h
   simp only [decide_eq_true_eq] at h1
   have hl:ns.length=u.size:=by
    have:=aW u (gd u l j)
    rw [lM _ _ Mt] at this
    simpa using this
   have e:fJ nm (cH u l j q i.size)=(pS ns q i.size,[]):=by
    unfold cH
    rw [lM _ _ Mt,<- List.map_drop,<- List.map_take,Ho,vC _ _ _ (by omega),<- List.map_drop,<- List.map_take]
   rw [he]
   dsimp only
   rw [if_pos h1,h2,e]
   exact h
  ·exact h.elim
 ·exact h.elim
theorem VY (hT:aK P ctx.tt) {t:TypeId} {i:TI} (ht:aI ctx.tt t=some i) {x:AV} (h:pG i x hp nm k):
  ∃r,aM P ctx.X hp nm (fun Kn=>x.ok Kn) (fun ρ=>Instr.loadAt t (x.ae ρ)) (fun ρ=>r.val.ae ρ) r/\ k r:=by
 unfold pG at h
 split at h
 ·rename_i n off
  split at h
  ·rename_i cs e he
   obtain ⟨r,h1,h2⟩:=VX (nm:=nm) hT ht he h
   exact ⟨r,⟨h1.1,fun aq W ρ Kn Γ w a _ c d e=>h1.2 aq W ρ Kn Γ w a trivial c d e⟩,h2⟩
  ·exact h.elim
 ·rename_i n off
  split at h
  ·rename_i cs e he
   split at h
   ·rename_i ns Mt
    obtain ⟨hl,h⟩:=bk h
    simp only [decide_eq_true_eq] at hl
    split at h
    ·rename_i v hv
     refine ⟨_,aM.pure ?_,h⟩
     intro aq W ρ Kn Γ w _ _ je hst
     have bQ:Γ n=some (.cells cs e):=by rw [je n (by simp),he]
     obtain ⟨b,hb,hh⟩:=hst.at_ n _ bQ
     have ecs:=gP ρ cs ns Mt
     have hlen:cs.length=ns.length:=by rw [ecs];simp
     have aR:pS ns off i.size=(cs.drop off).take i.size:=by rw [vC _ _ _ (by omega),<- ecs]
     rw [aR] at hv
     have hrun:=kH hT ht (off:=off) (w:=w) (rest:= []) (cs:=cs.map (Cell.ae ρ)) (b:=b) (e:=e) (by simpa using hh)
     unfold uI at hv
     split at hv
     ·rename_i ha
      cases hv
      refine ⟨?_,fun c hc=>(hst.kn n _ bQ).2 c (List.mem_of_mem_drop (List.mem_of_mem_take hc))⟩
      have:=hrun.1 ha (by simpa using hl)
      simp only [Instr.loadAt,Instr.sureAddr,AV.ae,A0.ae,Cell.ae,addrOf,hb,Option.map_some,Sem.run_bind,Sem.run_pure,Result.andThen_ok,this,gK]
     ·rename_i ha
      split at hv
      ·rename_i c hc
       cases hv
       have hcs:cs[off]? =some c:=by
        have h0:((cs.drop off).take i.size)[0]? =some c:=by rw [hc];rfl
        rw [List.getElem?_take] at h0
        split at h0
        ·rw [List.getElem?_drop] at h0;simpa using h0
        ·cases h0
       refine ⟨?_,(hst.kn n _ bQ).2 c (List.mem_of_getElem? hcs)⟩
       have:=hrun.2 (by simpa using ha) (c.ae ρ) (by simp [hcs])
       simp only [Instr.loadAt,Instr.sureAddr,AV.ae,A0.ae,Cell.ae,addrOf,hb,Option.map_some,Sem.run_bind,Sem.run_pure,Result.andThen_ok,this]
      ·cases hv
    ·exact h.elim
   ·exact h.elim
  ·exact h.elim
 ·rename_i n j q
  exact Ji hT ht (by unfold pG;exact h)
 ·rename_i n j q
  exact Ji hT ht (adu (by unfold pG;exact h))
 ·exact h.elim
theorem lQ {α β:Type} (f:α->β): ∀(ys cs:List α) (off:Nat),(setCells cs off ys).map f=setCells (cs.map f) off (ys.map f)
 | [],_,_=>rfl
 |y::r,cs,off=>by simp only [setCells,List.map_cons];rw [lQ f r];simp [List.map_set]
theorem mA {ρ:Env} {n b off:Nat} (hb:(ρ n).blk=some b):(AV.v (.one (.ptr n off))).ae ρ= .pointer (some ⟨b,off,none⟩):=by
 simp [AV.ae,A0.ae,Cell.ae,addrOf,hb]
theorem nE {ρ:Env} {n b off:Nat} (hb:(ρ n).blk=some b):(AV.v (.one (.lY n off))).ae ρ= .pointer (some ⟨b,off,none⟩):=by
 simp [AV.ae,A0.ae,Cell.ae,addrOf,hb]
theorem uQ (hT:aK P ctx.tt) {t:TypeId} {i:TI} (ht:aI ctx.tt t=some i) {a:Addr} {v:Value} {vs:List Value} (hv:v.cells=vs.toArray) (hl:vs.length=i.size) (w:World):
  (Instr.storeAt t (.pointer (some a)) v).run P w=(storeCells a vs).run P w:=by
 simp [Instr.storeAt,Instr.sureAddr,storeVar,hT.sz ht,hv,hl]
theorem tS: ∀(ys:List Cell) (ps:List cm),fD ys=some ps->ps.length=ys.length/\ nX ys=true/\ ∀(ρ:Env),ys.map (Cell.ae ρ)=ps.map bK/\ ∀c∈ps,∃v,c= .flat v
 | [],ps,h=>by simp only [fD,Option.some.injEq] at h;subst h;exact ⟨rfl,rfl,fun ρ=>⟨rfl,by simp⟩⟩
 |y::r,ps,h=>by
  unfold fD at h
  split at h
  ·simp_all
  ·rename_i v r' heq
   cases heq
   have main: ∀qs,fD r=some qs->uL v=true->(cm.flat v::qs).length=(Cell.raw v::r).length/\ nX (Cell.raw v::r)=true/\ ∀(ρ:Env),(Cell.raw v::r).map (Cell.ae ρ)=(cm.flat v::qs).map bK/\ ∀c∈(cm.flat v::qs),∃v,c= .flat v:=fun qs hq hv=>by
    obtain ⟨h1,h2,h3⟩:=tS r qs hq
    refine ⟨by simp [h1],by simp [nX,Cell.one,hv,h2],fun ρ=>⟨by simp [(h3 ρ).1,Cell.ae,bK],fun c hc=> ?_⟩⟩
    rcases List.mem_cons.1 hc with rfl|hc
    ·exact ⟨v,rfl⟩
    ·exact (h3 ρ).2 c hc
   split at h<;>try (cases h;done)
   all_goals
    obtain ⟨qs,hq,rfl⟩:=Option.map_eq_some_iff.1 h
    exact main qs hq rfl
  ·cases h
theorem K3 {c:cm} (h: ∃v,c= .flat v) (s:Option Addr×Nat):lH s c=bK c:=by obtain ⟨v,rfl⟩:=h;rfl
theorem eY {α:Type} : ∀(ys cs:List α) (off i:Nat),off+ys.length<=cs.length->(setCells cs off ys)[i]? =if off<=i/\ i<off+ys.length then ys[i- off]? else cs[i]? :=by
 intro ys cs off i h
 rw [iM ys cs off h]
 simp only [List.getElem?_append,List.length_append,List.length_take,List.getElem?_take,List.getElem?_drop]
 grind
theorem sx (t:Ty) (x':t.T): ∀(l:List t.T) (j:Nat),j<l.length->ay t (l.set j x')=setCells (ay t l) (j*t.size) (t.aU x')
 | [],j,h=>by simp at h
 |x::r,0,_=>by
  simp only [List.set_cons_zero,ay,List.flatMap_cons,Nat.zero_mul]
  rw [iM _ _ _ (by simp [aW])]
  simp [aW]
 |x::r,j+1,h=>by
  simp only [List.length_cons] at h
  have hl:=bD t r
  have ih:=sx t x' r j (by omega)
  have hb:j*t.size+t.size<=r.length*t.size:=by rw [<- Nat.succ_mul];exact Nat.mul_le_mul_right _ (by omega)
  simp only [List.set_cons_succ,ay,List.flatMap_cons] at ih hl ⊢
  rw [ih]
  apply List.ext_getElem?
  intro i
  have e:(j+1)*t.size=j*t.size+t.size:=Nat.succ_mul _ _
  rw [eY _ _ _ _ (by rw [List.length_append,aW,aW,hl,e];omega),List.getElem?_append,eY _ _ _ _ (by rw [aW,hl];omega),List.getElem?_append]
  simp only [aW,e]
  by_cases h1:i<t.size
  ·rw [if_pos h1,if_pos h1,if_neg (by omega)]
  ·rw [if_neg h1,if_neg h1]
   by_cases h2:j*t.size<=i- t.size/\ i- t.size<j*t.size+t.size
   ·rw [if_pos h2,if_pos (by omega),show i- (j*t.size+t.size)=i- t.size- j*t.size by omega]
   ·rw [if_neg h2,if_neg (by omega)]
theorem NK: ∀(ms:List Int),nX (ms.map fun n=>Cell.raw (.int .i64 n))=true
 | []=>rfl
 |a::r=>by simp [nX,Cell.one,uL,NK r]
theorem St.drop {aq:e8} {W:World} {ρ:Env} {Kn:Nat->Prop} {Γ wO:HP} {w:World} (h:St aq W ρ Kn Γ w) (hs: ∀x p,wO x=some p->Γ x=some p):St aq W ρ Kn wO w:=by
 have hL: ∀b,LO ρ wO b->LO ρ Γ b:=fun b hb=>by
  rcases hb with ⟨m,h1,h2⟩|⟨m,S,h1,h2⟩
  ·obtain ⟨o,ho⟩:=Option.isSome_iff_exists.1 h1
   exact .inl ⟨m,by rw [hs m o ho];rfl,h2⟩
  ·exact .inr ⟨m,S,hs m _ h1,h2⟩
 have hsm: ∀m,(wO m).isSome=true->(Γ m).isSome=true:=fun m hm=>by
  obtain ⟨o,ho⟩:=Option.isSome_iff_exists.1 hm
  rw [hs m o ho];rfl
 exact ⟨h.fr,fun n o ho=>cq (Kn:=Kn) (h.at_ n o (hs n o ho)) (fun _ _=>rfl) (h.kn n o (hs n o ho)).1 (h.kn n o (hs n o ho)).2 (fun b hb=>⟨⟨hb.1,fun q=>hb.2 (hL b q)⟩,rfl⟩) (fun _ _ h=>h) fun _ _=>rfl,
  fun n o ho=>h.kn n o (hs n o ho),fun n m b hn hm=>h.dK n m b (hsm n hn) (hsm m hm),fun n b hn=>h.jX n b (hsm n hn),fun b ⟨m,S,h1,h2⟩=>⟨(h.oK b ⟨m,S,hs m _ h1,h2⟩).1,fun ⟨m',h3,h4⟩=>(h.oK b ⟨m,S,hs m _ h1,h2⟩).2 ⟨m',hsm m' h3,h4⟩⟩,fun n o ho=>h.sR n o (hs n o ho)⟩
theorem Sb (hT:aK P ctx.tt) {t:TypeId} {i:TI} (ht:aI ctx.tt t=some i) {n j q:Nat} {y:AV} {ys:List Cell} (hys:y.cells=some ys) (hsz:ys.length=i.size) {u:Ty} {l:List u.T} {rk:Nat} (he:hp n=some (.row u l rk)) (p9: ¬rk=0) (h:R9 u l rk n j q ys hp k):
  ∃r,aM P ctx.X hp nm (fun Kn=>(AV.v (.one (.cW n j q))).ok Kn/\ y.ok Kn) (fun ρ=>Instr.storeAt t ((AV.v (.one (.cW n j q))).ae ρ) (y.ae ρ)) (fun _=>()) r/\ r.val=ck/\ k r:=by
 unfold R9 at h
 split at h
 rotate_left
 ·exact h.elim
 rename_i m
 split at h
 rotate_left
 ·exact h.elim
 rename_i u' lm rm hm
 split at h
 ·exact h.elim
 rename_i hc
 simp only [not_or] at hc
 obtain ⟨hrm,Zf,hmn,huf,hq⟩:=hc
 have huf:u'.flat=true:=by simpa using huf
 split at h
 rotate_left
 ·exact h.elim
 rename_i x' hx'
 obtain ⟨hj,h⟩:=bk h
 have h:=h.2 _ rfl
 simp only [decide_eq_true_eq] at hj
 refine ⟨_,⟨fun p eW=> ?_,?_⟩,rfl,h⟩
 ·simp only [List.mem_cons,List.not_mem_nil,or_false] at eW
  rcases eW with rfl|rfl
  ·rw [he];simp
  ·rw [hm];simp
 intro aq W ρ Kn Γ w _ hk je _ hst
 have bQ:Γ n=some (.row u l rk):=by rw [je n (by simp),he]
 have ade:Γ m=some (.row u' lm rm):=by rw [je m (by simp),hm]
 obtain ⟨o1,o2,o3,sub,m1,m2,m3,m4⟩:=hst.at_ n _ bQ
 obtain ⟨p1,p2,p3,ajp,q1,q2,q3,q4⟩:=hst.at_ m _ ade
 rcases (m4 p9).old Zf with ⟨_,h0,_⟩|⟨b,rest,e,hb,hbase,hh,hcap⟩
 ·subst h0;simp at hj
 have E5:u.aU x'=setCells (u.aU (gd u l j)) q [.sl u' lm]:=by
  have:=ni u _ _ _ hx';rw [List.append_nil] at this;exact this.symm
 have hrl:=bD u l
 have hjl:j*u.size+u.size<=l.length*u.size:=by rw [<- Nat.succ_mul];exact Nat.mul_le_mul_right _ (by omega)
 have HS: ∀x,(ay u (l.set j x'))[x]? =if x=j*u.size+q then some (.sl u' lm) else (ay u l)[x]? :=fun x=>by
  rw [sx u x' l j hj,eY _ _ _ _ (by rw [aW];omega),aW,E5]
  by_cases h1:j*u.size<=x/\ x<j*u.size+u.size
  ·rw [if_pos h1,eY _ _ _ _ (by rw [aW];simp;omega)]
   by_cases h2:x=j*u.size+q
   ·subst h2
    rw [if_pos rfl,if_pos (by constructor<;>simp<;>omega)]
    have:j*u.size+q- j*u.size- q=0:=by omega
    rw [this];rfl
   ·rw [if_neg (by simp;omega),if_neg h2]
    have:=nu u l j _ (x- j*u.size) (QD hj) (by omega)
    rw [show j*u.size+(x- j*u.size)=x by omega] at this
    exact this.symm
  ·rw [if_neg h1,if_neg (by omega)]
 obtain ⟨sub',S7⟩: ∃sub':Nat->Option Addr×Nat,sub'=fun x=>if x=j*u.size+q then ((ρ m).base,(ρ m).cap) else sub x:=⟨_,rfl⟩
 have IY:aH sub' 0 (ay u (l.set j x'))=setCells (aH sub 0 (ay u l)) (j*u.size+q) ([Cell.full m].map (Cell.ae ρ)):=by
  apply List.ext_getElem?
  intro x
  rw [dj,HS,eY _ _ _ _ (by rw [bM];simp;omega),dj]
  by_cases h1:x=j*u.size+q
  ·subst h1
   rw [if_pos rfl,if_pos (by simp),Nat.sub_self,S7]
   simp [lH,Cell.ae,p1]
  ·rw [if_neg h1,if_neg (by simp;omega),S7,Nat.zero_add]
   simp only [if_neg h1]
 have hlt:j*u.size+q+1<=(aH sub 0 (ay u l)).length:=by rw [bM,hrl];omega
 have hrun:(Instr.storeAt t ((AV.v (.one (.cW n j q))).ae ρ) (y.ae ρ)).run P w= .ok () (w.setRow b (aH sub' 0 (ay u (l.set j x'))++rest).toArray):=by
  have hst:=run_storeCells_at P b (j*u.size+q) e ([Cell.full m].map (Cell.ae ρ)) 0 _ w hh (by simp;omega) (oN [Cell.full m] rfl ρ)
  have ex:(AV.v (.one (.cW n j q))).ae ρ= .pointer (some ⟨b,j*u.size+q,none⟩):=by
   simp only [AV.ae,A0.ae,Cell.ae,hbase,o2,Option.map_some]
   unfold Addr.add;split<;>simp_all
  rw [ex,uQ hT ht (AV.jB hys ρ) (by simpa using hsz),hst,IY]
  congr 2
  simp only [Nat.add_zero,List.length_map]
  rw [iM _ _ _ (by simpa using hlt)]
  rw [List.take_append_of_le_length (by omega),List.drop_append_of_le_length (by simp;omega)]
  simp
 refine ⟨ρ,_,hrun,fun _ _=>rfl,fun a ha=>absurd ha (by simp),?_⟩
 obtain ⟨Γ2,QW⟩: ∃Γ2:HP,Γ2=fun x=>if x=m then none else Γ x:=⟨_,rfl⟩
 have Bp:St aq W ρ Kn Γ2 w:=hst.drop fun x p eW=>by
  rw [QW] at eW
  dsimp only at eW
  split at eW
  ·cases eW
  ·exact eW
 have aiR:Γ2 n=some (.row u l rk):=by rw [QW];dsimp only;rw [if_neg (Ne.symm hmn)];exact bQ
 have akF:bU {val:=ck,writes:= [(n,.row u (l.set j x') rk),(m,.gone)],aD:= [n,m]} nm Γ=fb Γ2 n (.row u (l.set j x') rk):=by
  funext x
  simp only [bU,fb,bZ,List.length_nil,QW]
  rw [if_neg (by omega)]
  by_cases h1:m=x
  ·subst h1
   simp [live,hmn]
  ·by_cases h2:n=x
   ·subst h2;simp [h1,live]
   ·simp [h1,h2,Ne.symm h1,Ne.symm h2]
 rw [fh,akF]
 refine Bp.write aiR hb trivial (fun _ h=>by cases h) fun hfz=> ?_
 have QM: ∀b',dM ρ Γ w b'->dM ρ Γ2 w b':=fun b' hb'=>⟨hb'.1,by
  rintro (⟨x,h1,h2⟩|⟨x,S,h1,h2⟩)
  ·rw [QW] at h1
   dsimp only at h1
   split at h1
   ·cases h1
   ·exact hb'.2 (.inl ⟨x,h1,h2⟩)
  ·rw [QW] at h1
   dsimp only at h1
   split at h1
   ·cases h1
   ·exact hb'.2 (.inr ⟨x,S,h1,h2⟩)⟩
 have Xi: ∀b',(ρ m).blk=some b'->bn w b'->dM ρ Γ2 w b':=fun b' hb' Lp=>⟨Lp,by
  rintro (⟨x,h1,h2⟩|⟨x,S,h1,h2⟩)
  ·rw [QW] at h1
   dsimp only at h1
   split at h1
   ·cases h1
   ·rename_i hx
    exact hx (hst.dK x m b' h1 (by rw [ade];rfl) h2 (.inl hb'))
  ·rw [QW] at h1
   dsimp only at h1
   split at h1
   ·cases h1
   ·exact (hst.oK b' ⟨x,S,h1,h2⟩).2 ⟨m,by rw [ade];rfl,.inl hb'⟩⟩
 have P9:=setRow_heap w b _ (aH sub' 0 (ay u (l.set j x'))++rest).toArray _ _ hh
 refine ⟨by simpa using o1,o2,by simpa using o3,sub',fun x v hx=> ?_,fun x u2 l2 hx=> ?_,m3,fun _=>ik.new (.inr ⟨b,rest,e,hb,hbase,P9,?_⟩)⟩
 ·refine ⟨_,hbase,?_,fun e=>absurd e p9⟩
  have e1:(⟨b,0,none⟩:Addr).add x=⟨b,x,none⟩:=by unfold Addr.add;split<;>simp_all
  rw [e1,bL P9,List.getElem?_append_left (List.getElem?_eq_some_iff.1 hx).1];exact hx
 ·rw [HS] at hx
  split at hx
  ·rename_i hx0
   cases hx
   have es:sub' x=((ρ m).base,(ρ m).cap):=by rw [S7,hx0];simp
   rw [es]
   refine ⟨huf,p3,fun i v hv=> ?_⟩
   have hvs:aH ajp 0 (ay u' lm)=bh u' lm:=by
    unfold bh
    have: ∀(cs:List cm) (z:Nat),(∀c∈cs,∃v,c= .flat v)->aH ajp z cs=cs.map bK:=by
     intro cs
     induction cs with
     |nil=>intro _ _;rfl
     |cons c r ih=>
      intro z hz
      obtain ⟨v,rfl⟩:=hz c (by simp)
      simp only [aH,List.map_cons,ih (z+1) fun c hc=>hz c (by simp [hc])]
      rfl
    exact this _ 0 fun c hc=>by
     obtain ⟨x2,_,h2⟩:=List.mem_flatMap.1 hc
     exact St.views.fV u' huf x2 c h2
   obtain ⟨a,k1,k2,_⟩:=q1 i v (by rw [hvs];exact hv)
   rcases q4 hrm with ⟨_,h0,_⟩|⟨bm,aoA,amZ,em,hbm,YS,hhm,amh⟩
   ·rw [List.eq_nil_of_length_eq_zero h0] at hv;simp [bh,ay] at hv
   ·rw [YS] at k1
    cases k1
    have hcb:bn w bm:=⟨_,_,_,hhm⟩
    obtain ⟨f1,f2⟩:=hfz bm (Xi bm hbm hcb)
    refine ⟨_,YS,?_,f1,fun _=>⟨(hst.own m bm (by rw [ade];rfl) hbm).imp_right .inl,(Qd.of hhm).same f2⟩⟩
    rw [<- k2]
    exact World.cell?_of_block (by rw [fx];exact f2)
  ·rename_i hx0
   have es:sub' x=sub x:=by rw [S7];exact if_neg hx0
   rw [es]
   exact (m2 x _ _ hx).mono fun b' hb'=>⟨⟨(hfz b' (QM b' hb'.1)).1,fun e=>⟨(hb'.2 e).1,(hb'.2 e).2.same (hfz b' (QM b' hb'.1)).2⟩⟩,(hfz b' (QM b' hb'.1)).2⟩
 ·exact ⟨by rw [hcap.1];simp [bM,bD],hcap.2⟩
theorem GY (hT:aK P ctx.tt) {t:TypeId} {i:TI} (ht:aI ctx.tt t=some i) {n j q:Nat} {y:AV} (h:oG i (.v (.one (.cW n j q))) y hp k):
  ∃r,aM P ctx.X hp nm (fun Kn=>(AV.v (.one (.cW n j q))).ok Kn/\ y.ok Kn) (fun ρ=>Instr.storeAt t ((AV.v (.one (.cW n j q))).ae ρ) (y.ae ρ)) (fun _=>()) r/\ r.val=ck/\ k r:=by
 unfold oG at h
 cases hys:y.cells with
 |none=>rw [hys] at h;exact h.elim
 |some ys=>
 rw [hys] at h
 dsimp only at h
 split at h
 ·rename_i hsz
  split at h
  ·rename_i u l rk he
   split at h
   ·exact h.elim
   ·rename_i p9
    obtain ⟨p9,Zf⟩:=not_or.1 p9
    split at h
    ·rename_i ps hps
     split at h
     ·rename_i hq
      split at h
      ·rename_i x' hx'
       obtain ⟨hj,h⟩:=bk h
       have h:=h.2 _ rfl
       simp only [decide_eq_true_eq] at hj
       refine ⟨_,⟨fun p eW=>by simp at eW;subst eW;rw [he];simp,?_⟩,rfl,h⟩
       intro aq W ρ Kn Γ w _ hk je _ hst
       have bQ:Γ n=some (.row u l rk):=by rw [je n (by simp),he]
       obtain ⟨o1,o2,o3,sub,m1,m2,m3,m4⟩:=hst.at_ n _ bQ
       rcases (m4 p9).old Zf with ⟨_,h0,_⟩|⟨b,rest,e,hb,hbase,hh,hcap⟩
       ·subst h0;simp at hj
       obtain ⟨w7,hone,hpc⟩:=tS ys ps hps
       have E5:u.aU x'=setCells (u.aU (gd u l j)) q ps:=by
        have:=ni u _ _ _ hx';rw [List.append_nil] at this;exact this.symm
       have hrl:=bD u l
       have hjl:j*u.size+u.size<=l.length*u.size:=by rw [<- Nat.succ_mul];exact Nat.mul_le_mul_right _ (by omega)
       have HS: ∀m,(ay u (l.set j x'))[m]? =if j*u.size+q<=m/\ m<j*u.size+q+ps.length then ps[m- (j*u.size+q)]? else (ay u l)[m]? :=fun m=>by
        rw [sx u x' l j hj,eY _ _ _ _ (by rw [aW];omega),aW,E5]
        by_cases h1:j*u.size<=m/\ m<j*u.size+u.size
        ·rw [if_pos h1,eY _ _ _ _ (by rw [aW];omega)]
         by_cases h2:q<=m- j*u.size/\ m- j*u.size<q+ps.length
         ·rw [if_pos h2,if_pos (by omega),show m- j*u.size- q=m- (j*u.size+q) by omega]
         ·rw [if_neg h2,if_neg (by omega)]
          have:=nu u l j _ (m- j*u.size) (QD hj) (by omega)
          rw [show j*u.size+(m- j*u.size)=m by omega] at this
          exact this.symm
        ·rw [if_neg h1,if_neg (by omega)]
       have IY:aH sub 0 (ay u (l.set j x'))=setCells (aH sub 0 (ay u l)) (j*u.size+q) (ys.map (Cell.ae ρ)):=by
        apply List.ext_getElem?
        intro m
        rw [dj,HS,eY _ _ _ _ (by rw [bM];simp;omega),dj,(hpc ρ).1]
        simp only [List.length_map,List.getElem?_map]
        by_cases h1:j*u.size+q<=m/\ m<j*u.size+q+ps.length
        ·rw [if_pos h1,if_pos h1]
         cases hm:ps[m- (j*u.size+q)]? with
         |none=>rfl
         |some c=>exact congrArg some (K3 ((hpc ρ).2 c (List.mem_of_getElem? hm)) _)
        ·rw [if_neg h1,if_neg h1]
       have hlt:j*u.size+q+ys.length<=(aH sub 0 (ay u l)).length:=by rw [bM,hrl];omega
       have hrun:(Instr.storeAt t ((AV.v (.one (.cW n j q))).ae ρ) (y.ae ρ)).run P w= .ok () (w.setRow b (aH sub 0 (ay u (l.set j x'))++rest).toArray):=by
        have hst:=run_storeCells_at P b (j*u.size+q) e (ys.map (Cell.ae ρ)) 0 _ w hh (by simp;omega) (oN ys hone ρ)
        have ex:(AV.v (.one (.cW n j q))).ae ρ= .pointer (some ⟨b,j*u.size+q,none⟩):=by
         simp only [AV.ae,A0.ae,Cell.ae,hbase,o2,Option.map_some]
         unfold Addr.add;split<;>simp_all
        rw [ex,uQ hT ht (AV.jB hys ρ) (by simpa using hsz),hst,IY]
        congr 2
        simp only [Nat.add_zero,List.length_map]
        rw [iM _ _ _ (by simpa using hlt)]
        rw [List.take_append_of_le_length (by omega),List.drop_append_of_le_length (by omega)]
        simp
       refine ⟨ρ,_,hrun,fun _ _=>rfl,fun a ha=>absurd ha (by simp),?_⟩
       rw [fh,kS _ _ _ _ _ _ rfl]
       refine hst.write bQ hb trivial (fun _ h=>by cases h) fun hfz=> ?_
       have P9:=setRow_heap w b _ (aH sub 0 (ay u (l.set j x'))++rest).toArray _ _ hh
       refine ⟨by simpa using o1,o2,by simpa using o3,sub,fun m v hm=> ?_,fun m u' l' hm=> ?_,m3,fun _=>ik.new (.inr ⟨b,rest,e,hb,hbase,P9,?_⟩)⟩
       ·refine ⟨_,hbase,?_,fun e=>absurd e p9⟩
        have e1:(⟨b,0,none⟩:Addr).add m=⟨b,m,none⟩:=by unfold Addr.add;split<;>simp_all
        rw [e1,bL P9,List.getElem?_append_left (List.getElem?_eq_some_iff.1 hm).1];exact hm
       ·rw [HS] at hm
        split at hm
        ·obtain ⟨v,hv⟩:=(hpc ρ).2 _ (List.mem_of_getElem? hm);cases hv
        ·exact (m2 m u' l' hm).mono fun b' hb'=>⟨⟨(hfz b' hb'.1).1,fun e=>⟨(hb'.2 e).1,(hb'.2 e).2.same (hfz b' hb'.1).2⟩⟩,(hfz b' hb'.1).2⟩
       ·exact ⟨by rw [hcap.1];simp [bM,bD],hcap.2⟩
      ·exact h.elim
     ·exact h.elim
    ·exact Sb hT ht hys hsz he p9 h
  ·exact h.elim
 ·exact h.elim
theorem tR: ∀(ms:List Int),fD (ms.map fun m=>Cell.raw (.int .i64 m))=some (ms.map fun m=> .flat (.int .i64 m))
 | []=>rfl
 |m::r=>by simp only [List.map_cons,fD,tR r,Option.map_some]
theorem aaU {i:TI} {n j q:Nat} {y:AV} (h:oG i (.v (.one (.fB n j q))) y hp k):oG i (.v (.one (.cW n j q))) y hp k:=by
 unfold oG at h ⊢
 cases hys:y.cells with
 |none=>rw [hys] at h;exact h.elim
 |some ys=>
 rw [hys] at h
 dsimp only at h ⊢
 split at h
 ·rename_i hsz
  rw [if_pos hsz]
  split at h
  ·rename_i u l rk he
   split at h
   ·exact h.elim
   ·rename_i p9
    rw [if_neg p9]
    split at h
    ·rename_i ms ns hms Mt
     have ey:=gP (fun _=> {}) ys ms hms
     have hf:fD ys=some (ms.map fun m=> .flat (.int .i64 m)):=by rw [ey];exact tR ms
     rw [hf]
     dsimp only
     have e:setCells (u.aU (gd u l j)) q (ms.map fun m=>cm.flat (.int .i64 m))=(sq q ms ns).map fun m=> .flat (.int .i64 m):=by
      rw [lM _ _ Mt,x8,lQ]
     split at h
     ·rename_i x' hx'
      obtain ⟨h1,h⟩:=bk h
      simp only [decide_eq_true_eq] at h1
      have hl:ys.length=ms.length:=by rw [ey];simp
      rw [if_pos (by simpa [<- hl] using h1),e,hx']
      exact h
     ·exact h.elim
    ·exact h.elim
  ·exact h.elim
 ·exact h.elim
theorem GX (hT:aK P ctx.tt) {t:TypeId} {i:TI} (ht:aI ctx.tt t=some i) {x y:AV} (h:oG i x y hp k):
  ∃r,aM P ctx.X hp nm (fun Kn=>x.ok Kn/\ y.ok Kn) (fun ρ=>Instr.storeAt t (x.ae ρ) (y.ae ρ)) (fun _=>()) r/\ r.val=ck/\ k r:=by
 have core: ∀ {ρ:Env} {w:World} {n b off:Nat} {cs ys:List Cell} {e:TypeId} {v:Value},y.cells=some ys->ys.length=i.size->nX ys=true->(ρ n).blk=some b->w.heap[b]? =some (.cells (cs.map (Cell.ae ρ)).toArray e (0,0))->off+ys.length<=cs.length->v= .pointer (some ⟨b,off,none⟩)->
   (Instr.storeAt t v (y.ae ρ)).run P w= .ok () (w.setRow b ((setCells cs off ys).map (Cell.ae ρ)).toArray):=by
  intro ρ w n b off cs ys e v hys hsz hone hb hh hl hv
  have hst:=run_storeCells_at P b off e (ys.map (Cell.ae ρ)) 0 _ w hh (by simp;omega) (oN ys hone ρ)
  rw [hv,uQ hT ht (AV.jB hys ρ) (by simpa using hsz),hst]
  congr 2
  simp only [Nat.add_zero,List.length_map,L6 (Cell.ae ρ) ys cs off hl]
 unfold oG at h
 split at h
 ·rename_i n off ys hys
  split at h
  ·rename_i hsz
   split at h
   ·rename_i hone
    split at h
    ·rename_i cs e he
     split at h
     ·rename_i hl
      refine ⟨_,⟨fun p eW=>by simp at eW;subst eW;rw [he];simp,?_⟩,rfl,h⟩
      intro aq W ρ Kn Γ w _ hk je _ hst
      have bQ:Γ n=some (.cells cs e):=by rw [je n (by simp),he]
      obtain ⟨b,hb,hh⟩:=hst.at_ n _ bQ
      have hrun:=core hys hsz hone hb hh hl (mA hb)
      refine ⟨ρ,_,hrun,fun _ _=>rfl,fun a ha=>absurd ha (by simp),?_⟩
      rw [fh,kS _ _ _ _ _ _ rfl]
      refine hst.write bQ hb (fun c hc=> ?_) (fun _ h=>by cases h) fun _=>⟨b,hb,by rw [setRow_heap _ _ _ _ _ _ hh]⟩
      rcases sy hl hc with h1|h1
      ·exact (hst.kn n _ bQ).2 c h1
      ·exact AV.yM hys hk.2 c h1
     ·exact h.elim
    ·exact h.elim
   ·exact h.elim
  ·exact h.elim
 ·rename_i n off ys hys
  split at h
  ·rename_i hsz
   split at h
   ·rename_i cs e he
    split at h
    ·rename_i ns ms Mt hms
     obtain ⟨hl,h⟩:=bk h
     simp only [decide_eq_true_eq] at hl
     have ec:=gP (fun _=> {}) cs ns Mt
     have ey:=gP (fun _=> {}) ys ms hms
     have Zg:(sq off ms ns).map (fun q=>Cell.raw (.int .i64 q))=setCells cs off ys:=by
      rw [x8,lQ,<- ec,<- ey]
     rw [Zg] at h
     have hone:nX ys=true:=by
      rw [ey];exact NK ms
     refine ⟨_,⟨fun p eW=>by simp at eW;subst eW;rw [he];simp,?_⟩,rfl,h⟩
     intro aq W ρ Kn Γ w _ hk je _ hst
     have bQ:Γ n=some (.cells cs e):=by rw [je n (by simp),he]
     obtain ⟨b,hb,hh⟩:=hst.at_ n _ bQ
     have hrun:=core hys hsz hone hb hh hl (nE hb)
     refine ⟨ρ,_,hrun,fun _ _=>rfl,fun a ha=>absurd ha (by simp),?_⟩
     rw [fh,kS _ _ _ _ _ _ rfl]
     refine hst.write bQ hb (fun c hc=> ?_) (fun _ h=>by cases h) fun _=>⟨b,hb,by rw [setRow_heap _ _ _ _ _ _ hh]⟩
     rcases sy hl hc with h1|h1
     ·exact (hst.kn n _ bQ).2 c h1
     ·exact AV.yM hys hk.2 c h1
    ·exact h.elim
   ·exact h.elim
  ·exact h.elim
 ·rename_i n j q ys hys
  exact GY hT ht (by unfold oG;rw [hys];exact h)
 ·rename_i n j q ys hys
  exact GY hT ht (aaU (by unfold oG;rw [hys];exact h))
 ·exact h.elim
theorem sM (Kn:Nat->Prop):ck.ok Kn:=fun a ha=>absurd ha (by simp)
theorem x3 (cs:List Cell) (e:TypeId) (v:AV) (Cy:(Nat->Prop)->Prop) (f:Env->Sem Value) (hok: ∀Kn,Cy Kn-> ∀c∈cs,c.ok Kn)
  (hv: ∀Kn,v.ok (HD Kn nm)) (hf: ∀(ρ:Env) (w:World),(f ρ).run P w= .ok (v.ae (bw ρ nm {blk:=some w.heap.size})) (w.alloc (.cells (cs.map (Cell.ae ρ)).toArray e (0,0)))):
  aM P ctx.X hp nm Cy f (fun ρ=>v.ae ρ) {val:=v,fresh:= [.cells cs e]} :=by
 refine ⟨fun p hp=>absurd hp (by simp),?_⟩
 intro aq W ρ Kn Γ w _ hk _ hfr hst
 have hn: ¬Kn nm:=by simpa using hfr 0 (by simp)
 refine ⟨bw ρ nm {blk:=some w.heap.size},_,hf ρ w,iP hn,?_,?_⟩
 ·rw [DH];exact hv Kn
 ·rw [DH,XI];exact hst.alloc hn (hok Kn hk)
theorem zO (ρ:Env) (w:World) (off:Nat):(AV.v (.one (.ptr nm off))).ae (bw ρ nm {blk:=some w.heap.size})= .pointer (some ⟨w.heap.size,off,none⟩):=by
 simp [AV.ae,A0.ae,Cell.ae,addrOf,bw]
theorem UC (hT:aK P ctx.tt) {t:TypeId} {i:TI} (ht:aI ctx.tt t=some i):
  aM P ctx.X hp nm (fun _=>True) (fun _=>Instr.alloc t true (.tuple #[])) (fun ρ=>(AV.v (.one (.ptr nm 0))).ae ρ) {val:= .v (.one (.ptr nm 0)),fresh:= [.cells (kM i.zero) t]} :=by
 refine x3 _ _ _ _ _ (fun _ _=>L1 _ _) (fun _=> .inr rfl) fun ρ w=> ?_
 rw [zO]
 simp [Instr.alloc,hT.z ht,newVar,newRow,kM,-List.map_map,DL]
theorem ab4 {t:TypeId} {x:AV} {xs:List Cell} (hx:x.cells=some xs):
  aM P ctx.X hp nm (fun Kn=>x.ok Kn) (fun ρ=>Instr.box t (x.ae ρ)) (fun ρ=>(AV.v (.one (.ptr nm 0))).ae ρ) {val:= .v (.one (.ptr nm 0)),fresh:= [.cells xs t]} :=by
 refine x3 _ _ _ _ _ (fun Kn hk=>AV.yM hx hk) (fun _=> .inr rfl) fun ρ w=> ?_
 rw [zO]
 simp [Instr.box,newVar,newRow,AV.jB hx]
end
end Go.Ev
