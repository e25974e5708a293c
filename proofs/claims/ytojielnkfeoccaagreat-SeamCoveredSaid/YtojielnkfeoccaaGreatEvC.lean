/- Each operation, but for calls, does what 'opE' says. -/
import Derived.Test.YtojielnkfeoccaaGreatEvB
noncomputable section
set_option linter.unusedSectionVars false
set_option linter.unusedVariables false
set_option linter.unusedSimpArgs false
namespace Go.Ev
open Go.RowKit
def aX (P:Program) (tt:List (Nat×TI)):Prop:= ∀t i,aG tt t=some i->P.underlying t=some i.desc/\
 0<i.size/\ ∃inf,P.info? t=some inf/\ inf.size=i.size/\ inf.bytes=i.bytes/\ inf.zero=some i.zero/\ (az i.desc=true->P.stoodInHeld t=false/\ P.eqGuardType P.depth t=false)
section
variable {P:Program} {tt:List (Nat×TI)} {t:TypeId} {i:TI}
theorem aX.u (h:aX P tt) (ht:aG tt t=some i) (w:World):(underlying t).run P w= .ok i.desc w:=run_underlying (h t i ht).1 w
theorem aX.ti (h:aX P tt) (ht:aG tt t=some i) (w:World): ∃inf,(typeInfo t).run P w= .ok inf w/\ inf.size=i.size/\ inf.bytes=i.bytes/\ inf.zero=some i.zero:=by
 obtain ⟨_,_,inf,h1,h2,h3,h4,_⟩:=h t i ht
 exact ⟨inf,by simp [typeInfo,h1],h2,h3,h4⟩
theorem aX.sz (h:aX P tt) (ht:aG tt t=some i) (w:World):(sizeOf t).run P w= .ok i.size w:=by
 obtain ⟨inf,h1,h2,_⟩:=h.ti ht w
 simp [sizeOf,h1,h2]
theorem aX.z (h:aX P tt) (ht:aG tt t=some i) (w:World):(zeroValue t).run P w= .ok i.zero w:=by
 obtain ⟨inf,h1,_,_,h4⟩:=h.ti ht w
 simp [zeroValue,h1,h4]
theorem aX.ag (h:aX P tt) (ht:aG tt t=some i) (w:World):(isAgg t).run P w= .ok (az i.desc) w:=by
 simp only [isAgg,Sem.run_bind,h.u ht w,Result.andThen_ok,az]
 cases i.desc<;>rfl
end
theorem eE (f:Cell->Value) (cs:List Cell) (off m:Nat):((cs.drop off).take m).map f=((cs.map f).drop off).take m:=by simp [List.map_drop,List.map_take]
section
variable {P:Program} {ctx:Ctx} {hp:HP} {nm:Nat} {k:Rec->Prop}
theorem bO {w:World} {b:Nat} {cs:List Value} {e:TypeId} (h:w.heap[b]? =some (.cells cs.toArray e (0,0))) (o:Nat):w.cell? ⟨b,o,none⟩=cs[o]? :=by
 simp [World.cell?,h]
theorem kg (hT:aX P ctx.tt) {t:TypeId} {i:TI} (ht:aG ctx.tt t=some i) {w:World} {b off:Nat} {cs rest:List Value} {e:TypeId}
  (hh:w.heap[b]? =some (.cells (cs++rest).toArray e (0,0))):
  (az i.desc=true->off+i.size<=cs.length->(loadVar t ⟨b,off,none⟩).run P w= .ok (.agg ((cs.drop off).take i.size).toArray) w)/\
  (az i.desc=false-> ∀v,cs[off]? =some v->(loadVar t ⟨b,off,none⟩).run P w= .ok v w):=by
 constructor
 ·intro ha hl
  have hlen:((cs.drop off).take i.size).length=i.size:=by simp;omega
  have hc: ∀j v,((cs.drop off).take i.size)[j]? =some v->w.cell? ((⟨b,off,none⟩:Addr).add j)=some v:=by
   intro j v hj
   have e1:(⟨b,off,none⟩:Addr).add j=⟨b,off+j,none⟩:=by unfold Addr.add;split<;>simp_all
   rw [e1,bO hh]
   rw [List.getElem?_take] at hj
   split at hj
   ·rename_i hj2
    rw [List.getElem?_drop] at hj
    rw [List.getElem?_append_left (by omega)];exact hj
   ·cases hj
  have hl:=run_loadCells_list (P:=P) w ⟨b,off,none⟩ _ hc
  rw [hlen] at hl
  simp [loadVar,hT.ag ht,ha,hT.sz ht,hl]
 ·intro ha v hv
  have hlt:off<cs.length:=by
   rcases Nat.lt_or_ge off cs.length with h|h
   ·exact h
   ·rw [List.getElem?_eq_none h] at hv;cases hv
  have hc:w.cell? ⟨b,off,none⟩=some v:=by rw [bO hh,List.getElem?_append_left hlt,hv]
  simp [loadVar,hT.ag ht,ha,hc]
theorem Qz (hT:aX P ctx.tt) {t:TypeId} {i:TI} (ht:aG ctx.tt t=some i) {cs:List Cell} {n off:Nat} {e:TypeId} (he:hp n=some (.cells cs e)) (h:xn i cs n off k):
  ∃r,aJ P ctx.X hp nm (fun _=>True) (fun ρ=>Instr.loadAt t (.pointer (addrOf ρ n off))) (fun ρ=>r.val.ae ρ) r/\ k r:=by
 unfold xn at h
 split at h
 ·rename_i ha
  split at h
  ·rename_i hl
   refine ⟨_,aJ.pure ?_,h⟩
   intro ax W ρ Kn Γ w _ _ dH hst
   have cm:Γ n=some (.cells cs e):=by rw [dH n (by simp),he]
   obtain ⟨b,hb,hh⟩:=hst.at_ n _ cm
   refine ⟨?_,?_⟩
   ·have:=(kg hT ht (off:=off) (rest:= []) (by simpa using hh)).1 ha (by simpa using hl)
    simp only [Instr.loadAt,Instr.sureAddr,addrOf,hb,Option.map_some,Sem.run_bind,Sem.run_pure,Result.andThen_ok,this,AV.ae,A0.ae,eE]
   ·intro c hc
    exact (hst.kn n _ cm).2 c (List.mem_of_mem_drop (List.mem_of_mem_take hc))
  ·exact h.elim
 ·rename_i ha
  split at h
  ·rename_i c hc
   refine ⟨_,aJ.pure ?_,h⟩
   intro ax W ρ Kn Γ w _ _ dH hst
   have cm:Γ n=some (.cells cs e):=by rw [dH n (by simp),he]
   obtain ⟨b,hb,hh⟩:=hst.at_ n _ cm
   refine ⟨?_,?_⟩
   ·have:=(kg hT ht (off:=off) (rest:= []) (by simpa using hh)).2 (by simpa using ha) (c.ae ρ) (by simp [hc])
    simp only [Instr.loadAt,Instr.sureAddr,addrOf,hb,Option.map_some,Sem.run_bind,Sem.run_pure,Result.andThen_ok,this,AV.ae,A0.ae]
   ·exact (hst.kn n _ cm).2 c (List.mem_of_getElem? hc)
  ·exact h.elim
theorem dF (a:Addr) (m n:Nat):(a.add m).add n=a.add (m+n):=by
 unfold Addr.add;split<;>split<;>simp_all<;>omega
theorem br {b:Bool} {p:Prop} (h:ob b p):b=true/\ p:=by cases b<;>first|exact h.elim|exact ⟨rfl,h⟩
theorem fF (ρ:Env): ∀(cs:List Cell) (ns:List Int),iI cs=some ns->cs=ns.map fun n=>Cell.raw (.int .i64 n)
 | [],ns,h=>by simp only [iI,Option.some.injEq] at h;subst h;rfl
 |c::r,ns,h=>by
  unfold iI at h
  split at h
  ·simp_all
  ·rename_i n r' heq
   cases heq
   split at h
   ·rename_i l hl;cases h;rw [fF ρ r l hl];rfl
   ·cases h
  ·cases h
theorem ta: ∀(m off:Nat) (ns:List Int),off+m<=ns.length->oS ns off m=((ns.map fun n=>Cell.raw (.int .i64 n)).drop off).take m
 |0,off,ns,_=>by simp [oS]
 |m+1,off,ns,h=>by
  rw [oS,ta m (off+1) ns (by omega),List.drop_eq_getElem_cons (i:=off) (by simp;omega),List.take_succ_cons,List.getElem_map,List.getD,List.getElem?_eq_getElem (by omega)]
  rfl
theorem F4 (off:Nat) (y:Int): ∀(ns:List Int) (q:Nat),q<=off->vz off y q ns=ns.set (off- q) y
 | [],q,_=>by simp [vz]
 |n::r,q,h=>by
  rw [vz]
  by_cases e:off=q
  ·subst e
   have: ∀(l:List Int) (p:Nat),off<p->vz off y p l=l:=by
    intro l
    induction l with
    |nil=>intro p _;rfl
    |cons a l ih=>
     intro p hp
     rw [vz,ih _ (by omega)]
     have:Nat.beq off p=false:=by
      cases hb:Nat.beq off p with
      |false=>rfl
      |true=>exact absurd (Nat.eq_of_beq_eq_true hb) (by omega)
     rw [this];rfl
   have hb:Nat.beq off off=true:=Nat.beq_refl off
   rw [this r (off+1) (by omega),hb];simp
  ·rw [F4 off y r (q+1) (by omega)]
   have hb:Nat.beq off q=false:=by
    cases hb:Nat.beq off q with
    |false=>rfl
    |true=>exact absurd (Nat.eq_of_beq_eq_true hb) e
   rw [hb,show off- q=(off- (q+1))+1 by omega];simp
theorem vy: ∀(ys ns:List Int) (off:Nat),qF off ys ns=setCells ns off ys
 | [],_,_=>rfl
 |y::r,ns,off=>by rw [qF,vy r,F4 off y ns 0 (Nat.zero_le _)];rfl
theorem bl (sub:Nat->Option Addr×Nat): ∀(cs:List cD) (q i:Nat),(aF sub q cs)[i]? =(cs[i]?).map (ew (sub (q+i)))
 | [],q,i=>by simp [aF]
 |c::r,q,0=>by simp [aF]
 |c::r,q,i+1=>by
  simp only [aF,List.getElem?_cons_succ]
  rw [bl sub r,show q+1+i=q+(i+1) by omega]
theorem j8 (t:Ty): ∀(l:List t.T) (j:Nat) (x:t.T) (q:Nat),l[j]? =some x->q<t.size->(ai t l)[j*t.size+q]? =(t.aL x)[q]?
 | [],j,x,q,h,_=>by simp at h
 |y::r,0,x,q,h,hq=>by
  simp only [List.getElem?_cons_zero,Option.some.injEq] at h;subst h
  simp only [ai,List.flatMap_cons,Nat.zero_mul,Nat.zero_add]
  rw [List.getElem?_append_left (by rw [aK];exact hq)]
 |y::r,j+1,x,q,h,hq=>by
  simp only [ai,List.flatMap_cons]
  rw [List.getElem?_append_right (by rw [aK,Nat.add_mul];omega),aK,show (j+1)*t.size+q- t.size=j*t.size+q by rw [Nat.add_mul];omega]
  exact j8 t r j x q (by simpa using h) hq
theorem HC {t:Ty} {l:List t.T} {j:Nat} (h:j<l.length):l[j]? =some (gd t l j):=by
 simp [gd,List.getD,h]
theorem LB {u' u:Ty} {l:List u'.T} {l':List u.T} (h:jU u' u l=some l'):cD.sl u' l=cD.sl u l':=by
 unfold jU at h
 split at h
 ·rename_i e;subst e;cases h;rfl
 ·cases h
theorem iS: ∀(t:Ty) (cs:List cD) (x:t.T) (r:List cD),ig t cs=some (x,r)->cs=t.aL x++r
 | .int k,cs,x,r,h=>by
  simp only [ig] at h
  split at h
  ·split at h
   ·rename_i e;subst e;cases h;rfl
   ·cases h
  ·cases h
 | .bool,cs,x,r,h=>by
  simp only [ig] at h
  split at h
  ·cases h;rfl
  ·cases h
 | .str,cs,x,r,h=>by
  simp only [ig] at h
  split at h
  ·cases h;rfl
  ·cases h
 | .prod a b,cs,x,r,h=>by
  simp only [ig] at h
  split at h
  ·rename_i x1 r1 h1
   split at h
   ·rename_i y r2 h2
    cases h
    rw [iS a _ _ _ h1,iS b _ _ _ h2]
    simp [Ty.aL]
   ·cases h
  ·cases h
 | .sl u,cs,x,r,h=>by
  simp only [ig] at h
  split at h
  ·split at h
   ·rename_i l' hl
    cases h
    rw [LB hl];rfl
   ·cases h
  ·cases h
theorem Tk (Kn:Nat->Prop) (nm:Nat) (o:aQ) (os:List aQ) (v v':AV) (ws ws':List (Nat×aQ)) (tc Ee:List Nat):
  iK (rq Kn nm) (nm+1) {val:=v,fresh:=os,writes:=ws,aB:=tc} =iK Kn nm {val:=v',fresh:=o::os,writes:=ws',aB:=Ee} :=by
 funext m;simp only [iK,rq,List.length_cons];apply propext
 constructor
 ·rintro ((h|h)|h)
  ·exact .inl h
  ·exact .inr (by omega)
  ·exact .inr (by omega)
 ·rintro (h|h)
  ·exact .inl (.inl h)
  ·by_cases e:m=nm
   ·exact .inl (.inr e)
   ·exact .inr (by omega)
theorem Ps (Γ:HP) (nm:Nat) (o:aQ) (os:List aQ) (v v':AV) (tc Ee:List Nat) (ho:live (some o)=some o):
  cq {val:=v,fresh:=os,aB:=tc} (nm+1) (bK Γ nm o)=cq {val:=v',fresh:=o::os,aB:=Ee} nm Γ:=by
 funext m
 simp only [cq,ct,List.length_cons,bK]
 by_cases h:m=nm
 ·subst h
  have h1: ¬(m+1<=m/\ m<m+1+os.length):=by omega
  have h2:m<=m/\ m<m+(os.length+1):=by omega
  rw [if_neg h1,if_pos rfl,if_pos h2];simp [ho]
 ·by_cases h2:nm+1≤m∧m<nm+1+os.length
  ·have h3:nm≤m∧m<nm+(os.length+1):=by omega
   rw [if_pos h2,if_pos h3,show m- nm=(m- (nm+1))+1 by omega];simp
  ·have h3: ¬(nm≤m∧m<nm+(os.length+1)):=by omega
   rw [if_neg h2,if_neg h,if_neg h3]
theorem Tl (Kn:Nat->Prop) (nm:Nat) (v:AV) (tc:List Nat):iK Kn nm {val:=v,fresh:= [],aB:=tc} =Kn:=fe Kn nm v [] tc
theorem St.views {ax:jh} {W w:World} {sub:Nat->Option Addr×Nat} {okf:Nat->Prop} (v:AV) (tc:List Nat): ∀(cs:List cD) (q nm:Nat) (ρ:Env) (Kn:Nat->Prop) (Γ:HP),St ax W ρ Kn Γ w->(∀i,i<(fC nm cs).2.length-> ¬Kn (nm+i))->
  (∀b,okf b->gW ρ Γ w b)->(∀i u l,cs[i]? =some (.sl u l)->dU w okf (sub (q+i)) u l)->
  ∃ρ',(∀m,Kn m->ρ' m=ρ m)/\ (fC nm cs).1.map (Cell.ae ρ')=aF sub q cs/\ (∀c∈(fC nm cs).1,c.ok (iK Kn nm {val:=v,fresh:=(fC nm cs).2,aB:=tc}))/\
   St ax W ρ' (iK Kn nm {val:=v,fresh:=(fC nm cs).2,aB:=tc}) (cq {val:=v,fresh:=(fC nm cs).2,aB:=tc} nm Γ) w
 | [],q,nm,ρ,Kn,Γ,h,_,_,_=>⟨ρ,fun _ _=>rfl,rfl,fun c hc=>absurd hc (by simp [fC]),by simp only [fC];rw [Tl,mU];exact h⟩
 | .flat v0::r,q,nm,ρ,Kn,Γ,h,hf,hok,hn=>by
  obtain ⟨ρ',h1,h2,h3,h4⟩:=St.views v tc r (q+1) nm ρ Kn Γ h hf hok fun i u l hi=>by
   have:=hn (i+1) u l (by simpa using hi)
   rwa [show q+(i+1)=q+1+i by omega] at this
  refine ⟨ρ',h1,?_,?_,h4⟩
  ·simp only [fC,List.map_cons,h2,aF];rfl
  ·intro c hc
   simp only [fC,List.mem_cons] at hc
   rcases hc with rfl|hc
   ·trivial
   ·exact h3 c hc
 | .sl u l::r,q,nm,ρ,Kn,Γ,h,hf,hok,hn=>by
  have hnm: ¬Kn nm:=by simpa using hf 0 (by simp [fC])
  have h0:dU w okf (sub q) u l:=by simpa using hn 0 u l rfl
  let x:Loc:= {blk:=none,base:=(sub q).1,len:=l.length,cap:=(sub q).2,es:=u.size}
  have hfz: ∀b,gW ρ Γ w b->gW (aZ ρ nm x) (bK Γ nm (.row u l 0)) w b:=fun b hb=>⟨hb.1,by
   rintro (⟨m,h1,h2⟩|⟨m,S,h1,h2⟩)
   ·unfold aZ at h2
    unfold bK at h1
    split at h2
    ·exact absurd (iC.1 h2) (fun h=>by cases h)
    ·rename_i e;rw [if_neg e] at h1;exact hb.2 (.inl ⟨m,h1,h2⟩)
   ·unfold bK at h1
    split at h1
    ·cases h1
    ·exact hb.2 (.inr ⟨m,S,h1,h2⟩)⟩
  have h1:St ax W (aZ ρ nm x) (rq Kn nm) (bK Γ nm (.row u l 0)) w:=by
   refine h.swap (G:= []) (o:= .row u l 0) (x:=x) hnm h.fr (fun _ _ _=>rfl) (fun b hb=>by cases hb) (fun m p hp=> ?_) trivial (fun _ h=>by cases h) fun _ _=> ?_
   ·unfold bK at hp
    split at hp
    ·rename_i e1;cases hp;exact .inl ⟨e1,rfl⟩
    ·rename_i e1;exact .inr ⟨e1,by simp,hp⟩
   ·have e:aZ ρ nm x nm=x:=by simp [aZ]
    rw [bu,e]
    refine ⟨rfl,rfl,h0.2.1,fun _=>(none,0),?_⟩
    have hfl: ∀(l:List u.T) (c:cD),c∈ai u l-> ∃v,c= .flat v:=fun l c hc=>by
     obtain ⟨y,_,hy⟩:=List.mem_flatMap.1 hc
     exact dL u h0.1 y c hy
    have hv: ∀(cs:List cD),(∀c∈cs,∃v,c= .flat v)-> ∀q,aF (fun _=>(none,0)) q cs=cs.map aR:=by
     intro cs
     induction cs with
     |nil=>intro _ q;rfl
     |cons c r ih=>
      intro hc q
      obtain ⟨v,rfl⟩:=hc c (by simp)
      simp only [aF,List.map_cons]
      rw [ih (fun c hm=>hc c (by simp [hm]))];rfl
    refine ⟨fun i v Mg=> ?_,fun i u' l' hi=> ?_,fun _=>rfl,fun h=>absurd rfl h⟩
    ·rw [hv _ (hfl l)] at Mg
     obtain ⟨a,e1,e2,e3⟩:=h0.2.2 i v Mg
     exact ⟨a,e1,e2,fun _=>hfz _ (hok _ e3)⟩
    ·obtain ⟨v,Mg⟩:=hfl l _ (List.mem_of_getElem? hi)
     cases Mg
  obtain ⟨ρ',e1,e2,e3,e4⟩:=St.views v tc r (q+1) (nm+1) _ _ _ h1 (fun i hi=>by
   have:=hf (i+1) (by simpa [fC] using hi)
   rintro (h2|h2)
   ·exact this (by rwa [show nm+(i+1)=nm+1+i by omega])
   ·omega) (fun b hb=>hfz b (hok b hb)) fun i u l hi=>by
   have:=hn (i+1) u l (by simpa using hi)
   rwa [show q+(i+1)=q+1+i by omega] at this
  have ex:ρ' nm=x:=by rw [e1 nm (.inr rfl)];simp [aZ]
  rw [Tk (o:= .row u l 0) (v':=v) (ws':= []) (Ee:=tc)] at e3 e4
  rw [Ps (o:= .row u l 0) (v':=v) (Ee:=tc) (ho:=rfl)] at e4
  refine ⟨ρ',fun m hm=>by rw [e1 m (.inl hm)];exact bY hnm m hm,?_,?_,e4⟩
  ·simp only [fC,List.map_cons,e2,aF,Cell.ae,ex];rfl
  ·intro c hc
   simp only [fC,List.mem_cons] at hc
   rcases hc with rfl|hc
   ·exact .inr ⟨Nat.le_refl _,by simp [fC]⟩
   ·exact e3 c hc
where
 dL: ∀(t:Ty),t.flat=true-> ∀(x:t.T) (c:cD),c∈t.aL x-> ∃v,c= .flat v
  | .int _,_,x,c,hc=>by simp [Ty.aL] at hc;exact ⟨_,hc⟩
  | .bool,_,x,c,hc=>by simp [Ty.aL] at hc;exact ⟨_,hc⟩
  | .str,_,x,c,hc=>by simp [Ty.aL] at hc;exact ⟨_,hc⟩
  | .prod a b,h,x,c,hc=>by
   simp only [Ty.flat,Bool.and_eq_true] at h
   simp only [Ty.aL,List.mem_append] at hc
   rcases hc with hc|hc
   ·exact dL a h.1 _ c hc
   ·exact dL b h.2 _ c hc
  | .sl _,h,_,_,_=>by cases h
theorem qu {t:Ty} {l:List t.T} {j q:Nat} {c:cD} (h:j<l.length) (hq:(t.aL (gd t l j))[q]? =some c):(ai t l)[j*t.size+q]? =some c:=by
 rw [j8 t l j _ q (HC h) (by have:=(List.getElem?_eq_some_iff.1 hq).1;rwa [aK] at this)];exact hq
theorem k8: ∀(cs:List cD) (ns:List Int),pM cs=some ns->cs=ns.map fun m=> .flat (.int .i64 m)
 | [],ns,h=>by simp only [pM,Option.some.injEq] at h;subst h;rfl
 |c::r,ns,h=>by
  unfold pM at h
  split at h
  ·simp_all
  ·rename_i n r' heq
   cases heq
   split at h
   ·rename_i l hl;cases h
    rw [k8 r l hl];rfl
   ·cases h
  ·cases h
theorem El (nm:Nat): ∀(ns:List Int),fC nm (ns.map fun m=> .flat (.int .i64 m))=(ns.map fun m=> .raw (.int .i64 m),[])
 | []=>rfl
 |n::r=>by simp only [List.map_cons,fC,El nm r]
theorem vU (nm:Nat): ∀(cs:List cD),(∀c∈cs,∃v,c= .flat v)->fC nm cs=(cs.map fun c=>Cell.raw (aR c),[])
 | [],_=>rfl
 |c::r,h=>by
  obtain ⟨v,rfl⟩:=h c (by simp)
  simp only [fC,vU nm r fun c hc=>h c (by simp [hc]),List.map_cons];rfl
theorem FE (hT:aX P ctx.tt) {t:TypeId} {i:TI} (ht:aG ctx.tt t=some i) {n j q:Nat} (h:oF i (.v (.one (.bA n j q))) hp nm k):
  ∃r,aJ P ctx.X hp nm (fun Kn=>(AV.v (.one (.bA n j q))).ok Kn) (fun ρ=>Instr.loadAt t ((AV.v (.one (.bA n j q))).ae ρ)) (fun ρ=>r.val.ae ρ) r/\ k r:=by
 unfold oF at h
 dsimp only at h
 split at h
 ·rename_i u l rk he
  split at h
  ·rename_i hsz
   obtain ⟨hj,h⟩:=br h
   simp only [decide_eq_true_eq] at hj
   generalize hvw:fC nm (bB u l j q i.size)=z at h
   obtain ⟨cs,os⟩:=z
   dsimp only at h
   split at h
   ·rename_i v hv
    refine ⟨_,⟨fun p hp=>absurd hp (by simp),?_⟩,h⟩
    intro ax W ρ Kn Γ w _ _ dH hfr hst
    have cm:Γ n=some (.row u l rk):=by rw [dH n (by simp),he]
    obtain ⟨o1,o2,o3,sub,m1,m2,m3,m4⟩:=hst.at_ n _ cm
    have N2:(bB u l j q i.size).length=i.size:=by simp [bB,aK];omega
    have hcg: ∀m c,(bB u l j q i.size)[m]? =some c->(ai u l)[j*u.size+q+m]? =some c:=fun m c hm=>by
     unfold bB at hm
     rw [List.getElem?_take] at hm
     split at hm
     ·rw [List.getElem?_drop] at hm
      rw [show j*u.size+q+m=j*u.size+(q+m) by omega]
      exact qu hj hm
     ·cases hm
    have hos:(fC nm (bB u l j q i.size)).2=os:=by rw [hvw]
    have hcs:(fC nm (bB u l j q i.size)).1=cs:=by rw [hvw]
    obtain ⟨ρ',e1,e2,e3,e4⟩:=St.views v [n] (bB u l j q i.size) (j*u.size+q) nm ρ Kn Γ hst (by rw [hos];exact hfr) (okf:=fun b=>gW ρ Γ w b) (fun _ h=>h) fun m u' l' hm=>(m2 _ u' l' (hcg m _ hm)).mono fun b hb=>⟨hb.1,rfl⟩
    rw [hos] at e3 e4
    rw [hcs] at e2 e3
    have pL: ∀m v,(aF sub (j*u.size+q) (bB u l j q i.size))[m]? =some v-> ∃a,(ρ n).base=some a/\ w.cell? (a.add (j*u.size+q+m))=some v:=fun m v hm=>by
     rw [bl] at hm
     obtain ⟨c,hc,rfl⟩:=Option.map_eq_some_iff.1 hm
     have:=m1 (j*u.size+q+m) (ew (sub (j*u.size+q+m)) c) (by rw [bl,hcg m c hc];simp)
     obtain ⟨a,a1,a2,_⟩:=this
     exact ⟨a,a1,a2⟩
    have hpos:=(hT t i ht).2.1
    obtain ⟨a,ha,_⟩: ∃a,(ρ n).base=some a/\ True:=by
     have: ∃v,(aF sub (j*u.size+q) (bB u l j q i.size))[0]? =some v:=⟨_,List.getElem?_eq_getElem (by rw [bI,N2];exact hpos)⟩
     obtain ⟨v,hv⟩:=this
     obtain ⟨a,h1,_⟩:=pL 0 v hv
     exact ⟨a,h1,trivial⟩
    have hcell: ∀m v,(aF sub (j*u.size+q) (bB u l j q i.size))[m]? =some v->w.cell? ((a.add (j*u.size+q)).add m)=some v:=fun m v hm=>by
     obtain ⟨a',h1,h2⟩:=pL m v hm
     rw [ha] at h1;cases h1
     rw [dF];exact h2
    have hlen:(aF sub (j*u.size+q) (bB u l j q i.size)).length=i.size:=by rw [bI,N2]
    have Xq:(loadVar t (a.add (j*u.size+q))).run P w= .ok (v.ae ρ') w/\ v.ok (iK Kn nm {val:=v,fresh:=os,aB:= [n]}):=by
     unfold oI at hv
     split at hv
     ·rename_i l5
      cases hv
      have zo:=run_loadCells_list (P:=P) w (a.add (j*u.size+q)) _ hcell
      rw [hlen] at zo
      exact ⟨by simp [loadVar,hT.ag ht,l5,hT.sz ht,zo,AV.ae,A0.ae,e2],e3⟩
     ·rename_i l5
      split at hv
      ·rename_i c
       cases hv
       simp only [List.map_cons,List.map_nil] at e2
       have:=hcell 0 (c.ae ρ') (by rw [<- e2];rfl)
       rw [dF,Nat.add_zero] at this
       exact ⟨by simp [loadVar,hT.ag ht,l5,this,AV.ae,A0.ae],e3 c (by simp)⟩
      ·cases hv
    refine ⟨ρ',w,Eq.trans ?_ Xq.1,e1,Xq.2,e4⟩
    have ex:(AV.v (.one (.bA n j q))).ae ρ= .pointer (some (a.add (j*u.size+q))):=by simp [AV.ae,A0.ae,Cell.ae,ha,o2]
    show (Instr.loadAt t ((AV.v (.one (.bA n j q))).ae ρ)).run P w=_
    rw [ex]
    simp only [Instr.loadAt,Instr.sureAddr,Sem.run_bind,Sem.run_pure,Result.andThen_ok]
   ·exact h.elim
  ·exact h.elim
 ·rename_i gn c kk u gx l he
  split at h<;>try (exact h.elim)
  rename_i gm hc
  split at h<;>try (exact h.elim)
  rename_i hsz
  obtain ⟨hj,h⟩:=br h
  simp only [decide_eq_true_eq] at hj
  split at h<;>try (exact h.elim)
  rename_i v hv
  refine ⟨_,aJ.pure fun ax W ρ Kn Γ w _ _ dH hst=> ?_,h⟩
  have cm:Γ n=some (.gv gn c kk u gx l):=by rw [dH n (by simp),he]
  obtain ⟨_,o1,o2,_,Lj,o4⟩:=hst.at_ n _ cm
  have hfl: ∀x∈bB u l j q i.size,∃v,x= .flat v:=fun x hx=>St.views.dL u Lj _ x (List.mem_of_mem_drop (List.mem_of_mem_take hx))
  rw [vU _ _ hfl] at hv
  rcases o4 with ⟨e0,_⟩|⟨e,b,h1,h2,_,h4,h5,_,_,h8,_⟩
  ·rw [e0] at hj;exact absurd hj (Nat.not_lt_zero _)
  have gw:=hst.at_ c _ (by rw [dH c (by simp),hc])
  rcases gw.2.1 e h1 with ⟨h9,_⟩|⟨b',rest,Lm,h9,_,Yh,_⟩
  ·rw [h9] at h2;cases h2
  rw [h2] at h9;cases h9
  rw [h8] at Yh
  have ha:(ρ n).base=some ⟨b,0,none⟩:=by rw [<- h4,h5]
  have hcell: ∀m v,((bB u l j q i.size).map aR)[m]? =some v->w.cell? ((⟨b,0,none⟩:Addr).add (j*u.size+q)|>.add m)=some v:=fun m v hm=>by
   rw [dF]
   have e1:(⟨b,0,none⟩:Addr).add (j*u.size+q+m)=⟨b,j*u.size+q+m,none⟩:=by unfold Addr.add;split<;>simp_all
   rw [e1,bO Yh]
   rw [List.getElem?_map] at hm
   obtain ⟨x,hx,rfl⟩:=Option.map_eq_some_iff.1 hm
   unfold bB at hx
   rw [List.getElem?_take] at hx
   split at hx
   ·rw [List.getElem?_drop] at hx
    have:=qu hj hx
    have h12:(aI u l)[j*u.size+q+m]? =some (aR x):=by
     unfold aI
     rw [List.getElem?_map,show j*u.size+q+m=j*u.size+(q+m) by omega,this];rfl
    rw [List.getElem?_append_left (List.getElem?_eq_some_iff.1 h12).1];exact h12
   ·cases hx
  have hlen:((bB u l j q i.size).map aR).length=i.size:=by simp [bB,aK];omega
  have ex:(AV.v (.one (.bA n j q))).ae ρ= .pointer (some ((⟨b,0,none⟩:Addr).add (j*u.size+q))):=by simp [AV.ae,A0.ae,Cell.ae,ha,o2]
  have HD:((bB u l j q i.size).map fun c=>Cell.raw (aR c)).map (Cell.ae ρ)=(bB u l j q i.size).map aR:=by
   rw [List.map_map];rfl
  refine ⟨?_,?_⟩
  ·show (Instr.loadAt t ((AV.v (.one (.bA n j q))).ae ρ)).run P w=_
   rw [ex]
   simp only [Instr.loadAt,Instr.sureAddr,Sem.run_bind,Sem.run_pure,Result.andThen_ok]
   unfold oI at hv
   split at hv
   ·rename_i l5
    cases hv
    have zo:=run_loadCells_list (P:=P) w ((⟨b,0,none⟩:Addr).add (j*u.size+q)) _ hcell
    rw [hlen] at zo
    simp [loadVar,hT.ag ht,l5,hT.sz ht,zo,AV.ae,A0.ae,HD]
   ·rename_i l5
    split at hv
    ·rename_i c0 hc0
     cases hv
     have L8:=HD
     dsimp only at hc0
     rw [hc0] at L8
     simp only [List.map_cons,List.map_nil] at L8
     have:=hcell 0 (c0.ae ρ) (by rw [<- L8];rfl)
     rw [dF,Nat.add_zero] at this
     simp [loadVar,hT.ag ht,l5,this,AV.ae,A0.ae]
    ·cases hv
  ·unfold oI at hv
   have hok: ∀c∈(bB u l j q i.size).map fun c=>Cell.raw (aR c),c.ok Kn:=fun c hc=>by
    obtain ⟨_,_,rfl⟩:=List.mem_map.1 hc;trivial
   split at hv
   ·cases hv;exact hok
   ·split at hv
    ·rename_i c0 hc0
     cases hv
     dsimp only at hc0
     exact hok c0 (by rw [hc0];simp)
    ·cases hv
 ·rename_i cs he
  split at h<;>try (exact h.elim)
  rename_i hj;subst hj
  have L6: ∀ {ax:jh} {W:World} {ρ:Env} {Kn:Nat->Prop} {Γ:HP} {w:World},(∀m∈ [n],Γ m=hp m)->St ax W ρ Kn Γ w-> ∀m c,cs[q+m]? =some c-> ∃a,(ρ n).base=some a/\ w.cell? ((a.add q).add m)=some (c.ae ρ):=fun dH hst m c hm=>by
   have g:=hst.at_ n (.rc cs) (by rw [dH n (by simp),he])
   obtain ⟨a,h1,h2,_⟩:=g.2 _ _ hm
   exact ⟨a,h1,by rw [dF];exact h2⟩
  have ex: ∀ {ρ:Env} {a:Addr},(ρ n).base=some a->(AV.v (.one (.bA n 0 q))).ae ρ= .pointer (some (a.add q)):=fun ha=>by simp [AV.ae,A0.ae,Cell.ae,ha]
  unfold xn at h
  split at h
  ·rename_i l5
   split at h
   ·rename_i hl
    refine ⟨_,aJ.pure ?_,h⟩
    intro ax W ρ Kn Γ w _ _ dH hst
    have cm:Γ n=some (.rc cs):=by rw [dH n (by simp),he]
    have hpos:=(hT t i ht).2.1
    obtain ⟨c0,hc0⟩: ∃c,cs[q+0]? =some c:=⟨_,List.getElem?_eq_getElem (by omega)⟩
    obtain ⟨a,ha,_⟩:=L6 dH hst 0 c0 hc0
    have hcell: ∀m v,(((cs.drop q).take i.size).map (Cell.ae ρ))[m]? =some v->w.cell? ((a.add q).add m)=some v:=fun m v hm=>by
     rw [List.getElem?_map] at hm
     obtain ⟨c,hc,rfl⟩:=Option.map_eq_some_iff.1 hm
     rw [List.getElem?_take] at hc
     split at hc
     ·rw [List.getElem?_drop] at hc
      obtain ⟨a',h1,h2⟩:=L6 dH hst m c hc
      rw [ha] at h1;cases h1;exact h2
     ·cases hc
    have zo:=run_loadCells_list (P:=P) w (a.add q) _ hcell
    have hlen:(((cs.drop q).take i.size).map (Cell.ae ρ)).length=i.size:=by simp;omega
    rw [hlen] at zo
    refine ⟨?_,fun c hc=>(hst.kn n _ cm).2 c (List.mem_of_mem_drop (List.mem_of_mem_take hc))⟩
    show (Instr.loadAt t ((AV.v (.one (.bA n 0 q))).ae ρ)).run P w=_
    rw [ex ha]
    simp only [Instr.loadAt,Instr.sureAddr,Sem.run_bind,Sem.run_pure,Result.andThen_ok]
    simp [loadVar,hT.ag ht,l5,hT.sz ht,zo,AV.ae,A0.ae]
   ·exact h.elim
  ·rename_i l5
   split at h
   ·rename_i c hc
    refine ⟨_,aJ.pure ?_,h⟩
    intro ax W ρ Kn Γ w _ _ dH hst
    have cm:Γ n=some (.rc cs):=by rw [dH n (by simp),he]
    obtain ⟨a,ha,h2⟩:=L6 dH hst 0 c hc
    rw [dF,Nat.add_zero] at h2
    refine ⟨?_,(hst.kn n _ cm).2 c (List.mem_of_getElem? hc)⟩
    show (Instr.loadAt t ((AV.v (.one (.bA n 0 q))).ae ρ)).run P w=_
    rw [ex ha]
    simp only [Instr.loadAt,Instr.sureAddr,Sem.run_bind,Sem.run_pure,Result.andThen_ok]
    simp [loadVar,hT.ag ht,l5,h2,AV.ae,A0.ae]
   ·exact h.elim
 ·exact h.elim
theorem Wh {i:TI} {n j q:Nat} (h:oF i (.v (.one (.fq n j q))) hp nm k):oF i (.v (.one (.bA n j q))) hp nm k:=by
 unfold oF at h ⊢
 dsimp only at h ⊢
 split at h
 ·rename_i u l rk he
  split at h
  ·rename_i ns Vh
   obtain ⟨h1,h⟩:=br h
   obtain ⟨h2,h⟩:=br h
   simp only [decide_eq_true_eq] at h1
   have hl:ns.length=u.size:=by
    have:=aK u (gd u l j)
    rw [k8 _ _ Vh] at this
    simpa using this
   have e:fC nm (bB u l j q i.size)=(oS ns q i.size,[]):=by
    unfold bB
    rw [k8 _ _ Vh,<- List.map_drop,<- List.map_take,El,ta _ _ _ (by omega),<- List.map_drop,<- List.map_take]
   rw [he]
   dsimp only
   rw [if_pos h1,h2,e]
   exact h
  ·exact h.elim
 ·exact h.elim
theorem QA (hT:aX P ctx.tt) {t:TypeId} {i:TI} (ht:aG ctx.tt t=some i) {x:AV} (h:oF i x hp nm k):
  ∃r,aJ P ctx.X hp nm (fun Kn=>x.ok Kn) (fun ρ=>Instr.loadAt t (x.ae ρ)) (fun ρ=>r.val.ae ρ) r/\ k r:=by
 unfold oF at h
 split at h
 ·rename_i n off
  split at h
  ·rename_i cs e he
   obtain ⟨r,h1,h2⟩:=Qz (nm:=nm) hT ht he h
   exact ⟨r,⟨h1.1,fun ax W ρ Kn Γ w a _ c d e=>h1.2 ax W ρ Kn Γ w a trivial c d e⟩,h2⟩
  ·exact h.elim
 ·rename_i n off
  split at h
  ·rename_i cs e he
   split at h
   ·rename_i ns Vh
    obtain ⟨hl,h⟩:=br h
    simp only [decide_eq_true_eq] at hl
    split at h
    ·rename_i v hv
     refine ⟨_,aJ.pure ?_,h⟩
     intro ax W ρ Kn Γ w _ _ dH hst
     have cm:Γ n=some (.cells cs e):=by rw [dH n (by simp),he]
     obtain ⟨b,hb,hh⟩:=hst.at_ n _ cm
     have Z0:=fF ρ cs ns Vh
     have hlen:cs.length=ns.length:=by rw [Z0];simp
     have bD:oS ns off i.size=(cs.drop off).take i.size:=by rw [ta _ _ _ (by omega),<- Z0]
     rw [bD] at hv
     have hrun:=kg hT ht (off:=off) (w:=w) (rest:= []) (cs:=cs.map (Cell.ae ρ)) (b:=b) (e:=e) (by simpa using hh)
     unfold oI at hv
     split at hv
     ·rename_i ha
      cases hv
      refine ⟨?_,fun c hc=>(hst.kn n _ cm).2 c (List.mem_of_mem_drop (List.mem_of_mem_take hc))⟩
      have:=hrun.1 ha (by simpa using hl)
      simp only [Instr.loadAt,Instr.sureAddr,AV.ae,A0.ae,Cell.ae,addrOf,hb,Option.map_some,Sem.run_bind,Sem.run_pure,Result.andThen_ok,this,eE]
     ·rename_i ha
      split at hv
      ·rename_i c hc
       cases hv
       have hcs:cs[off]? =some c:=by
        have h0:((cs.drop off).take i.size)[0]? =some c:=by rw [hc];rfl
        rw [List.getElem?_take] at h0
        split at h0
        ·rw [List.getElem?_drop] at h0;simpa using h0
        ·cases h0
       refine ⟨?_,(hst.kn n _ cm).2 c (List.mem_of_getElem? hcs)⟩
       have:=hrun.2 (by simpa using ha) (c.ae ρ) (by simp [hcs])
       simp only [Instr.loadAt,Instr.sureAddr,AV.ae,A0.ae,Cell.ae,addrOf,hb,Option.map_some,Sem.run_bind,Sem.run_pure,Result.andThen_ok,this]
      ·cases hv
    ·exact h.elim
   ·exact h.elim
  ·exact h.elim
 ·rename_i n j q
  exact FE hT ht (by unfold oF;exact h)
 ·rename_i n j q
  exact FE hT ht (Wh (by unfold oF;exact h))
 ·exact h.elim
theorem lD {α β:Type} (f:α->β): ∀(ys cs:List α) (off:Nat),(setCells cs off ys).map f=setCells (cs.map f) off (ys.map f)
 | [],_,_=>rfl
 |y::r,cs,off=>by simp only [setCells,List.map_cons];rw [lD f r];simp [List.map_set]
theorem lV {ρ:Env} {n b off:Nat} (hb:(ρ n).blk=some b):(AV.v (.one (.ptr n off))).ae ρ= .pointer (some ⟨b,off,none⟩):=by
 simp [AV.ae,A0.ae,Cell.ae,addrOf,hb]
theorem mJ {ρ:Env} {n b off:Nat} (hb:(ρ n).blk=some b):(AV.v (.one (.kC n off))).ae ρ= .pointer (some ⟨b,off,none⟩):=by
 simp [AV.ae,A0.ae,Cell.ae,addrOf,hb]
theorem oL (hT:aX P ctx.tt) {t:TypeId} {i:TI} (ht:aG ctx.tt t=some i) {a:Addr} {v:Value} {vs:List Value} (hv:v.cells=vs.toArray) (hl:vs.length=i.size) (w:World):
  (Instr.storeAt t (.pointer (some a)) v).run P w=(storeCells a vs).run P w:=by
 simp [Instr.storeAt,Instr.sureAddr,storeVar,hT.sz ht,hv,hl]
theorem r9: ∀(ys:List Cell) (ps:List cD),fU ys=some ps->ps.length=ys.length/\ mT ys=true/\ ∀(ρ:Env),ys.map (Cell.ae ρ)=ps.map aR/\ ∀c∈ps,∃v,c= .flat v
 | [],ps,h=>by simp only [fU,Option.some.injEq] at h;subst h;exact ⟨rfl,rfl,fun ρ=>⟨rfl,by simp⟩⟩
 |y::r,ps,h=>by
  unfold fU at h
  split at h
  ·simp_all
  ·rename_i v r' heq
   cases heq
   have main: ∀qs,fU r=some qs->sJ v=true->(cD.flat v::qs).length=(Cell.raw v::r).length/\ mT (Cell.raw v::r)=true/\ ∀(ρ:Env),(Cell.raw v::r).map (Cell.ae ρ)=(cD.flat v::qs).map aR/\ ∀c∈(cD.flat v::qs),∃v,c= .flat v:=fun qs hq hv=>by
    obtain ⟨h1,h2,h3⟩:=r9 r qs hq
    refine ⟨by simp [h1],by simp [mT,Cell.one,hv,h2],fun ρ=>⟨by simp [(h3 ρ).1,Cell.ae,aR],fun c hc=> ?_⟩⟩
    rcases List.mem_cons.1 hc with rfl|hc
    ·exact ⟨v,rfl⟩
    ·exact (h3 ρ).2 c hc
   split at h<;>try (cases h;done)
   all_goals
    obtain ⟨qs,hq,rfl⟩:=Option.map_eq_some_iff.1 h
    exact main qs hq rfl
  ·cases h
theorem Hi {c:cD} (h: ∃v,c= .flat v) (s:Option Addr×Nat):ew s c=aR c:=by obtain ⟨v,rfl⟩:=h;rfl
theorem dR {α:Type} : ∀(ys cs:List α) (off i:Nat),off+ys.length<=cs.length->(setCells cs off ys)[i]? =if off<=i/\ i<off+ys.length then ys[i- off]? else cs[i]? :=by
 intro ys cs off i h
 rw [iP ys cs off h]
 simp only [List.getElem?_append,List.length_append,List.length_take,List.getElem?_take,List.getElem?_drop]
 grind
theorem mC (t:Ty) (x':t.T): ∀(l:List t.T) (j:Nat),j<l.length->ai t (l.set j x')=setCells (ai t l) (j*t.size) (t.aL x')
 | [],j,h=>by simp at h
 |x::r,0,_=>by
  simp only [List.set_cons_zero,ai,List.flatMap_cons,Nat.zero_mul]
  rw [iP _ _ _ (by simp [aK])]
  simp [aK]
 |x::r,j+1,h=>by
  simp only [List.length_cons] at h
  have hl:=bk t r
  have ih:=mC t x' r j (by omega)
  have hb:j*t.size+t.size<=r.length*t.size:=by rw [<- Nat.succ_mul];exact Nat.mul_le_mul_right _ (by omega)
  simp only [List.set_cons_succ,ai,List.flatMap_cons] at ih hl ⊢
  rw [ih]
  apply List.ext_getElem?
  intro i
  have e:(j+1)*t.size=j*t.size+t.size:=Nat.succ_mul _ _
  rw [dR _ _ _ _ (by rw [List.length_append,aK,aK,hl,e];omega),List.getElem?_append,dR _ _ _ _ (by rw [aK,hl];omega),List.getElem?_append]
  simp only [aK,e]
  by_cases h1:i<t.size
  ·rw [if_pos h1,if_pos h1,if_neg (by omega)]
  ·rw [if_neg h1,if_neg h1]
   by_cases h2:j*t.size<=i- t.size/\ i- t.size<j*t.size+t.size
   ·rw [if_pos h2,if_pos (by omega),show i- (j*t.size+t.size)=i- t.size- j*t.size by omega]
   ·rw [if_neg h2,if_neg (by omega)]
theorem JQ: ∀(ms:List Int),mT (ms.map fun n=>Cell.raw (.int .i64 n))=true
 | []=>rfl
 |a::r=>by simp [mT,Cell.one,sJ,JQ r]
theorem St.drop {ax:jh} {W:World} {ρ:Env} {Kn:Nat->Prop} {Γ mH:HP} {w:World} (h:St ax W ρ Kn Γ w) (hs: ∀x p,mH x=some p->Γ x=some p):St ax W ρ Kn mH w:=by
 have hL: ∀b,LO ρ mH b->LO ρ Γ b:=fun b hb=>by
  rcases hb with ⟨m,h1,h2⟩|⟨m,S,h1,h2⟩
  ·obtain ⟨o,ho⟩:=Option.isSome_iff_exists.1 h1
   exact .inl ⟨m,by rw [hs m o ho];rfl,h2⟩
  ·exact .inr ⟨m,S,hs m _ h1,h2⟩
 have Qp: ∀m,(mH m).isSome=true->(Γ m).isSome=true:=fun m hm=>by
  obtain ⟨o,ho⟩:=Option.isSome_iff_exists.1 hm
  rw [hs m o ho];rfl
 exact ⟨h.fr,fun n o ho=>cr (Kn:=Kn) (h.at_ n o (hs n o ho)) (fun _ _=>rfl) (h.kn n o (hs n o ho)).1 (h.kn n o (hs n o ho)).2 (fun b hb=>⟨⟨hb.1,fun q=>hb.2 (hL b q)⟩,rfl⟩) (fun _ _ h=>h) fun _ _=>rfl,
  fun n o ho=>h.kn n o (hs n o ho),fun n m b hn hm=>h.eS n m b (Qp n hn) (Qp m hm),fun n b hn=>h.mA n b (Qp n hn),fun b ⟨m,S,h1,h2⟩=>⟨(h.wZ b ⟨m,S,hs m _ h1,h2⟩).1,fun ⟨m',h3,h4⟩=>(h.wZ b ⟨m,S,hs m _ h1,h2⟩).2 ⟨m',Qp m' h3,h4⟩⟩,fun n o ho=>h.vX n o (hs n o ho)⟩
theorem Ny (hT:aX P ctx.tt) {t:TypeId} {i:TI} (ht:aG ctx.tt t=some i) {n j q:Nat} {y:AV} {ys:List Cell} (hys:y.cells=some ys) (hsz:ys.length=i.size) {u:Ty} {l:List u.T} {rk:Nat} (he:hp n=some (.row u l rk)) (o7: ¬rk=0) (h:Nx u l rk n j q ys hp k):
  ∃r,aJ P ctx.X hp nm (fun Kn=>(AV.v (.one (.bA n j q))).ok Kn/\ y.ok Kn) (fun ρ=>Instr.storeAt t ((AV.v (.one (.bA n j q))).ae ρ) (y.ae ρ)) (fun _=>()) r/\ r.val=aT/\ k r:=by
 unfold Nx at h
 split at h
 rotate_left
 ·exact h.elim
 rename_i m
 split at h
 rotate_left
 ·exact h.elim
 rename_i u' lm rm hm
 split at h
 ·exact h.elim
 rename_i hc
 simp only [not_or] at hc
 obtain ⟨hrm,HG,hmn,Lj,hq⟩:=hc
 have Lj:u'.flat=true:=by simpa using Lj
 split at h
 rotate_left
 ·exact h.elim
 rename_i x' hx'
 obtain ⟨hj,h⟩:=br h
 have h:=h.2 _ rfl
 simp only [decide_eq_true_eq] at hj
 refine ⟨_,⟨fun p gN=> ?_,?_⟩,rfl,h⟩
 ·simp only [List.mem_cons,List.not_mem_nil,or_false] at gN
  rcases gN with rfl|rfl
  ·rw [he];simp
  ·rw [hm];simp
 intro ax W ρ Kn Γ w _ hk dH _ hst
 have cm:Γ n=some (.row u l rk):=by rw [dH n (by simp),he]
 have sq:Γ m=some (.row u' lm rm):=by rw [dH m (by simp),hm]
 obtain ⟨o1,o2,o3,sub,m1,m2,m3,m4⟩:=hst.at_ n _ cm
 obtain ⟨p1,p2,p3,abS,q1,q2,q3,q4⟩:=hst.at_ m _ sq
 rcases (m4 o7).old HG with ⟨_,h0,_⟩|⟨b,rest,e,hb,hbase,hh,hcap⟩
 ·subst h0;simp at hj
 have hcx:u.aL x'=setCells (u.aL (gd u l j)) q [.sl u' lm]:=by
  have:=iS u _ _ _ hx';rw [List.append_nil] at this;exact this.symm
 have hrl:=bk u l
 have Rp:j*u.size+u.size<=l.length*u.size:=by rw [<- Nat.succ_mul];exact Nat.mul_le_mul_right _ (by omega)
 have ri: ∀x,(ai u (l.set j x'))[x]? =if x=j*u.size+q then some (.sl u' lm) else (ai u l)[x]? :=fun x=>by
  rw [mC u x' l j hj,dR _ _ _ _ (by rw [aK];omega),aK,hcx]
  by_cases h1:j*u.size<=x/\ x<j*u.size+u.size
  ·rw [if_pos h1,dR _ _ _ _ (by rw [aK];simp;omega)]
   by_cases h2:x=j*u.size+q
   ·subst h2
    rw [if_pos rfl,if_pos (by constructor<;>simp<;>omega)]
    have:j*u.size+q- j*u.size- q=0:=by omega
    rw [this];rfl
   ·rw [if_neg (by simp;omega),if_neg h2]
    have:=j8 u l j _ (x- j*u.size) (HC hj) (by omega)
    rw [show j*u.size+(x- j*u.size)=x by omega] at this
    exact this.symm
  ·rw [if_neg h1,if_neg (by omega)]
 obtain ⟨sub',N5⟩: ∃sub':Nat->Option Addr×Nat,sub'=fun x=>if x=j*u.size+q then ((ρ m).base,(ρ m).cap) else sub x:=⟨_,rfl⟩
 have pL:aF sub' 0 (ai u (l.set j x'))=setCells (aF sub 0 (ai u l)) (j*u.size+q) ([Cell.full m].map (Cell.ae ρ)):=by
  apply List.ext_getElem?
  intro x
  rw [bl,ri,dR _ _ _ _ (by rw [bI];simp;omega),bl]
  by_cases h1:x=j*u.size+q
  ·subst h1
   rw [if_pos rfl,if_pos (by simp),Nat.sub_self,N5]
   simp [ew,Cell.ae,p1]
  ·rw [if_neg h1,if_neg (by simp;omega),N5,Nat.zero_add]
   simp only [if_neg h1]
 have hlt:j*u.size+q+1<=(aF sub 0 (ai u l)).length:=by rw [bI,hrl];omega
 have hrun:(Instr.storeAt t ((AV.v (.one (.bA n j q))).ae ρ) (y.ae ρ)).run P w= .ok () (w.setRow b (aF sub' 0 (ai u (l.set j x'))++rest).toArray):=by
  have hst:=run_storeCells_at P b (j*u.size+q) e ([Cell.full m].map (Cell.ae ρ)) 0 _ w hh (by simp;omega) (nZ [Cell.full m] rfl ρ)
  have ex:(AV.v (.one (.bA n j q))).ae ρ= .pointer (some ⟨b,j*u.size+q,none⟩):=by
   simp only [AV.ae,A0.ae,Cell.ae,hbase,o2,Option.map_some]
   unfold Addr.add;split<;>simp_all
  rw [ex,oL hT ht (AV.iw hys ρ) (by simpa using hsz),hst,pL]
  congr 2
  simp only [Nat.add_zero,List.length_map]
  rw [iP _ _ _ (by simpa using hlt)]
  rw [List.take_append_of_le_length (by omega),List.drop_append_of_le_length (by simp;omega)]
  simp
 refine ⟨ρ,_,hrun,fun _ _=>rfl,fun a ha=>absurd ha (by simp),?_⟩
 obtain ⟨NF,Mi⟩: ∃NF:HP,NF=fun x=>if x=m then none else Γ x:=⟨_,rfl⟩
 have o8:St ax W ρ Kn NF w:=hst.drop fun x p gN=>by
  rw [Mi] at gN
  dsimp only at gN
  split at gN
  ·cases gN
  ·exact gN
 have aa5:NF n=some (.row u l rk):=by rw [Mi];dsimp only;rw [if_neg (Ne.symm hmn)];exact cm
 have SF:cq {val:=aT,writes:= [(n,.row u (l.set j x') rk),(m,.gone)],aB:= [n,m]} nm Γ=bK NF n (.row u (l.set j x') rk):=by
  funext x
  simp only [cq,bK,ct,List.length_nil,Mi]
  rw [if_neg (by omega)]
  by_cases h1:m=x
  ·subst h1
   simp [live,hmn]
  ·by_cases h2:n=x
   ·subst h2;simp [h1,live]
   ·simp [h1,h2,Ne.symm h1,Ne.symm h2]
 rw [fe,SF]
 refine o8.write aa5 hb trivial (fun _ h=>by cases h) fun hfz=> ?_
 have SQ: ∀b',gW ρ Γ w b'->gW ρ NF w b':=fun b' hb'=>⟨hb'.1,by
  rintro (⟨x,h1,h2⟩|⟨x,S,h1,h2⟩)
  ·rw [Mi] at h1
   dsimp only at h1
   split at h1
   ·cases h1
   ·exact hb'.2 (.inl ⟨x,h1,h2⟩)
  ·rw [Mi] at h1
   dsimp only at h1
   split at h1
   ·cases h1
   ·exact hb'.2 (.inr ⟨x,S,h1,h2⟩)⟩
 have V3: ∀b',(ρ m).blk=some b'->cz w b'->gW ρ NF w b':=fun b' hb' V0=>⟨V0,by
  rintro (⟨x,h1,h2⟩|⟨x,S,h1,h2⟩)
  ·rw [Mi] at h1
   dsimp only at h1
   split at h1
   ·cases h1
   ·rename_i hx
    exact hx (hst.eS x m b' h1 (by rw [sq];rfl) h2 (.inl hb'))
  ·rw [Mi] at h1
   dsimp only at h1
   split at h1
   ·cases h1
   ·exact (hst.wZ b' ⟨x,S,h1,h2⟩).2 ⟨m,by rw [sq];rfl,.inl hb'⟩⟩
 have BS:=setRow_heap w b _ (aF sub' 0 (ai u (l.set j x'))++rest).toArray _ _ hh
 refine ⟨by simpa using o1,o2,by simpa using o3,sub',fun x v hx=> ?_,fun x u2 l2 hx=> ?_,m3,fun _=>gl.new (.inr ⟨b,rest,e,hb,hbase,BS,?_⟩)⟩
 ·refine ⟨_,hbase,?_,fun e=>absurd e o7⟩
  have e1:(⟨b,0,none⟩:Addr).add x=⟨b,x,none⟩:=by unfold Addr.add;split<;>simp_all
  rw [e1,bO BS,List.getElem?_append_left (List.getElem?_eq_some_iff.1 hx).1];exact hx
 ·rw [ri] at hx
  split at hx
  ·rename_i hx0
   cases hx
   have es:sub' x=((ρ m).base,(ρ m).cap):=by rw [N5,hx0];simp
   rw [es]
   refine ⟨Lj,p3,fun i v hv=> ?_⟩
   have hvs:aF abS 0 (ai u' lm)=aI u' lm:=by
    unfold aI
    have: ∀(cs:List cD) (z:Nat),(∀c∈cs,∃v,c= .flat v)->aF abS z cs=cs.map aR:=by
     intro cs
     induction cs with
     |nil=>intro _ _;rfl
     |cons c r ih=>
      intro z hz
      obtain ⟨v,rfl⟩:=hz c (by simp)
      simp only [aF,List.map_cons,ih (z+1) fun c hc=>hz c (by simp [hc])]
      rfl
    exact this _ 0 fun c hc=>by
     obtain ⟨x2,_,h2⟩:=List.mem_flatMap.1 hc
     exact St.views.dL u' Lj x2 c h2
   obtain ⟨a,k1,k2,_⟩:=q1 i v (by rw [hvs];exact hv)
   rcases q4 hrm with ⟨_,h0,_⟩|⟨bm,af1,ae1,em,U9,SH,hhm,aeo⟩
   ·rw [List.eq_nil_of_length_eq_zero h0] at hv;simp [aI,ai] at hv
   ·rw [SH] at k1
    cases k1
    have hcb:cz w bm:=⟨_,_,_,hhm⟩
    obtain ⟨f1,f2⟩:=hfz bm (V3 bm U9 hcb)
    refine ⟨_,SH,?_,f1,fun _=>⟨(hst.own m bm (by rw [sq];rfl) U9).imp_right .inl,(IW.of hhm).same f2⟩⟩
    rw [<- k2]
    exact World.cell?_of_block (by rw [dX];exact f2)
  ·rename_i hx0
   have es:sub' x=sub x:=by rw [N5];exact if_neg hx0
   rw [es]
   exact (m2 x _ _ hx).mono fun b' hb'=>⟨⟨(hfz b' (SQ b' hb'.1)).1,fun e=>⟨(hb'.2 e).1,(hb'.2 e).2.same (hfz b' (SQ b' hb'.1)).2⟩⟩,(hfz b' (SQ b' hb'.1)).2⟩
 ·exact ⟨by rw [hcap.1];simp [bI,bk],hcap.2⟩
theorem Eb (hT:aX P ctx.tt) {t:TypeId} {i:TI} (ht:aG ctx.tt t=some i) {n j q:Nat} {y:AV} (h:pE i (.v (.one (.bA n j q))) y hp k):
  ∃r,aJ P ctx.X hp nm (fun Kn=>(AV.v (.one (.bA n j q))).ok Kn/\ y.ok Kn) (fun ρ=>Instr.storeAt t ((AV.v (.one (.bA n j q))).ae ρ) (y.ae ρ)) (fun _=>()) r/\ r.val=aT/\ k r:=by
 unfold pE at h
 cases hys:y.cells with
 |none=>rw [hys] at h;exact h.elim
 |some ys=>
 rw [hys] at h
 dsimp only at h
 split at h
 ·rename_i hsz
  split at h
  ·rename_i u l rk he
   split at h
   ·exact h.elim
   ·rename_i o7
    obtain ⟨o7,HG⟩:=not_or.1 o7
    split at h
    ·rename_i ps hps
     split at h
     ·rename_i hq
      split at h
      ·rename_i x' hx'
       obtain ⟨hj,h⟩:=br h
       have h:=h.2 _ rfl
       simp only [decide_eq_true_eq] at hj
       refine ⟨_,⟨fun p gN=>by simp at gN;subst gN;rw [he];simp,?_⟩,rfl,h⟩
       intro ax W ρ Kn Γ w _ hk dH _ hst
       have cm:Γ n=some (.row u l rk):=by rw [dH n (by simp),he]
       obtain ⟨o1,o2,o3,sub,m1,m2,m3,m4⟩:=hst.at_ n _ cm
       rcases (m4 o7).old HG with ⟨_,h0,_⟩|⟨b,rest,e,hb,hbase,hh,hcap⟩
       ·subst h0;simp at hj
       obtain ⟨Bl,hone,hpc⟩:=r9 ys ps hps
       have hcx:u.aL x'=setCells (u.aL (gd u l j)) q ps:=by
        have:=iS u _ _ _ hx';rw [List.append_nil] at this;exact this.symm
       have hrl:=bk u l
       have Rp:j*u.size+u.size<=l.length*u.size:=by rw [<- Nat.succ_mul];exact Nat.mul_le_mul_right _ (by omega)
       have ri: ∀m,(ai u (l.set j x'))[m]? =if j*u.size+q<=m/\ m<j*u.size+q+ps.length then ps[m- (j*u.size+q)]? else (ai u l)[m]? :=fun m=>by
        rw [mC u x' l j hj,dR _ _ _ _ (by rw [aK];omega),aK,hcx]
        by_cases h1:j*u.size<=m/\ m<j*u.size+u.size
        ·rw [if_pos h1,dR _ _ _ _ (by rw [aK];omega)]
         by_cases h2:q<=m- j*u.size/\ m- j*u.size<q+ps.length
         ·rw [if_pos h2,if_pos (by omega),show m- j*u.size- q=m- (j*u.size+q) by omega]
         ·rw [if_neg h2,if_neg (by omega)]
          have:=j8 u l j _ (m- j*u.size) (HC hj) (by omega)
          rw [show j*u.size+(m- j*u.size)=m by omega] at this
          exact this.symm
        ·rw [if_neg h1,if_neg (by omega)]
       have pL:aF sub 0 (ai u (l.set j x'))=setCells (aF sub 0 (ai u l)) (j*u.size+q) (ys.map (Cell.ae ρ)):=by
        apply List.ext_getElem?
        intro m
        rw [bl,ri,dR _ _ _ _ (by rw [bI];simp;omega),bl,(hpc ρ).1]
        simp only [List.length_map,List.getElem?_map]
        by_cases h1:j*u.size+q<=m/\ m<j*u.size+q+ps.length
        ·rw [if_pos h1,if_pos h1]
         cases hm:ps[m- (j*u.size+q)]? with
         |none=>rfl
         |some c=>exact congrArg some (Hi ((hpc ρ).2 c (List.mem_of_getElem? hm)) _)
        ·rw [if_neg h1,if_neg h1]
       have hlt:j*u.size+q+ys.length<=(aF sub 0 (ai u l)).length:=by rw [bI,hrl];omega
       have hrun:(Instr.storeAt t ((AV.v (.one (.bA n j q))).ae ρ) (y.ae ρ)).run P w= .ok () (w.setRow b (aF sub 0 (ai u (l.set j x'))++rest).toArray):=by
        have hst:=run_storeCells_at P b (j*u.size+q) e (ys.map (Cell.ae ρ)) 0 _ w hh (by simp;omega) (nZ ys hone ρ)
        have ex:(AV.v (.one (.bA n j q))).ae ρ= .pointer (some ⟨b,j*u.size+q,none⟩):=by
         simp only [AV.ae,A0.ae,Cell.ae,hbase,o2,Option.map_some]
         unfold Addr.add;split<;>simp_all
        rw [ex,oL hT ht (AV.iw hys ρ) (by simpa using hsz),hst,pL]
        congr 2
        simp only [Nat.add_zero,List.length_map]
        rw [iP _ _ _ (by simpa using hlt)]
        rw [List.take_append_of_le_length (by omega),List.drop_append_of_le_length (by omega)]
        simp
       refine ⟨ρ,_,hrun,fun _ _=>rfl,fun a ha=>absurd ha (by simp),?_⟩
       rw [fe,gp _ _ _ _ _ _ rfl]
       refine hst.write cm hb trivial (fun _ h=>by cases h) fun hfz=> ?_
       have BS:=setRow_heap w b _ (aF sub 0 (ai u (l.set j x'))++rest).toArray _ _ hh
       refine ⟨by simpa using o1,o2,by simpa using o3,sub,fun m v hm=> ?_,fun m u' l' hm=> ?_,m3,fun _=>gl.new (.inr ⟨b,rest,e,hb,hbase,BS,?_⟩)⟩
       ·refine ⟨_,hbase,?_,fun e=>absurd e o7⟩
        have e1:(⟨b,0,none⟩:Addr).add m=⟨b,m,none⟩:=by unfold Addr.add;split<;>simp_all
        rw [e1,bO BS,List.getElem?_append_left (List.getElem?_eq_some_iff.1 hm).1];exact hm
       ·rw [ri] at hm
        split at hm
        ·obtain ⟨v,hv⟩:=(hpc ρ).2 _ (List.mem_of_getElem? hm);cases hv
        ·exact (m2 m u' l' hm).mono fun b' hb'=>⟨⟨(hfz b' hb'.1).1,fun e=>⟨(hb'.2 e).1,(hb'.2 e).2.same (hfz b' hb'.1).2⟩⟩,(hfz b' hb'.1).2⟩
       ·exact ⟨by rw [hcap.1];simp [bI,bk],hcap.2⟩
      ·exact h.elim
     ·exact h.elim
    ·exact Ny hT ht hys hsz he o7 h
  ·exact h.elim
 ·exact h.elim
theorem r8: ∀(ms:List Int),fU (ms.map fun m=>Cell.raw (.int .i64 m))=some (ms.map fun m=> .flat (.int .i64 m))
 | []=>rfl
 |m::r=>by simp only [List.map_cons,fU,r8 r,Option.map_some]
theorem UP {i:TI} {n j q:Nat} {y:AV} (h:pE i (.v (.one (.fq n j q))) y hp k):pE i (.v (.one (.bA n j q))) y hp k:=by
 unfold pE at h ⊢
 cases hys:y.cells with
 |none=>rw [hys] at h;exact h.elim
 |some ys=>
 rw [hys] at h
 dsimp only at h ⊢
 split at h
 ·rename_i hsz
  rw [if_pos hsz]
  split at h
  ·rename_i u l rk he
   split at h
   ·exact h.elim
   ·rename_i o7
    rw [if_neg o7]
    split at h
    ·rename_i ms ns Yw Vh
     have ey:=fF (fun _=> {}) ys ms Yw
     have hf:fU ys=some (ms.map fun m=> .flat (.int .i64 m)):=by rw [ey];exact r8 ms
     rw [hf]
     dsimp only
     have e:setCells (u.aL (gd u l j)) q (ms.map fun m=>cD.flat (.int .i64 m))=(qF q ms ns).map fun m=> .flat (.int .i64 m):=by
      rw [k8 _ _ Vh,vy,lD]
     split at h
     ·rename_i x' hx'
      obtain ⟨h1,h⟩:=br h
      simp only [decide_eq_true_eq] at h1
      have hl:ys.length=ms.length:=by rw [ey];simp
      rw [if_pos (by simpa [<- hl] using h1),e,hx']
      exact h
     ·exact h.elim
    ·exact h.elim
  ·exact h.elim
 ·exact h.elim
theorem Nw (hT:aX P ctx.tt) {t:TypeId} {i:TI} (ht:aG ctx.tt t=some i) {x y:AV} (h:pE i x y hp k):
  ∃r,aJ P ctx.X hp nm (fun Kn=>x.ok Kn/\ y.ok Kn) (fun ρ=>Instr.storeAt t (x.ae ρ) (y.ae ρ)) (fun _=>()) r/\ r.val=aT/\ k r:=by
 have core: ∀ {ρ:Env} {w:World} {n b off:Nat} {cs ys:List Cell} {e:TypeId} {v:Value},y.cells=some ys->ys.length=i.size->mT ys=true->(ρ n).blk=some b->w.heap[b]? =some (.cells (cs.map (Cell.ae ρ)).toArray e (0,0))->off+ys.length<=cs.length->v= .pointer (some ⟨b,off,none⟩)->
   (Instr.storeAt t v (y.ae ρ)).run P w= .ok () (w.setRow b ((setCells cs off ys).map (Cell.ae ρ)).toArray):=by
  intro ρ w n b off cs ys e v hys hsz hone hb hh hl hv
  have hst:=run_storeCells_at P b off e (ys.map (Cell.ae ρ)) 0 _ w hh (by simp;omega) (nZ ys hone ρ)
  rw [hv,oL hT ht (AV.iw hys ρ) (by simpa using hsz),hst]
  congr 2
  simp only [Nat.add_zero,List.length_map,Iy (Cell.ae ρ) ys cs off hl]
 unfold pE at h
 split at h
 ·rename_i n off ys hys
  split at h
  ·rename_i hsz
   split at h
   ·rename_i hone
    split at h
    ·rename_i cs e he
     split at h
     ·rename_i hl
      refine ⟨_,⟨fun p gN=>by simp at gN;subst gN;rw [he];simp,?_⟩,rfl,h⟩
      intro ax W ρ Kn Γ w _ hk dH _ hst
      have cm:Γ n=some (.cells cs e):=by rw [dH n (by simp),he]
      obtain ⟨b,hb,hh⟩:=hst.at_ n _ cm
      have hrun:=core hys hsz hone hb hh hl (lV hb)
      refine ⟨ρ,_,hrun,fun _ _=>rfl,fun a ha=>absurd ha (by simp),?_⟩
      rw [fe,gp _ _ _ _ _ _ rfl]
      refine hst.write cm hb (fun c hc=> ?_) (fun _ h=>by cases h) fun _=>⟨b,hb,by rw [setRow_heap _ _ _ _ _ _ hh]⟩
      rcases qN hl hc with h1|h1
      ·exact (hst.kn n _ cm).2 c h1
      ·exact AV.wq hys hk.2 c h1
     ·exact h.elim
    ·exact h.elim
   ·exact h.elim
  ·exact h.elim
 ·rename_i n off ys hys
  split at h
  ·rename_i hsz
   split at h
   ·rename_i cs e he
    split at h
    ·rename_i ns ms Vh Yw
     obtain ⟨hl,h⟩:=br h
     simp only [decide_eq_true_eq] at hl
     have ec:=fF (fun _=> {}) cs ns Vh
     have ey:=fF (fun _=> {}) ys ms Yw
     have gw:(qF off ms ns).map (fun q=>Cell.raw (.int .i64 q))=setCells cs off ys:=by
      rw [vy,lD,<- ec,<- ey]
     rw [gw] at h
     have hone:mT ys=true:=by
      rw [ey];exact JQ ms
     refine ⟨_,⟨fun p gN=>by simp at gN;subst gN;rw [he];simp,?_⟩,rfl,h⟩
     intro ax W ρ Kn Γ w _ hk dH _ hst
     have cm:Γ n=some (.cells cs e):=by rw [dH n (by simp),he]
     obtain ⟨b,hb,hh⟩:=hst.at_ n _ cm
     have hrun:=core hys hsz hone hb hh hl (mJ hb)
     refine ⟨ρ,_,hrun,fun _ _=>rfl,fun a ha=>absurd ha (by simp),?_⟩
     rw [fe,gp _ _ _ _ _ _ rfl]
     refine hst.write cm hb (fun c hc=> ?_) (fun _ h=>by cases h) fun _=>⟨b,hb,by rw [setRow_heap _ _ _ _ _ _ hh]⟩
     rcases qN hl hc with h1|h1
     ·exact (hst.kn n _ cm).2 c h1
     ·exact AV.wq hys hk.2 c h1
    ·exact h.elim
   ·exact h.elim
  ·exact h.elim
 ·rename_i n j q ys hys
  exact Eb hT ht (by unfold pE;rw [hys];exact h)
 ·rename_i n j q ys hys
  exact Eb hT ht (UP (by unfold pE;rw [hys];exact h))
 ·exact h.elim
theorem nQ (Kn:Nat->Prop):aT.ok Kn:=fun a ha=>absurd ha (by simp)
theorem vp (cs:List Cell) (e:TypeId) (v:AV) (AF:(Nat->Prop)->Prop) (f:Env->Sem Value) (hok: ∀Kn,AF Kn-> ∀c∈cs,c.ok Kn)
  (hv: ∀Kn,v.ok (rq Kn nm)) (hf: ∀(ρ:Env) (w:World),(f ρ).run P w= .ok (v.ae (aZ ρ nm {blk:=some w.heap.size})) (w.alloc (.cells (cs.map (Cell.ae ρ)).toArray e (0,0)))):
  aJ P ctx.X hp nm AF f (fun ρ=>v.ae ρ) {val:=v,fresh:= [.cells cs e]} :=by
 refine ⟨fun p hp=>absurd hp (by simp),?_⟩
 intro ax W ρ Kn Γ w _ hk _ hfr hst
 have hn: ¬Kn nm:=by simpa using hfr 0 (by simp)
 refine ⟨aZ ρ nm {blk:=some w.heap.size},_,hf ρ w,bY hn,?_,?_⟩
 ·rw [oD];exact hv Kn
 ·rw [oD,RE];exact hst.alloc hn (hok Kn hk)
theorem xI (ρ:Env) (w:World) (off:Nat):(AV.v (.one (.ptr nm off))).ae (aZ ρ nm {blk:=some w.heap.size})= .pointer (some ⟨w.heap.size,off,none⟩):=by
 simp [AV.ae,A0.ae,Cell.ae,addrOf,aZ]
theorem Pn (hT:aX P ctx.tt) {t:TypeId} {i:TI} (ht:aG ctx.tt t=some i):
  aJ P ctx.X hp nm (fun _=>True) (fun _=>Instr.alloc t true (.tuple #[])) (fun ρ=>(AV.v (.one (.ptr nm 0))).ae ρ) {val:= .v (.one (.ptr nm 0)),fresh:= [.cells (gX i.zero) t]} :=by
 refine vp _ _ _ _ _ (fun _ _=>Ir _ _) (fun _=> .inr rfl) fun ρ w=> ?_
 rw [xI]
 simp [Instr.alloc,hT.z ht,newVar,newRow,gX,-List.map_map,B1]
theorem VD {t:TypeId} {x:AV} {xs:List Cell} (hx:x.cells=some xs):
  aJ P ctx.X hp nm (fun Kn=>x.ok Kn) (fun ρ=>Instr.box t (x.ae ρ)) (fun ρ=>(AV.v (.one (.ptr nm 0))).ae ρ) {val:= .v (.one (.ptr nm 0)),fresh:= [.cells xs t]} :=by
 refine vp _ _ _ _ _ (fun Kn hk=>AV.wq hx hk) (fun _=> .inr rfl) fun ρ w=> ?_
 rw [xI]
 simp [Instr.box,newVar,newRow,AV.iw hx]
end
end Go.Ev
