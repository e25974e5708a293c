/- Each operation, but for calls, does what 'opE' says. -/
import Derived.Test.YtlkgabjhkfhgaaaGreatEvB
noncomputable section
set_option linter.unusedSectionVars false
set_option linter.unusedVariables false
set_option linter.unusedSimpArgs false
namespace Go.Ev
open Go.RowKit
def aO (P:Program) (tt:List (Nat×TI)):Prop:= ∀t i,aJ tt t=some i->P.underlying t=some i.desc/\
 0<i.size/\ ∃inf,P.info? t=some inf/\ inf.size=i.size/\ inf.bytes=i.bytes/\ inf.zero=some i.zero/\ (cY i.desc=true->P.stoodInHeld t=false/\ P.eqGuardType P.depth t=false)
section
variable {P:Program} {tt:List (Nat×TI)} {t:TypeId} {i:TI}
theorem aO.u (h:aO P tt) (ht:aJ tt t=some i) (w:World):(underlying t).run P w= .ok i.desc w:=run_underlying (h t i ht).1 w
theorem aO.ti (h:aO P tt) (ht:aJ tt t=some i) (w:World): ∃inf,(typeInfo t).run P w= .ok inf w/\ inf.size=i.size/\ inf.bytes=i.bytes/\ inf.zero=some i.zero:=by
 obtain ⟨_,_,inf,h1,h2,h3,h4,_⟩:=h t i ht
 exact ⟨inf,by simp [typeInfo,h1],h2,h3,h4⟩
theorem aO.sz (h:aO P tt) (ht:aJ tt t=some i) (w:World):(sizeOf t).run P w= .ok i.size w:=by
 obtain ⟨inf,h1,h2,_⟩:=h.ti ht w
 simp [sizeOf,h1,h2]
theorem aO.z (h:aO P tt) (ht:aJ tt t=some i) (w:World):(zeroValue t).run P w= .ok i.zero w:=by
 obtain ⟨inf,h1,_,_,h4⟩:=h.ti ht w
 simp [zeroValue,h1,h4]
theorem aO.ag (h:aO P tt) (ht:aJ tt t=some i) (w:World):(isAgg t).run P w= .ok (cY i.desc) w:=by
 simp only [isAgg,Sem.run_bind,h.u ht w,Result.andThen_ok,cY]
 cases i.desc<;>rfl
end
theorem gh (f:Cell->Value) (cs:List Cell) (off m:Nat):((cs.drop off).take m).map f=((cs.map f).drop off).take m:=by simp [List.map_drop,List.map_take]
section
variable {P:Program} {ctx:Ctx} {hp:HP} {nm:Nat} {k:Rec->Prop}
theorem bL {w:World} {b:Nat} {cs:List Value} {e:TypeId} (h:w.heap[b]? =some (.cells cs.toArray e (0,0))) (o:Nat):w.cell? ⟨b,o,none⟩=cs[o]? :=by
 simp [World.cell?,h]
theorem jL (hT:aO P ctx.tt) {t:TypeId} {i:TI} (ht:aJ ctx.tt t=some i) {w:World} {b off:Nat} {cs rest:List Value} {e:TypeId}
  (hh:w.heap[b]? =some (.cells (cs++rest).toArray e (0,0))):
  (cY i.desc=true->off+i.size<=cs.length->(loadVar t ⟨b,off,none⟩).run P w= .ok (.agg ((cs.drop off).take i.size).toArray) w)/\
  (cY i.desc=false-> ∀v,cs[off]? =some v->(loadVar t ⟨b,off,none⟩).run P w= .ok v w):=by
 constructor
 ·intro ha hl
  have hlen:((cs.drop off).take i.size).length=i.size:=by simp;omega
  have hc: ∀j v,((cs.drop off).take i.size)[j]? =some v->w.cell? ((⟨b,off,none⟩:Addr).add j)=some v:=by
   intro j v hj
   have e1:(⟨b,off,none⟩:Addr).add j=⟨b,off+j,none⟩:=by unfold Addr.add;split<;>simp_all
   rw [e1,bL hh]
   rw [List.getElem?_take] at hj
   split at hj
   ·rename_i QJ
    rw [List.getElem?_drop] at hj
    rw [List.getElem?_append_left (by omega)];exact hj
   ·cases hj
  have hl:=run_loadCells_list (P:=P) w ⟨b,off,none⟩ _ hc
  rw [hlen] at hl
  simp [loadVar,hT.ag ht,ha,hT.sz ht,hl]
 ·intro ha v hv
  have hlt:off<cs.length:=by
   rcases Nat.lt_or_ge off cs.length with h|h
   ·exact h
   ·rw [List.getElem?_eq_none h] at hv;cases hv
  have hc:w.cell? ⟨b,off,none⟩=some v:=by rw [bL hh,List.getElem?_append_left hlt,hv]
  simp [loadVar,hT.ag ht,ha,hc]
theorem Ox (hT:aO P ctx.tt) {t:TypeId} {i:TI} (ht:aJ ctx.tt t=some i) {cs:List Cell} {n off:Nat} {e:TypeId} (he:hp n=some (.cells cs e)) (h:vN i cs n off k):
  ∃r,aM P ctx.X hp nm (fun _=>True) (fun ρ=>Instr.loadAt t (.pointer (addrOf ρ n off))) (fun ρ=>r.val.af ρ) r/\ k r:=by
 unfold vN at h
 split at h
 ·rename_i ha
  split at h
  ·rename_i hl
   refine ⟨_,aM.pure ?_,h⟩
   intro ay W ρ Kn Γ w _ _ iC hst
   have bN:Γ n=some (.cells cs e):=by rw [iC n (by simp),he]
   obtain ⟨b,hb,hh⟩:=hst.at_ n _ bN
   refine ⟨?_,?_⟩
   ·have:=(jL hT ht (off:=off) (rest:= []) (by simpa using hh)).1 ha (by simpa using hl)
    simp only [Instr.loadAt,Instr.sureAddr,addrOf,hb,Option.map_some,Sem.run_bind,Sem.run_pure,Result.andThen_ok,this,AV.af,A0.af,gh]
   ·intro c hc
    exact (hst.kn n _ bN).2 c (List.mem_of_mem_drop (List.mem_of_mem_take hc))
  ·exact h.elim
 ·rename_i ha
  split at h
  ·rename_i c hc
   refine ⟨_,aM.pure ?_,h⟩
   intro ay W ρ Kn Γ w _ _ iC hst
   have bN:Γ n=some (.cells cs e):=by rw [iC n (by simp),he]
   obtain ⟨b,hb,hh⟩:=hst.at_ n _ bN
   refine ⟨?_,?_⟩
   ·have:=(jL hT ht (off:=off) (rest:= []) (by simpa using hh)).2 (by simpa using ha) (c.af ρ) (by simp [hc])
    simp only [Instr.loadAt,Instr.sureAddr,addrOf,hb,Option.map_some,Sem.run_bind,Sem.run_pure,Result.andThen_ok,this,AV.af,A0.af]
   ·exact (hst.kn n _ bN).2 c (List.mem_of_getElem? hc)
  ·exact h.elim
theorem dH (a:Addr) (m n:Nat):(a.add m).add n=a.add (m+n):=by
 unfold Addr.add;split<;>split<;>simp_all<;>omega
theorem br {b:Bool} {p:Prop} (h:ob b p):b=true/\ p:=by cases b<;>first|exact h.elim|exact ⟨rfl,h⟩
theorem gp (ρ:Env): ∀(cs:List Cell) (ns:List Int),iI cs=some ns->cs=ns.map fun n=>Cell.raw (.int .i64 n)
 | [],ns,h=>by simp only [iI,Option.some.injEq] at h;subst h;rfl
 |c::r,ns,h=>by
  unfold iI at h
  split at h
  ·simp_all
  ·rename_i n r' heq
   cases heq
   split at h
   ·rename_i l hl;cases h;rw [gp ρ r l hl];rfl
   ·cases h
  ·cases h
theorem sD: ∀(m off:Nat) (ns:List Int),off+m<=ns.length->nX ns off m=((ns.map fun n=>Cell.raw (.int .i64 n)).drop off).take m
 |0,off,ns,_=>by simp [nX]
 |m+1,off,ns,h=>by
  rw [nX,sD m (off+1) ns (by omega),List.drop_eq_getElem_cons (i:=off) (by simp;omega),List.take_succ_cons,List.getElem_map,List.getD,List.getElem?_eq_getElem (by omega)]
  rfl
theorem ES (off:Nat) (y:Int): ∀(ns:List Int) (q:Nat),q<=off->uJ off y q ns=ns.set (off- q) y
 | [],q,_=>by simp [uJ]
 |n::r,q,h=>by
  rw [uJ]
  by_cases e:off=q
  ·subst e
   have: ∀(l:List Int) (p:Nat),off<p->uJ off y p l=l:=by
    intro l
    induction l with
    |nil=>intro p _;rfl
    |cons a l ih=>
     intro p hp
     rw [uJ,ih _ (by omega)]
     have:Nat.beq off p=false:=by
      cases hb:Nat.beq off p with
      |false=>rfl
      |true=>exact absurd (Nat.eq_of_beq_eq_true hb) (by omega)
     rw [this];rfl
   have hb:Nat.beq off off=true:=Nat.beq_refl off
   rw [this r (off+1) (by omega),hb];simp
  ·rw [ES off y r (q+1) (by omega)]
   have hb:Nat.beq off q=false:=by
    cases hb:Nat.beq off q with
    |false=>rfl
    |true=>exact absurd (Nat.eq_of_beq_eq_true hb) e
   rw [hb,show off- q=(off- (q+1))+1 by omega];simp
theorem uI: ∀(ys ns:List Int) (off:Nat),p8 off ys ns=setCells ns off ys
 | [],_,_=>rfl
 |y::r,ns,off=>by rw [p8,uI r,ES off y ns 0 (Nat.zero_le _)];rfl
theorem c6 (sub:Nat->Option Addr×Nat): ∀(cs:List cl) (q i:Nat),(aE sub q cs)[i]? =(cs[i]?).map (kE (sub (q+i)))
 | [],q,i=>by simp [aE]
 |c::r,q,0=>by simp [aE]
 |c::r,q,i+1=>by
  simp only [aE,List.getElem?_cons_succ]
  rw [c6 sub r,show q+1+i=q+(i+1) by omega]
theorem mo (t:Ty): ∀(l:List t.T) (j:Nat) (x:t.T) (q:Nat),l[j]? =some x->q<t.size->(ax t l)[j*t.size+q]? =(t.aQ x)[q]?
 | [],j,x,q,h,_=>by simp at h
 |y::r,0,x,q,h,hq=>by
  simp only [List.getElem?_cons_zero,Option.some.injEq] at h;subst h
  simp only [ax,List.flatMap_cons,Nat.zero_mul,Nat.zero_add]
  rw [List.getElem?_append_left (by rw [aR];exact hq)]
 |y::r,j+1,x,q,h,hq=>by
  simp only [ax,List.flatMap_cons]
  rw [List.getElem?_append_right (by rw [aR,Nat.add_mul];omega),aR,show (j+1)*t.size+q- t.size=j*t.size+q by rw [Nat.add_mul];omega]
  exact mo t r j x q (by simpa using h) hq
theorem Ki {t:Ty} {l:List t.T} {j:Nat} (h:j<l.length):l[j]? =some (gd t l j):=by
 simp [gd,List.getD,h]
theorem J5 {u' u:Ty} {l:List u'.T} {l':List u.T} (h:iy u' u l=some l'):cl.sl u' l=cl.sl u l':=by
 unfold iy at h
 split at h
 ·rename_i e;subst e;cases h;rfl
 ·cases h
theorem mc: ∀(t:Ty) (cs:List cl) (x:t.T) (r:List cl),iP t cs=some (x,r)->cs=t.aQ x++r
 | .int k,cs,x,r,h=>by
  simp only [iP] at h
  split at h
  ·split at h
   ·rename_i e;subst e;cases h;rfl
   ·cases h
  ·cases h
 | .bool,cs,x,r,h=>by
  simp only [iP] at h
  split at h
  ·cases h;rfl
  ·cases h
 | .str,cs,x,r,h=>by
  simp only [iP] at h
  split at h
  ·cases h;rfl
  ·cases h
 | .prod a b,cs,x,r,h=>by
  simp only [iP] at h
  split at h
  ·rename_i x1 r1 h1
   split at h
   ·rename_i y r2 h2
    cases h
    rw [mc a _ _ _ h1,mc b _ _ _ h2]
    simp [Ty.aQ]
   ·cases h
  ·cases h
 | .sl u,cs,x,r,h=>by
  simp only [iP] at h
  split at h
  ·split at h
   ·rename_i l' hl
    cases h
    rw [J5 hl];rfl
   ·cases h
  ·cases h
theorem Rl (Kn:Nat->Prop) (nm:Nat) (o:aF) (os:List aF) (v v':AV) (ws Yc:List (Nat×aF)) (tc uW:List Nat):
  lK (Dj Kn nm) (nm+1) {val:=v,fresh:=os,writes:=ws,aD:=tc} =lK Kn nm {val:=v',fresh:=o::os,writes:=Yc,aD:=uW} :=by
 funext m;simp only [lK,Dj,List.length_cons];apply propext
 constructor
 ·rintro ((h|h)|h)
  ·exact .inl h
  ·exact .inr (by omega)
  ·exact .inr (by omega)
 ·rintro (h|h)
  ·exact .inl (.inl h)
  ·by_cases e:m=nm
   ·exact .inl (.inr e)
   ·exact .inr (by omega)
theorem Nl (Γ:HP) (nm:Nat) (o:aF) (os:List aF) (v v':AV) (tc uW:List Nat) (ho:live (some o)=some o):
  bX {val:=v,fresh:=os,aD:=tc} (nm+1) (eN Γ nm o)=bX {val:=v',fresh:=o::os,aD:=uW} nm Γ:=by
 funext m
 simp only [bX,cg,List.length_cons,eN]
 by_cases h:m=nm
 ·subst h
  have h1: ¬(m+1<=m/\ m<m+1+os.length):=by omega
  have h2:m<=m/\ m<m+(os.length+1):=by omega
  rw [if_neg h1,if_pos rfl,if_pos h2];simp [ho]
 ·by_cases h2:nm+1≤m∧m<nm+1+os.length
  ·have h3:nm≤m∧m<nm+(os.length+1):=by omega
   rw [if_pos h2,if_pos h3,show m- nm=(m- (nm+1))+1 by omega];simp
  ·have h3: ¬(nm≤m∧m<nm+(os.length+1)):=by omega
   rw [if_neg h2,if_neg h,if_neg h3]
theorem Rm (Kn:Nat->Prop) (nm:Nat) (v:AV) (tc:List Nat):lK Kn nm {val:=v,fresh:= [],aD:=tc} =Kn:=fM Kn nm v [] tc
theorem St.views {ay:iT} {W w:World} {sub:Nat->Option Addr×Nat} {okf:Nat->Prop} (v:AV) (tc:List Nat): ∀(cs:List cl) (q nm:Nat) (ρ:Env) (Kn:Nat->Prop) (Γ:HP),St ay W ρ Kn Γ w->(∀i,i<(fk nm cs).2.length-> ¬Kn (nm+i))->
  (∀b,okf b->dQ ρ Γ w b)->(∀i u l,cs[i]? =some (.sl u l)->eM w okf (sub (q+i)) u l)->
  ∃ρ',(∀m,Kn m->ρ' m=ρ m)/\ (fk nm cs).1.map (Cell.af ρ')=aE sub q cs/\ (∀c∈(fk nm cs).1,c.ok (lK Kn nm {val:=v,fresh:=(fk nm cs).2,aD:=tc}))/\
   St ay W ρ' (lK Kn nm {val:=v,fresh:=(fk nm cs).2,aD:=tc}) (bX {val:=v,fresh:=(fk nm cs).2,aD:=tc} nm Γ) w
 | [],q,nm,ρ,Kn,Γ,h,_,_,_=>⟨ρ,fun _ _=>rfl,rfl,fun c hc=>absurd hc (by simp [fk]),by simp only [fk];rw [Rm,oI];exact h⟩
 | .flat v0::r,q,nm,ρ,Kn,Γ,h,hf,hok,hn=>by
  obtain ⟨ρ',h1,h2,h3,h4⟩:=St.views v tc r (q+1) nm ρ Kn Γ h hf hok fun i u l hi=>by
   have:=hn (i+1) u l (by simpa using hi)
   rwa [show q+(i+1)=q+1+i by omega] at this
  refine ⟨ρ',h1,?_,?_,h4⟩
  ·simp only [fk,List.map_cons,h2,aE];rfl
  ·intro c hc
   simp only [fk,List.mem_cons] at hc
   rcases hc with rfl|hc
   ·trivial
   ·exact h3 c hc
 | .sl u l::r,q,nm,ρ,Kn,Γ,h,hf,hok,hn=>by
  have hnm: ¬Kn nm:=by simpa using hf 0 (by simp [fk])
  have h0:eM w okf (sub q) u l:=by simpa using hn 0 u l rfl
  let x:Loc:= {bW:=none,base:=(sub q).1,len:=l.length,cap:=(sub q).2,es:=u.size}
  have hfz: ∀b,dQ ρ Γ w b->dQ (bq ρ nm x) (eN Γ nm (.row u l 0)) w b:=fun b hb=>⟨hb.1,by
   rintro (⟨m,h1,h2⟩|⟨m,S,h1,h2⟩)
   ·unfold bq at h2
    unfold eN at h1
    split at h2
    ·exact absurd (iA.1 h2) (fun h=>by cases h)
    ·rename_i e;rw [if_neg e] at h1;exact hb.2 (.inl ⟨m,h1,h2⟩)
   ·unfold eN at h1
    split at h1
    ·cases h1
    ·exact hb.2 (.inr ⟨m,S,h1,h2⟩)⟩
  have h1:St ay W (bq ρ nm x) (Dj Kn nm) (eN Γ nm (.row u l 0)) w:=by
   refine h.swap (G:= []) (o:= .row u l 0) (x:=x) hnm h.fr (fun _ _ _=>rfl) (fun b hb=>by cases hb) (fun m p hp=> ?_) trivial (fun _ h=>by cases h) fun _ _=> ?_
   ·unfold eN at hp
    split at hp
    ·rename_i e1;cases hp;exact .inl ⟨e1,rfl⟩
    ·rename_i e1;exact .inr ⟨e1,by simp,hp⟩
   ·have e:bq ρ nm x nm=x:=by simp [bq]
    rw [bg,e]
    refine ⟨rfl,rfl,h0.2.1,fun _=>(none,0),?_⟩
    have hfl: ∀(l:List u.T) (c:cl),c∈ax u l-> ∃v,c= .flat v:=fun l c hc=>by
     obtain ⟨y,_,hy⟩:=List.mem_flatMap.1 hc
     exact fI u h0.1 y c hy
    have hv: ∀(cs:List cl),(∀c∈cs,∃v,c= .flat v)-> ∀q,aE (fun _=>(none,0)) q cs=cs.map bJ:=by
     intro cs
     induction cs with
     |nil=>intro _ q;rfl
     |cons c r ih=>
      intro hc q
      obtain ⟨v,rfl⟩:=hc c (by simp)
      simp only [aE,List.map_cons]
      rw [ih (fun c hm=>hc c (by simp [hm]))];rfl
    refine ⟨fun i v N7=> ?_,fun i u' l' hi=> ?_,fun _=>rfl,fun h=>absurd rfl h⟩
    ·rw [hv _ (hfl l)] at N7
     obtain ⟨a,e1,e2,e3⟩:=h0.2.2 i v N7
     exact ⟨a,e1,e2,fun _=>hfz _ (hok _ e3)⟩
    ·obtain ⟨v,N7⟩:=hfl l _ (List.mem_of_getElem? hi)
     cases N7
  obtain ⟨ρ',e1,e2,e3,e4⟩:=St.views v tc r (q+1) (nm+1) _ _ _ h1 (fun i hi=>by
   have:=hf (i+1) (by simpa [fk] using hi)
   rintro (h2|h2)
   ·exact this (by rwa [show nm+(i+1)=nm+1+i by omega])
   ·omega) (fun b hb=>hfz b (hok b hb)) fun i u l hi=>by
   have:=hn (i+1) u l (by simpa using hi)
   rwa [show q+(i+1)=q+1+i by omega] at this
  have ex:ρ' nm=x:=by rw [e1 nm (.inr rfl)];simp [bq]
  rw [Rl (o:= .row u l 0) (v':=v) (Yc:= []) (uW:=tc)] at e3 e4
  rw [Nl (o:= .row u l 0) (v':=v) (uW:=tc) (ho:=rfl)] at e4
  refine ⟨ρ',fun m hm=>by rw [e1 m (.inl hm)];exact ie hnm m hm,?_,?_,e4⟩
  ·simp only [fk,List.map_cons,e2,aE,Cell.af,ex];rfl
  ·intro c hc
   simp only [fk,List.mem_cons] at hc
   rcases hc with rfl|hc
   ·exact .inr ⟨Nat.le_refl _,by simp [fk]⟩
   ·exact e3 c hc
where
 fI: ∀(t:Ty),t.flat=true-> ∀(x:t.T) (c:cl),c∈t.aQ x-> ∃v,c= .flat v
  | .int _,_,x,c,hc=>by simp [Ty.aQ] at hc;exact ⟨_,hc⟩
  | .bool,_,x,c,hc=>by simp [Ty.aQ] at hc;exact ⟨_,hc⟩
  | .str,_,x,c,hc=>by simp [Ty.aQ] at hc;exact ⟨_,hc⟩
  | .prod a b,h,x,c,hc=>by
   simp only [Ty.flat,Bool.and_eq_true] at h
   simp only [Ty.aQ,List.mem_append] at hc
   rcases hc with hc|hc
   ·exact fI a h.1 _ c hc
   ·exact fI b h.2 _ c hc
  | .sl _,h,_,_,_=>by cases h
theorem Qn {t:Ty} {l:List t.T} {j q:Nat} {c:cl} (h:j<l.length) (hq:(t.aQ (gd t l j))[q]? =some c):(ax t l)[j*t.size+q]? =some c:=by
 rw [mo t l j _ q (Ki h) (by have:=(List.getElem?_eq_some_iff.1 hq).1;rwa [aR] at this)];exact hq
theorem kK: ∀(cs:List cl) (ns:List Int),oQ cs=some ns->cs=ns.map fun m=> .flat (.int .i64 m)
 | [],ns,h=>by simp only [oQ,Option.some.injEq] at h;subst h;rfl
 |c::r,ns,h=>by
  unfold oQ at h
  split at h
  ·simp_all
  ·rename_i n r' heq
   cases heq
   split at h
   ·rename_i l hl;cases h
    rw [kK r l hl];rfl
   ·cases h
  ·cases h
theorem C9 (nm:Nat): ∀(ns:List Int),fk nm (ns.map fun m=> .flat (.int .i64 m))=(ns.map fun m=> .raw (.int .i64 m),[])
 | []=>rfl
 |n::r=>by simp only [List.map_cons,fk,C9 nm r]
theorem C8 (nm:Nat): ∀(cs:List cl),(∀c∈cs,∃v,c= .flat v)->fk nm cs=(cs.map fun c=>Cell.raw (bJ c),[])
 | [],_=>rfl
 |c::r,h=>by
  obtain ⟨v,rfl⟩:=h c (by simp)
  simp only [fk,C8 nm r fun c hc=>h c (by simp [hc]),List.map_cons];rfl
theorem EB (hT:aO P ctx.tt) {t:TypeId} {i:TI} (ht:aJ ctx.tt t=some i) {n j q:Nat} (h:nK i (.v (.one (.cN n j q))) hp nm k):
  ∃r,aM P ctx.X hp nm (fun Kn=>(AV.v (.one (.cN n j q))).ok Kn) (fun ρ=>Instr.loadAt t ((AV.v (.one (.cN n j q))).af ρ)) (fun ρ=>r.val.af ρ) r/\ k r:=by
 unfold nK at h
 dsimp only at h
 split at h
 ·rename_i u l rk he
  split at h
  ·rename_i hsz
   obtain ⟨hj,h⟩:=br h
   simp only [decide_eq_true_eq] at hj
   generalize hvw:fk nm (cy u l j q i.size)=z at h
   obtain ⟨cs,os⟩:=z
   dsimp only at h
   split at h
   ·rename_i v hv
    refine ⟨_,⟨fun p hp=>absurd hp (by simp),?_⟩,h⟩
    intro ay W ρ Kn Γ w _ _ iC hfr hst
    have bN:Γ n=some (.row u l rk):=by rw [iC n (by simp),he]
    obtain ⟨o1,o2,o3,sub,m1,m2,m3,m4⟩:=hst.at_ n _ bN
    have Kl:(cy u l j q i.size).length=i.size:=by simp [cy,aR];omega
    have hcg: ∀m c,(cy u l j q i.size)[m]? =some c->(ax u l)[j*u.size+q+m]? =some c:=fun m c hm=>by
     unfold cy at hm
     rw [List.getElem?_take] at hm
     split at hm
     ·rw [List.getElem?_drop] at hm
      rw [show j*u.size+q+m=j*u.size+(q+m) by omega]
      exact Qn hj hm
     ·cases hm
    have hos:(fk nm (cy u l j q i.size)).2=os:=by rw [hvw]
    have hcs:(fk nm (cy u l j q i.size)).1=cs:=by rw [hvw]
    obtain ⟨ρ',e1,e2,e3,e4⟩:=St.views v [n] (cy u l j q i.size) (j*u.size+q) nm ρ Kn Γ hst (by rw [hos];exact hfr) (okf:=fun b=>dQ ρ Γ w b) (fun _ h=>h) fun m u' l' hm=>(m2 _ u' l' (hcg m _ hm)).mono fun b hb=>⟨hb.1,rfl⟩
    rw [hos] at e3 e4
    rw [hcs] at e2 e3
    have Ek: ∀m v,(aE sub (j*u.size+q) (cy u l j q i.size))[m]? =some v-> ∃a,(ρ n).base=some a/\ w.cell? (a.add (j*u.size+q+m))=some v:=fun m v hm=>by
     rw [c6] at hm
     obtain ⟨c,hc,rfl⟩:=Option.map_eq_some_iff.1 hm
     have:=m1 (j*u.size+q+m) (kE (sub (j*u.size+q+m)) c) (by rw [c6,hcg m c hc];simp)
     obtain ⟨a,a1,a2,_⟩:=this
     exact ⟨a,a1,a2⟩
    have hpos:=(hT t i ht).2.1
    obtain ⟨a,ha,_⟩: ∃a,(ρ n).base=some a/\ True:=by
     have: ∃v,(aE sub (j*u.size+q) (cy u l j q i.size))[0]? =some v:=⟨_,List.getElem?_eq_getElem (by rw [bM,Kl];exact hpos)⟩
     obtain ⟨v,hv⟩:=this
     obtain ⟨a,h1,_⟩:=Ek 0 v hv
     exact ⟨a,h1,trivial⟩
    have hcell: ∀m v,(aE sub (j*u.size+q) (cy u l j q i.size))[m]? =some v->w.cell? ((a.add (j*u.size+q)).add m)=some v:=fun m v hm=>by
     obtain ⟨a',h1,h2⟩:=Ek m v hm
     rw [ha] at h1;cases h1
     rw [dH];exact h2
    have hlen:(aE sub (j*u.size+q) (cy u l j q i.size)).length=i.size:=by rw [bM,Kl]
    have VX:(loadVar t (a.add (j*u.size+q))).run P w= .ok (v.af ρ') w/\ v.ok (lK Kn nm {val:=v,fresh:=os,aD:= [n]}):=by
     unfold rP at hv
     split at hv
     ·rename_i pP
      cases hv
      have N4:=run_loadCells_list (P:=P) w (a.add (j*u.size+q)) _ hcell
      rw [hlen] at N4
      exact ⟨by simp [loadVar,hT.ag ht,pP,hT.sz ht,N4,AV.af,A0.af,e2],e3⟩
     ·rename_i pP
      split at hv
      ·rename_i c
       cases hv
       simp only [List.map_cons,List.map_nil] at e2
       have:=hcell 0 (c.af ρ') (by rw [<- e2];rfl)
       rw [dH,Nat.add_zero] at this
       exact ⟨by simp [loadVar,hT.ag ht,pP,this,AV.af,A0.af],e3 c (by simp)⟩
      ·cases hv
    refine ⟨ρ',w,Eq.trans ?_ VX.1,e1,VX.2,e4⟩
    have ex:(AV.v (.one (.cN n j q))).af ρ= .pointer (some (a.add (j*u.size+q))):=by simp [AV.af,A0.af,Cell.af,ha,o2]
    show (Instr.loadAt t ((AV.v (.one (.cN n j q))).af ρ)).run P w=_
    rw [ex]
    simp only [Instr.loadAt,Instr.sureAddr,Sem.run_bind,Sem.run_pure,Result.andThen_ok]
   ·exact h.elim
  ·exact h.elim
 ·rename_i gn c kk u gx l he
  split at h<;>try (exact h.elim)
  rename_i gm hc
  split at h<;>try (exact h.elim)
  rename_i hsz
  obtain ⟨hj,h⟩:=br h
  simp only [decide_eq_true_eq] at hj
  split at h<;>try (exact h.elim)
  rename_i v hv
  refine ⟨_,aM.pure fun ay W ρ Kn Γ w _ _ iC hst=> ?_,h⟩
  have bN:Γ n=some (.gv gn c kk u gx l):=by rw [iC n (by simp),he]
  obtain ⟨_,o1,o2,_,Ud,o4⟩:=hst.at_ n _ bN
  have hfl: ∀x∈cy u l j q i.size,∃v,x= .flat v:=fun x hx=>St.views.fI u Ud _ x (List.mem_of_mem_drop (List.mem_of_mem_take hx))
  rw [C8 _ _ hfl] at hv
  rcases o4 with ⟨e0,_⟩|⟨e,b,h1,h2,_,h4,h5,_,_,h8,_⟩
  ·rw [e0] at hj;exact absurd hj (Nat.not_lt_zero _)
  have QT:=hst.at_ c _ (by rw [iC c (by simp),hc])
  rcases QT.2.1 e h1 with ⟨h9,_⟩|⟨b',rest,tt',h9,_,h11,_⟩
  ·rw [h9] at h2;cases h2
  rw [h2] at h9;cases h9
  rw [h8] at h11
  have ha:(ρ n).base=some ⟨b,0,none⟩:=by rw [<- h4,h5]
  have hcell: ∀m v,((cy u l j q i.size).map bJ)[m]? =some v->w.cell? ((⟨b,0,none⟩:Addr).add (j*u.size+q)|>.add m)=some v:=fun m v hm=>by
   rw [dH]
   have e1:(⟨b,0,none⟩:Addr).add (j*u.size+q+m)=⟨b,j*u.size+q+m,none⟩:=by unfold Addr.add;split<;>simp_all
   rw [e1,bL h11]
   rw [List.getElem?_map] at hm
   obtain ⟨x,hx,rfl⟩:=Option.map_eq_some_iff.1 hm
   unfold cy at hx
   rw [List.getElem?_take] at hx
   split at hx
   ·rw [List.getElem?_drop] at hx
    have:=Qn hj hx
    have h12:(aX u l)[j*u.size+q+m]? =some (bJ x):=by
     unfold aX
     rw [List.getElem?_map,show j*u.size+q+m=j*u.size+(q+m) by omega,this];rfl
    rw [List.getElem?_append_left (List.getElem?_eq_some_iff.1 h12).1];exact h12
   ·cases hx
  have hlen:((cy u l j q i.size).map bJ).length=i.size:=by simp [cy,aR];omega
  have ex:(AV.v (.one (.cN n j q))).af ρ= .pointer (some ((⟨b,0,none⟩:Addr).add (j*u.size+q))):=by simp [AV.af,A0.af,Cell.af,ha,o2]
  have Z1:((cy u l j q i.size).map fun c=>Cell.raw (bJ c)).map (Cell.af ρ)=(cy u l j q i.size).map bJ:=by
   rw [List.map_map];rfl
  refine ⟨?_,?_⟩
  ·show (Instr.loadAt t ((AV.v (.one (.cN n j q))).af ρ)).run P w=_
   rw [ex]
   simp only [Instr.loadAt,Instr.sureAddr,Sem.run_bind,Sem.run_pure,Result.andThen_ok]
   unfold rP at hv
   split at hv
   ·rename_i pP
    cases hv
    have N4:=run_loadCells_list (P:=P) w ((⟨b,0,none⟩:Addr).add (j*u.size+q)) _ hcell
    rw [hlen] at N4
    simp [loadVar,hT.ag ht,pP,hT.sz ht,N4,AV.af,A0.af,Z1]
   ·rename_i pP
    split at hv
    ·rename_i c0 hc0
     cases hv
     have WN:=Z1
     dsimp only at hc0
     rw [hc0] at WN
     simp only [List.map_cons,List.map_nil] at WN
     have:=hcell 0 (c0.af ρ) (by rw [<- WN];rfl)
     rw [dH,Nat.add_zero] at this
     simp [loadVar,hT.ag ht,pP,this,AV.af,A0.af]
    ·cases hv
  ·unfold rP at hv
   have hok: ∀c∈(cy u l j q i.size).map fun c=>Cell.raw (bJ c),c.ok Kn:=fun c hc=>by
    obtain ⟨_,_,rfl⟩:=List.mem_map.1 hc;trivial
   split at hv
   ·cases hv;exact hok
   ·split at hv
    ·rename_i c0 hc0
     cases hv
     dsimp only at hc0
     exact hok c0 (by rw [hc0];simp)
    ·cases hv
 ·rename_i cs he
  split at h<;>try (exact h.elim)
  rename_i hj;subst hj
  have Kj: ∀ {ay:iT} {W:World} {ρ:Env} {Kn:Nat->Prop} {Γ:HP} {w:World},(∀m∈ [n],Γ m=hp m)->St ay W ρ Kn Γ w-> ∀m c,cs[q+m]? =some c-> ∃a,(ρ n).base=some a/\ w.cell? ((a.add q).add m)=some (c.af ρ):=fun iC hst m c hm=>by
   have g:=hst.at_ n (.rc cs) (by rw [iC n (by simp),he])
   obtain ⟨a,h1,h2,_⟩:=g.2 _ _ hm
   exact ⟨a,h1,by rw [dH];exact h2⟩
  have ex: ∀ {ρ:Env} {a:Addr},(ρ n).base=some a->(AV.v (.one (.cN n 0 q))).af ρ= .pointer (some (a.add q)):=fun ha=>by simp [AV.af,A0.af,Cell.af,ha]
  unfold vN at h
  split at h
  ·rename_i pP
   split at h
   ·rename_i hl
    refine ⟨_,aM.pure ?_,h⟩
    intro ay W ρ Kn Γ w _ _ iC hst
    have bN:Γ n=some (.rc cs):=by rw [iC n (by simp),he]
    have hpos:=(hT t i ht).2.1
    obtain ⟨c0,hc0⟩: ∃c,cs[q+0]? =some c:=⟨_,List.getElem?_eq_getElem (by omega)⟩
    obtain ⟨a,ha,_⟩:=Kj iC hst 0 c0 hc0
    have hcell: ∀m v,(((cs.drop q).take i.size).map (Cell.af ρ))[m]? =some v->w.cell? ((a.add q).add m)=some v:=fun m v hm=>by
     rw [List.getElem?_map] at hm
     obtain ⟨c,hc,rfl⟩:=Option.map_eq_some_iff.1 hm
     rw [List.getElem?_take] at hc
     split at hc
     ·rw [List.getElem?_drop] at hc
      obtain ⟨a',h1,h2⟩:=Kj iC hst m c hc
      rw [ha] at h1;cases h1;exact h2
     ·cases hc
    have N4:=run_loadCells_list (P:=P) w (a.add q) _ hcell
    have hlen:(((cs.drop q).take i.size).map (Cell.af ρ)).length=i.size:=by simp;omega
    rw [hlen] at N4
    refine ⟨?_,fun c hc=>(hst.kn n _ bN).2 c (List.mem_of_mem_drop (List.mem_of_mem_take hc))⟩
    show (Instr.loadAt t ((AV.v (.one (.cN n 0 q))).af ρ)).run P w=_
    rw [ex ha]
    simp only [Instr.loadAt,Instr.sureAddr,Sem.run_bind,Sem.run_pure,Result.andThen_ok]
    simp [loadVar,hT.ag ht,pP,hT.sz ht,N4,AV.af,A0.af]
   ·exact h.elim
  ·rename_i pP
   split at h
   ·rename_i c hc
    refine ⟨_,aM.pure ?_,h⟩
    intro ay W ρ Kn Γ w _ _ iC hst
    have bN:Γ n=some (.rc cs):=by rw [iC n (by simp),he]
    obtain ⟨a,ha,h2⟩:=Kj iC hst 0 c hc
    rw [dH,Nat.add_zero] at h2
    refine ⟨?_,(hst.kn n _ bN).2 c (List.mem_of_getElem? hc)⟩
    show (Instr.loadAt t ((AV.v (.one (.cN n 0 q))).af ρ)).run P w=_
    rw [ex ha]
    simp only [Instr.loadAt,Instr.sureAddr,Sem.run_bind,Sem.run_pure,Result.andThen_ok]
    simp [loadVar,hT.ag ht,pP,h2,AV.af,A0.af]
   ·exact h.elim
 ·exact h.elim
theorem Uv {i:TI} {n j q:Nat} (h:nK i (.v (.one (.eZ n j q))) hp nm k):nK i (.v (.one (.cN n j q))) hp nm k:=by
 unfold nK at h ⊢
 dsimp only at h ⊢
 split at h
 ·rename_i u l rk he
  split at h
  ·rename_i ns He
   obtain ⟨h1,h⟩:=br h
   obtain ⟨h2,h⟩:=br h
   simp only [decide_eq_true_eq] at h1
   have hl:ns.length=u.size:=by
    have:=aR u (gd u l j)
    rw [kK _ _ He] at this
    simpa using this
   have e:fk nm (cy u l j q i.size)=(nX ns q i.size,[]):=by
    unfold cy
    rw [kK _ _ He,<- List.map_drop,<- List.map_take,C9,sD _ _ _ (by omega),<- List.map_drop,<- List.map_take]
   rw [he]
   dsimp only
   rw [if_pos h1,h2,e]
   exact h
  ·exact h.elim
 ·exact h.elim
theorem Oy (hT:aO P ctx.tt) {t:TypeId} {i:TI} (ht:aJ ctx.tt t=some i) {x:AV} (h:nK i x hp nm k):
  ∃r,aM P ctx.X hp nm (fun Kn=>x.ok Kn) (fun ρ=>Instr.loadAt t (x.af ρ)) (fun ρ=>r.val.af ρ) r/\ k r:=by
 unfold nK at h
 split at h
 ·rename_i n off
  split at h
  ·rename_i cs e he
   obtain ⟨r,h1,h2⟩:=Ox (nm:=nm) hT ht he h
   exact ⟨r,⟨h1.1,fun ay W ρ Kn Γ w a _ c d e=>h1.2 ay W ρ Kn Γ w a trivial c d e⟩,h2⟩
  ·exact h.elim
 ·rename_i n off
  split at h
  ·rename_i cs e he
   split at h
   ·rename_i ns He
    obtain ⟨hl,h⟩:=br h
    simp only [decide_eq_true_eq] at hl
    split at h
    ·rename_i v hv
     refine ⟨_,aM.pure ?_,h⟩
     intro ay W ρ Kn Γ w _ _ iC hst
     have bN:Γ n=some (.cells cs e):=by rw [iC n (by simp),he]
     obtain ⟨b,hb,hh⟩:=hst.at_ n _ bN
     have Yn:=gp ρ cs ns He
     have hlen:cs.length=ns.length:=by rw [Yn];simp
     have bB:nX ns off i.size=(cs.drop off).take i.size:=by rw [sD _ _ _ (by omega),<- Yn]
     rw [bB] at hv
     have hrun:=jL hT ht (off:=off) (w:=w) (rest:= []) (cs:=cs.map (Cell.af ρ)) (b:=b) (e:=e) (by simpa using hh)
     unfold rP at hv
     split at hv
     ·rename_i ha
      cases hv
      refine ⟨?_,fun c hc=>(hst.kn n _ bN).2 c (List.mem_of_mem_drop (List.mem_of_mem_take hc))⟩
      have:=hrun.1 ha (by simpa using hl)
      simp only [Instr.loadAt,Instr.sureAddr,AV.af,A0.af,Cell.af,addrOf,hb,Option.map_some,Sem.run_bind,Sem.run_pure,Result.andThen_ok,this,gh]
     ·rename_i ha
      split at hv
      ·rename_i c hc
       cases hv
       have hcs:cs[off]? =some c:=by
        have h0:((cs.drop off).take i.size)[0]? =some c:=by rw [hc];rfl
        rw [List.getElem?_take] at h0
        split at h0
        ·rw [List.getElem?_drop] at h0;simpa using h0
        ·cases h0
       refine ⟨?_,(hst.kn n _ bN).2 c (List.mem_of_getElem? hcs)⟩
       have:=hrun.2 (by simpa using ha) (c.af ρ) (by simp [hcs])
       simp only [Instr.loadAt,Instr.sureAddr,AV.af,A0.af,Cell.af,addrOf,hb,Option.map_some,Sem.run_bind,Sem.run_pure,Result.andThen_ok,this]
      ·cases hv
    ·exact h.elim
   ·exact h.elim
  ·exact h.elim
 ·rename_i n j q
  exact EB hT ht (by unfold nK;exact h)
 ·rename_i n j q
  exact EB hT ht (Uv (by unfold nK;exact h))
 ·exact h.elim
theorem kO {α β:Type} (f:α->β): ∀(ys cs:List α) (off:Nat),(setCells cs off ys).map f=setCells (cs.map f) off (ys.map f)
 | [],_,_=>rfl
 |y::r,cs,off=>by simp only [setCells,List.map_cons];rw [kO f r];simp [List.map_set]
theorem lF {ρ:Env} {n b off:Nat} (hb:(ρ n).bW=some b):(AV.v (.one (.ptr n off))).af ρ= .pointer (some ⟨b,off,none⟩):=by
 simp [AV.af,A0.af,Cell.af,addrOf,hb]
theorem mz {ρ:Env} {n b off:Nat} (hb:(ρ n).bW=some b):(AV.v (.one (.kV n off))).af ρ= .pointer (some ⟨b,off,none⟩):=by
 simp [AV.af,A0.af,Cell.af,addrOf,hb]
theorem rY (hT:aO P ctx.tt) {t:TypeId} {i:TI} (ht:aJ ctx.tt t=some i) {a:Addr} {v:Value} {vs:List Value} (hv:v.cells=vs.toArray) (hl:vs.length=i.size) (w:World):
  (Instr.storeAt t (.pointer (some a)) v).run P w=(storeCells a vs).run P w:=by
 simp [Instr.storeAt,Instr.sureAddr,storeVar,hT.sz ht,hv,hl]
theorem q7: ∀(ys:List Cell) (ps:List cl),fb ys=some ps->ps.length=ys.length/\ mH ys=true/\ ∀(ρ:Env),ys.map (Cell.af ρ)=ps.map bJ/\ ∀c∈ps,∃v,c= .flat v
 | [],ps,h=>by simp only [fb,Option.some.injEq] at h;subst h;exact ⟨rfl,rfl,fun ρ=>⟨rfl,by simp⟩⟩
 |y::r,ps,h=>by
  unfold fb at h
  split at h
  ·simp_all
  ·rename_i v r' heq
   cases heq
   have main: ∀qs,fb r=some qs->rT v=true->(cl.flat v::qs).length=(Cell.raw v::r).length/\ mH (Cell.raw v::r)=true/\ ∀(ρ:Env),(Cell.raw v::r).map (Cell.af ρ)=(cl.flat v::qs).map bJ/\ ∀c∈(cl.flat v::qs),∃v,c= .flat v:=fun qs hq hv=>by
    obtain ⟨h1,h2,h3⟩:=q7 r qs hq
    refine ⟨by simp [h1],by simp [mH,Cell.one,hv,h2],fun ρ=>⟨by simp [(h3 ρ).1,Cell.af,bJ],fun c hc=> ?_⟩⟩
    rcases List.mem_cons.1 hc with rfl|hc
    ·exact ⟨v,rfl⟩
    ·exact (h3 ρ).2 c hc
   split at h<;>try (cases h;done)
   all_goals
    obtain ⟨qs,hq,rfl⟩:=Option.map_eq_some_iff.1 h
    exact main qs hq rfl
  ·cases h
theorem FW {c:cl} (h: ∃v,c= .flat v) (s:Option Addr×Nat):kE s c=bJ c:=by obtain ⟨v,rfl⟩:=h;rfl
theorem eK {α:Type} : ∀(ys cs:List α) (off i:Nat),off+ys.length<=cs.length->(setCells cs off ys)[i]? =if off<=i/\ i<off+ys.length then ys[i- off]? else cs[i]? :=by
 intro ys cs off i h
 rw [gZ ys cs off h]
 simp only [List.getElem?_append,List.length_append,List.length_take,List.getElem?_take,List.getElem?_drop]
 grind
theorem qc (t:Ty) (x':t.T): ∀(l:List t.T) (j:Nat),j<l.length->ax t (l.set j x')=setCells (ax t l) (j*t.size) (t.aQ x')
 | [],j,h=>by simp at h
 |x::r,0,_=>by
  simp only [List.set_cons_zero,ax,List.flatMap_cons,Nat.zero_mul]
  rw [gZ _ _ _ (by simp [aR])]
  simp [aR]
 |x::r,j+1,h=>by
  simp only [List.length_cons] at h
  have hl:=bw t r
  have ih:=qc t x' r j (by omega)
  have hb:j*t.size+t.size<=r.length*t.size:=by rw [<- Nat.succ_mul];exact Nat.mul_le_mul_right _ (by omega)
  simp only [List.set_cons_succ,ax,List.flatMap_cons] at ih hl ⊢
  rw [ih]
  apply List.ext_getElem?
  intro i
  have e:(j+1)*t.size=j*t.size+t.size:=Nat.succ_mul _ _
  rw [eK _ _ _ _ (by rw [List.length_append,aR,aR,hl,e];omega),List.getElem?_append,eK _ _ _ _ (by rw [aR,hl];omega),List.getElem?_append]
  simp only [aR,e]
  by_cases h1:i<t.size
  ·rw [if_pos h1,if_pos h1,if_neg (by omega)]
  ·rw [if_neg h1,if_neg h1]
   by_cases h2:j*t.size<=i- t.size/\ i- t.size<j*t.size+t.size
   ·rw [if_pos h2,if_pos (by omega),show i- (j*t.size+t.size)=i- t.size- j*t.size by omega]
   ·rw [if_neg h2,if_neg (by omega)]
theorem Ik: ∀(ms:List Int),mH (ms.map fun n=>Cell.raw (.int .i64 n))=true
 | []=>rfl
 |a::r=>by simp [mH,Cell.one,rT,Ik r]
theorem St.drop {ay:iT} {W:World} {ρ:Env} {Kn:Nat->Prop} {Γ tC:HP} {w:World} (h:St ay W ρ Kn Γ w) (hs: ∀x p,tC x=some p->Γ x=some p):St ay W ρ Kn tC w:=by
 have hL: ∀b,LO ρ tC b->LO ρ Γ b:=fun b hb=>by
  rcases hb with ⟨m,h1,h2⟩|⟨m,S,h1,h2⟩
  ·obtain ⟨o,ho⟩:=Option.isSome_iff_exists.1 h1
   exact .inl ⟨m,by rw [hs m o ho];rfl,h2⟩
  ·exact .inr ⟨m,S,hs m _ h1,h2⟩
 have Z9: ∀m,(tC m).isSome=true->(Γ m).isSome=true:=fun m hm=>by
  obtain ⟨o,ho⟩:=Option.isSome_iff_exists.1 hm
  rw [hs m o ho];rfl
 exact ⟨h.fr,fun n o ho=>cm (Kn:=Kn) (h.at_ n o (hs n o ho)) (fun _ _=>rfl) (h.kn n o (hs n o ho)).1 (h.kn n o (hs n o ho)).2 (fun b hb=>⟨⟨hb.1,fun q=>hb.2 (hL b q)⟩,rfl⟩) (fun _ _ h=>h) fun _ _=>rfl,
  fun n o ho=>h.kn n o (hs n o ho),fun n m b hn hm=>h.dV n m b (Z9 n hn) (Z9 m hm),fun n b hn=>h.kq n b (Z9 n hn),fun b ⟨m,S,h1,h2⟩=>⟨(h.sW b ⟨m,S,hs m _ h1,h2⟩).1,fun ⟨m',h3,h4⟩=>(h.sW b ⟨m,S,hs m _ h1,h2⟩).2 ⟨m',Z9 m' h3,h4⟩⟩,fun n o ho=>h.s8 n o (hs n o ho)⟩
theorem Lv (hT:aO P ctx.tt) {t:TypeId} {i:TI} (ht:aJ ctx.tt t=some i) {n j q:Nat} {y:AV} {ys:List Cell} (hys:y.cells=some ys) (hsz:ys.length=i.size) {u:Ty} {l:List u.T} {rk:Nat} (he:hp n=some (.row u l rk)) (oa: ¬rk=0) (h:Lu u l rk n j q ys hp k):
  ∃r,aM P ctx.X hp nm (fun Kn=>(AV.v (.one (.cN n j q))).ok Kn/\ y.ok Kn) (fun ρ=>Instr.storeAt t ((AV.v (.one (.cN n j q))).af ρ) (y.af ρ)) (fun _=>()) r/\ r.val=qo/\ k r:=by
 unfold Lu at h
 split at h
 rotate_left
 ·exact h.elim
 rename_i m
 split at h
 rotate_left
 ·exact h.elim
 rename_i u' lm rm hm
 split at h
 ·exact h.elim
 rename_i hc
 simp only [not_or] at hc
 obtain ⟨hrm,QO,hmn,Ud,hq⟩:=hc
 have Ud:u'.flat=true:=by simpa using Ud
 split at h
 rotate_left
 ·exact h.elim
 rename_i x' hx'
 obtain ⟨hj,h⟩:=br h
 have h:=h.2 _ rfl
 simp only [decide_eq_true_eq] at hj
 refine ⟨_,⟨fun p fA=> ?_,?_⟩,rfl,h⟩
 ·simp only [List.mem_cons,List.not_mem_nil,or_false] at fA
  rcases fA with rfl|rfl
  ·rw [he];simp
  ·rw [hm];simp
 intro ay W ρ Kn Γ w _ hk iC _ hst
 have bN:Γ n=some (.row u l rk):=by rw [iC n (by simp),he]
 have Uf:Γ m=some (.row u' lm rm):=by rw [iC m (by simp),hm]
 obtain ⟨o1,o2,o3,sub,m1,m2,m3,m4⟩:=hst.at_ n _ bN
 obtain ⟨p1,p2,p3,ZI,q1,q2,q3,q4⟩:=hst.at_ m _ Uf
 rcases (m4 oa).old QO with ⟨_,h0,_⟩|⟨b,rest,e,hb,hbase,hh,hcap⟩
 ·subst h0;simp at hj
 have hcx:u.aQ x'=setCells (u.aQ (gd u l j)) q [.sl u' lm]:=by
  have:=mc u _ _ _ hx';rw [List.append_nil] at this;exact this.symm
 have WZ:=bw u l
 have hjl:j*u.size+u.size<=l.length*u.size:=by rw [<- Nat.succ_mul];exact Nat.mul_le_mul_right _ (by omega)
 have Dy: ∀x,(ax u (l.set j x'))[x]? =if x=j*u.size+q then some (.sl u' lm) else (ax u l)[x]? :=fun x=>by
  rw [qc u x' l j hj,eK _ _ _ _ (by rw [aR];omega),aR,hcx]
  by_cases h1:j*u.size<=x/\ x<j*u.size+u.size
  ·rw [if_pos h1,eK _ _ _ _ (by rw [aR];simp;omega)]
   by_cases h2:x=j*u.size+q
   ·subst h2
    rw [if_pos rfl,if_pos (by constructor<;>simp<;>omega)]
    have:j*u.size+q- j*u.size- q=0:=by omega
    rw [this];rfl
   ·rw [if_neg (by simp;omega),if_neg h2]
    have:=mo u l j _ (x- j*u.size) (Ki hj) (by omega)
    rw [show j*u.size+(x- j*u.size)=x by omega] at this
    exact this.symm
  ·rw [if_neg h1,if_neg (by omega)]
 obtain ⟨sub',Mb⟩: ∃sub':Nat->Option Addr×Nat,sub'=fun x=>if x=j*u.size+q then ((ρ m).base,(ρ m).cap) else sub x:=⟨_,rfl⟩
 have Ek:aE sub' 0 (ax u (l.set j x'))=setCells (aE sub 0 (ax u l)) (j*u.size+q) ([Cell.full m].map (Cell.af ρ)):=by
  apply List.ext_getElem?
  intro x
  rw [c6,Dy,eK _ _ _ _ (by rw [bM];simp;omega),c6]
  by_cases h1:x=j*u.size+q
  ·subst h1
   rw [if_pos rfl,if_pos (by simp),Nat.sub_self,Mb]
   simp [kE,Cell.af,p1]
  ·rw [if_neg h1,if_neg (by simp;omega),Mb,Nat.zero_add]
   simp only [if_neg h1]
 have hlt:j*u.size+q+1<=(aE sub 0 (ax u l)).length:=by rw [bM,WZ];omega
 have hrun:(Instr.storeAt t ((AV.v (.one (.cN n j q))).af ρ) (y.af ρ)).run P w= .ok () (w.setRow b (aE sub' 0 (ax u (l.set j x'))++rest).toArray):=by
  have hst:=run_storeCells_at P b (j*u.size+q) e ([Cell.full m].map (Cell.af ρ)) 0 _ w hh (by simp;omega) (nq [Cell.full m] rfl ρ)
  have ex:(AV.v (.one (.cN n j q))).af ρ= .pointer (some ⟨b,j*u.size+q,none⟩):=by
   simp only [AV.af,A0.af,Cell.af,hbase,o2,Option.map_some]
   unfold Addr.add;split<;>simp_all
  rw [ex,rY hT ht (AV.iV hys ρ) (by simpa using hsz),hst,Ek]
  congr 2
  simp only [Nat.add_zero,List.length_map]
  rw [gZ _ _ _ (by simpa using hlt)]
  rw [List.take_append_of_le_length (by omega),List.drop_append_of_le_length (by simp;omega)]
  simp
 refine ⟨ρ,_,hrun,fun _ _=>rfl,fun a ha=>absurd ha (by simp),?_⟩
 obtain ⟨XU,Ky⟩: ∃XU:HP,XU=fun x=>if x=m then none else Γ x:=⟨_,rfl⟩
 have xS:St ay W ρ Kn XU w:=hst.drop fun x p fA=>by
  rw [Ky] at fA
  dsimp only at fA
  split at fA
  ·cases fA
  ·exact fA
 have Ze:XU n=some (.row u l rk):=by rw [Ky];dsimp only;rw [if_neg (Ne.symm hmn)];exact bN
 have aaW:bX {val:=qo,writes:= [(n,.row u (l.set j x') rk),(m,.gone)],aD:= [n,m]} nm Γ=eN XU n (.row u (l.set j x') rk):=by
  funext x
  simp only [bX,eN,cg,List.length_nil,Ky]
  rw [if_neg (by omega)]
  by_cases h1:m=x
  ·subst h1
   simp [live,hmn]
  ·by_cases h2:n=x
   ·subst h2;simp [h1,live]
   ·simp [h1,h2,Ne.symm h1,Ne.symm h2]
 rw [fM,aaW]
 refine xS.write Ze hb trivial (fun _ h=>by cases h) fun hfz=> ?_
 have Kq: ∀b',dQ ρ Γ w b'->dQ ρ XU w b':=fun b' hb'=>⟨hb'.1,by
  rintro (⟨x,h1,h2⟩|⟨x,S,h1,h2⟩)
  ·rw [Ky] at h1
   dsimp only at h1
   split at h1
   ·cases h1
   ·exact hb'.2 (.inl ⟨x,h1,h2⟩)
  ·rw [Ky] at h1
   dsimp only at h1
   split at h1
   ·cases h1
   ·exact hb'.2 (.inr ⟨x,S,h1,h2⟩)⟩
 have TX: ∀b',(ρ m).bW=some b'->aZ w b'->dQ ρ XU w b':=fun b' hb' Ig=>⟨Ig,by
  rintro (⟨x,h1,h2⟩|⟨x,S,h1,h2⟩)
  ·rw [Ky] at h1
   dsimp only at h1
   split at h1
   ·cases h1
   ·rename_i hx
    exact hx (hst.dV x m b' h1 (by rw [Uf];rfl) h2 (.inl hb'))
  ·rw [Ky] at h1
   dsimp only at h1
   split at h1
   ·cases h1
   ·exact (hst.sW b' ⟨x,S,h1,h2⟩).2 ⟨m,by rw [Uf];rfl,.inl hb'⟩⟩
 have JV:=setRow_heap w b _ (aE sub' 0 (ax u (l.set j x'))++rest).toArray _ _ hh
 refine ⟨by simpa using o1,o2,by simpa using o3,sub',fun x v hx=> ?_,fun x u2 l2 hx=> ?_,m3,fun _=>gK.new (.inr ⟨b,rest,e,hb,hbase,JV,?_⟩)⟩
 ·refine ⟨_,hbase,?_,fun e=>absurd e oa⟩
  have e1:(⟨b,0,none⟩:Addr).add x=⟨b,x,none⟩:=by unfold Addr.add;split<;>simp_all
  rw [e1,bL JV,List.getElem?_append_left (List.getElem?_eq_some_iff.1 hx).1];exact hx
 ·rw [Dy] at hx
  split at hx
  ·rename_i hx0
   cases hx
   have es:sub' x=((ρ m).base,(ρ m).cap):=by rw [Mb,hx0];simp
   rw [es]
   refine ⟨Ud,p3,fun i v hv=> ?_⟩
   have hvs:aE ZI 0 (ax u' lm)=aX u' lm:=by
    unfold aX
    have: ∀(cs:List cl) (z:Nat),(∀c∈cs,∃v,c= .flat v)->aE ZI z cs=cs.map bJ:=by
     intro cs
     induction cs with
     |nil=>intro _ _;rfl
     |cons c r ih=>
      intro z hz
      obtain ⟨v,rfl⟩:=hz c (by simp)
      simp only [aE,List.map_cons,ih (z+1) fun c hc=>hz c (by simp [hc])]
      rfl
    exact this _ 0 fun c hc=>by
     obtain ⟨x2,_,h2⟩:=List.mem_flatMap.1 hc
     exact St.views.fI u' Ud x2 c h2
   obtain ⟨a,k1,k2,_⟩:=q1 i v (by rw [hvs];exact hv)
   rcases q4 hrm with ⟨_,h0,_⟩|⟨bm,aeP,adl,em,hbm,Qx,hhm,acC⟩
   ·rw [List.eq_nil_of_length_eq_zero h0] at hv;simp [aX,ax] at hv
   ·rw [Qx] at k1
    cases k1
    have hcb:aZ w bm:=⟨_,_,_,hhm⟩
    obtain ⟨f1,f2⟩:=hfz bm (TX bm hbm hcb)
    refine ⟨_,Qx,?_,f1,fun _=>⟨(hst.own m bm (by rw [Uf];rfl) hbm).imp_right .inl,(JY.of hhm).same f2⟩⟩
    rw [<- k2]
    exact World.cell?_of_block (by rw [eW];exact f2)
  ·rename_i hx0
   have es:sub' x=sub x:=by rw [Mb];exact if_neg hx0
   rw [es]
   exact (m2 x _ _ hx).mono fun b' hb'=>⟨⟨(hfz b' (Kq b' hb'.1)).1,fun e=>⟨(hb'.2 e).1,(hb'.2 e).2.same (hfz b' (Kq b' hb'.1)).2⟩⟩,(hfz b' (Kq b' hb'.1)).2⟩
 ·exact ⟨by rw [hcap.1];simp [bM,bw],hcap.2⟩
theorem C0 (hT:aO P ctx.tt) {t:TypeId} {i:TI} (ht:aJ ctx.tt t=some i) {n j q:Nat} {y:AV} (h:oC i (.v (.one (.cN n j q))) y hp k):
  ∃r,aM P ctx.X hp nm (fun Kn=>(AV.v (.one (.cN n j q))).ok Kn/\ y.ok Kn) (fun ρ=>Instr.storeAt t ((AV.v (.one (.cN n j q))).af ρ) (y.af ρ)) (fun _=>()) r/\ r.val=qo/\ k r:=by
 unfold oC at h
 cases hys:y.cells with
 |none=>rw [hys] at h;exact h.elim
 |some ys=>
 rw [hys] at h
 dsimp only at h
 split at h
 ·rename_i hsz
  split at h
  ·rename_i u l rk he
   split at h
   ·exact h.elim
   ·rename_i oa
    obtain ⟨oa,QO⟩:=not_or.1 oa
    split at h
    ·rename_i ps hps
     split at h
     ·rename_i hq
      split at h
      ·rename_i x' hx'
       obtain ⟨hj,h⟩:=br h
       have h:=h.2 _ rfl
       simp only [decide_eq_true_eq] at hj
       refine ⟨_,⟨fun p fA=>by simp at fA;subst fA;rw [he];simp,?_⟩,rfl,h⟩
       intro ay W ρ Kn Γ w _ hk iC _ hst
       have bN:Γ n=some (.row u l rk):=by rw [iC n (by simp),he]
       obtain ⟨o1,o2,o3,sub,m1,m2,m3,m4⟩:=hst.at_ n _ bN
       rcases (m4 oa).old QO with ⟨_,h0,_⟩|⟨b,rest,e,hb,hbase,hh,hcap⟩
       ·subst h0;simp at hj
       obtain ⟨u7,hone,hpc⟩:=q7 ys ps hps
       have hcx:u.aQ x'=setCells (u.aQ (gd u l j)) q ps:=by
        have:=mc u _ _ _ hx';rw [List.append_nil] at this;exact this.symm
       have WZ:=bw u l
       have hjl:j*u.size+u.size<=l.length*u.size:=by rw [<- Nat.succ_mul];exact Nat.mul_le_mul_right _ (by omega)
       have Dy: ∀m,(ax u (l.set j x'))[m]? =if j*u.size+q<=m/\ m<j*u.size+q+ps.length then ps[m- (j*u.size+q)]? else (ax u l)[m]? :=fun m=>by
        rw [qc u x' l j hj,eK _ _ _ _ (by rw [aR];omega),aR,hcx]
        by_cases h1:j*u.size<=m/\ m<j*u.size+u.size
        ·rw [if_pos h1,eK _ _ _ _ (by rw [aR];omega)]
         by_cases h2:q<=m- j*u.size/\ m- j*u.size<q+ps.length
         ·rw [if_pos h2,if_pos (by omega),show m- j*u.size- q=m- (j*u.size+q) by omega]
         ·rw [if_neg h2,if_neg (by omega)]
          have:=mo u l j _ (m- j*u.size) (Ki hj) (by omega)
          rw [show j*u.size+(m- j*u.size)=m by omega] at this
          exact this.symm
        ·rw [if_neg h1,if_neg (by omega)]
       have Ek:aE sub 0 (ax u (l.set j x'))=setCells (aE sub 0 (ax u l)) (j*u.size+q) (ys.map (Cell.af ρ)):=by
        apply List.ext_getElem?
        intro m
        rw [c6,Dy,eK _ _ _ _ (by rw [bM];simp;omega),c6,(hpc ρ).1]
        simp only [List.length_map,List.getElem?_map]
        by_cases h1:j*u.size+q<=m/\ m<j*u.size+q+ps.length
        ·rw [if_pos h1,if_pos h1]
         cases hm:ps[m- (j*u.size+q)]? with
         |none=>rfl
         |some c=>exact congrArg some (FW ((hpc ρ).2 c (List.mem_of_getElem? hm)) _)
        ·rw [if_neg h1,if_neg h1]
       have hlt:j*u.size+q+ys.length<=(aE sub 0 (ax u l)).length:=by rw [bM,WZ];omega
       have hrun:(Instr.storeAt t ((AV.v (.one (.cN n j q))).af ρ) (y.af ρ)).run P w= .ok () (w.setRow b (aE sub 0 (ax u (l.set j x'))++rest).toArray):=by
        have hst:=run_storeCells_at P b (j*u.size+q) e (ys.map (Cell.af ρ)) 0 _ w hh (by simp;omega) (nq ys hone ρ)
        have ex:(AV.v (.one (.cN n j q))).af ρ= .pointer (some ⟨b,j*u.size+q,none⟩):=by
         simp only [AV.af,A0.af,Cell.af,hbase,o2,Option.map_some]
         unfold Addr.add;split<;>simp_all
        rw [ex,rY hT ht (AV.iV hys ρ) (by simpa using hsz),hst,Ek]
        congr 2
        simp only [Nat.add_zero,List.length_map]
        rw [gZ _ _ _ (by simpa using hlt)]
        rw [List.take_append_of_le_length (by omega),List.drop_append_of_le_length (by omega)]
        simp
       refine ⟨ρ,_,hrun,fun _ _=>rfl,fun a ha=>absurd ha (by simp),?_⟩
       rw [fM,jW _ _ _ _ _ _ rfl]
       refine hst.write bN hb trivial (fun _ h=>by cases h) fun hfz=> ?_
       have JV:=setRow_heap w b _ (aE sub 0 (ax u (l.set j x'))++rest).toArray _ _ hh
       refine ⟨by simpa using o1,o2,by simpa using o3,sub,fun m v hm=> ?_,fun m u' l' hm=> ?_,m3,fun _=>gK.new (.inr ⟨b,rest,e,hb,hbase,JV,?_⟩)⟩
       ·refine ⟨_,hbase,?_,fun e=>absurd e oa⟩
        have e1:(⟨b,0,none⟩:Addr).add m=⟨b,m,none⟩:=by unfold Addr.add;split<;>simp_all
        rw [e1,bL JV,List.getElem?_append_left (List.getElem?_eq_some_iff.1 hm).1];exact hm
       ·rw [Dy] at hm
        split at hm
        ·obtain ⟨v,hv⟩:=(hpc ρ).2 _ (List.mem_of_getElem? hm);cases hv
        ·exact (m2 m u' l' hm).mono fun b' hb'=>⟨⟨(hfz b' hb'.1).1,fun e=>⟨(hb'.2 e).1,(hb'.2 e).2.same (hfz b' hb'.1).2⟩⟩,(hfz b' hb'.1).2⟩
       ·exact ⟨by rw [hcap.1];simp [bM,bw],hcap.2⟩
      ·exact h.elim
     ·exact h.elim
    ·exact Lv hT ht hys hsz he oa h
  ·exact h.elim
 ·exact h.elim
theorem q6: ∀(ms:List Int),fb (ms.map fun m=>Cell.raw (.int .i64 m))=some (ms.map fun m=> .flat (.int .i64 m))
 | []=>rfl
 |m::r=>by simp only [List.map_cons,fb,q6 r,Option.map_some]
theorem SM {i:TI} {n j q:Nat} {y:AV} (h:oC i (.v (.one (.eZ n j q))) y hp k):oC i (.v (.one (.cN n j q))) y hp k:=by
 unfold oC at h ⊢
 cases hys:y.cells with
 |none=>rw [hys] at h;exact h.elim
 |some ys=>
 rw [hys] at h
 dsimp only at h ⊢
 split at h
 ·rename_i hsz
  rw [if_pos hsz]
  split at h
  ·rename_i u l rk he
   split at h
   ·exact h.elim
   ·rename_i oa
    rw [if_neg oa]
    split at h
    ·rename_i ms ns hms He
     have ey:=gp (fun _=> {}) ys ms hms
     have hf:fb ys=some (ms.map fun m=> .flat (.int .i64 m)):=by rw [ey];exact q6 ms
     rw [hf]
     dsimp only
     have e:setCells (u.aQ (gd u l j)) q (ms.map fun m=>cl.flat (.int .i64 m))=(p8 q ms ns).map fun m=> .flat (.int .i64 m):=by
      rw [kK _ _ He,uI,kO]
     split at h
     ·rename_i x' hx'
      obtain ⟨h1,h⟩:=br h
      simp only [decide_eq_true_eq] at h1
      have hl:ys.length=ms.length:=by rw [ey];simp
      rw [if_pos (by simpa [<- hl] using h1),e,hx']
      exact h
     ·exact h.elim
    ·exact h.elim
  ·exact h.elim
 ·exact h.elim
theorem Lt (hT:aO P ctx.tt) {t:TypeId} {i:TI} (ht:aJ ctx.tt t=some i) {x y:AV} (h:oC i x y hp k):
  ∃r,aM P ctx.X hp nm (fun Kn=>x.ok Kn/\ y.ok Kn) (fun ρ=>Instr.storeAt t (x.af ρ) (y.af ρ)) (fun _=>()) r/\ r.val=qo/\ k r:=by
 have core: ∀ {ρ:Env} {w:World} {n b off:Nat} {cs ys:List Cell} {e:TypeId} {v:Value},y.cells=some ys->ys.length=i.size->mH ys=true->(ρ n).bW=some b->w.heap[b]? =some (.cells (cs.map (Cell.af ρ)).toArray e (0,0))->off+ys.length<=cs.length->v= .pointer (some ⟨b,off,none⟩)->
   (Instr.storeAt t v (y.af ρ)).run P w= .ok () (w.setRow b ((setCells cs off ys).map (Cell.af ρ)).toArray):=by
  intro ρ w n b off cs ys e v hys hsz hone hb hh hl hv
  have hst:=run_storeCells_at P b off e (ys.map (Cell.af ρ)) 0 _ w hh (by simp;omega) (nq ys hone ρ)
  rw [hv,rY hT ht (AV.iV hys ρ) (by simpa using hsz),hst]
  congr 2
  simp only [Nat.add_zero,List.length_map,GM (Cell.af ρ) ys cs off hl]
 unfold oC at h
 split at h
 ·rename_i n off ys hys
  split at h
  ·rename_i hsz
   split at h
   ·rename_i hone
    split at h
    ·rename_i cs e he
     split at h
     ·rename_i hl
      refine ⟨_,⟨fun p fA=>by simp at fA;subst fA;rw [he];simp,?_⟩,rfl,h⟩
      intro ay W ρ Kn Γ w _ hk iC _ hst
      have bN:Γ n=some (.cells cs e):=by rw [iC n (by simp),he]
      obtain ⟨b,hb,hh⟩:=hst.at_ n _ bN
      have hrun:=core hys hsz hone hb hh hl (lF hb)
      refine ⟨ρ,_,hrun,fun _ _=>rfl,fun a ha=>absurd ha (by simp),?_⟩
      rw [fM,jW _ _ _ _ _ _ rfl]
      refine hst.write bN hb (fun c hc=> ?_) (fun _ h=>by cases h) fun _=>⟨b,hb,by rw [setRow_heap _ _ _ _ _ _ hh]⟩
      rcases qd hl hc with h1|h1
      ·exact (hst.kn n _ bN).2 c h1
      ·exact AV.vl hys hk.2 c h1
     ·exact h.elim
    ·exact h.elim
   ·exact h.elim
  ·exact h.elim
 ·rename_i n off ys hys
  split at h
  ·rename_i hsz
   split at h
   ·rename_i cs e he
    split at h
    ·rename_i ns ms He hms
     obtain ⟨hl,h⟩:=br h
     simp only [decide_eq_true_eq] at hl
     have ec:=gp (fun _=> {}) cs ns He
     have ey:=gp (fun _=> {}) ys ms hms
     have QT:(p8 off ms ns).map (fun q=>Cell.raw (.int .i64 q))=setCells cs off ys:=by
      rw [uI,kO,<- ec,<- ey]
     rw [QT] at h
     have hone:mH ys=true:=by
      rw [ey];exact Ik ms
     refine ⟨_,⟨fun p fA=>by simp at fA;subst fA;rw [he];simp,?_⟩,rfl,h⟩
     intro ay W ρ Kn Γ w _ hk iC _ hst
     have bN:Γ n=some (.cells cs e):=by rw [iC n (by simp),he]
     obtain ⟨b,hb,hh⟩:=hst.at_ n _ bN
     have hrun:=core hys hsz hone hb hh hl (mz hb)
     refine ⟨ρ,_,hrun,fun _ _=>rfl,fun a ha=>absurd ha (by simp),?_⟩
     rw [fM,jW _ _ _ _ _ _ rfl]
     refine hst.write bN hb (fun c hc=> ?_) (fun _ h=>by cases h) fun _=>⟨b,hb,by rw [setRow_heap _ _ _ _ _ _ hh]⟩
     rcases qd hl hc with h1|h1
     ·exact (hst.kn n _ bN).2 c h1
     ·exact AV.vl hys hk.2 c h1
    ·exact h.elim
   ·exact h.elim
  ·exact h.elim
 ·rename_i n j q ys hys
  exact C0 hT ht (by unfold oC;rw [hys];exact h)
 ·rename_i n j q ys hys
  exact C0 hT ht (SM (by unfold oC;rw [hys];exact h))
 ·exact h.elim
theorem uY (Kn:Nat->Prop):qo.ok Kn:=fun a ha=>absurd ha (by simp)
theorem uD (cs:List Cell) (e:TypeId) (v:AV) (y8:(Nat->Prop)->Prop) (f:Env->Sem Value) (hok: ∀Kn,y8 Kn-> ∀c∈cs,c.ok Kn)
  (hv: ∀Kn,v.ok (Dj Kn nm)) (hf: ∀(ρ:Env) (w:World),(f ρ).run P w= .ok (v.af (bq ρ nm {bW:=some w.heap.size})) (w.alloc (.cells (cs.map (Cell.af ρ)).toArray e (0,0)))):
  aM P ctx.X hp nm y8 f (fun ρ=>v.af ρ) {val:=v,fresh:= [.cells cs e]} :=by
 refine ⟨fun p hp=>absurd hp (by simp),?_⟩
 intro ay W ρ Kn Γ w _ hk _ hfr hst
 have hn: ¬Kn nm:=by simpa using hfr 0 (by simp)
 refine ⟨bq ρ nm {bW:=some w.heap.size},_,hf ρ w,ie hn,?_,?_⟩
 ·rw [Aa];exact hv Kn
 ·rw [Aa,PJ];exact hst.alloc hn (hok Kn hk)
theorem wj (ρ:Env) (w:World) (off:Nat):(AV.v (.one (.ptr nm off))).af (bq ρ nm {bW:=some w.heap.size})= .pointer (some ⟨w.heap.size,off,none⟩):=by
 simp [AV.af,A0.af,Cell.af,addrOf,bq]
theorem Nk (hT:aO P ctx.tt) {t:TypeId} {i:TI} (ht:aJ ctx.tt t=some i):
  aM P ctx.X hp nm (fun _=>True) (fun _=>Instr.alloc t true (.tuple #[])) (fun ρ=>(AV.v (.one (.ptr nm 0))).af ρ) {val:= .v (.one (.ptr nm 0)),fresh:= [.cells (jP i.zero) t]} :=by
 refine uD _ _ _ _ _ (fun _ _=>GH _ _) (fun _=> .inr rfl) fun ρ w=> ?_
 rw [wj]
 simp [Instr.alloc,hT.z ht,newVar,newRow,jP,-List.map_map,Ac]
theorem Tx {t:TypeId} {x:AV} {xs:List Cell} (hx:x.cells=some xs):
  aM P ctx.X hp nm (fun Kn=>x.ok Kn) (fun ρ=>Instr.box t (x.af ρ)) (fun ρ=>(AV.v (.one (.ptr nm 0))).af ρ) {val:= .v (.one (.ptr nm 0)),fresh:= [.cells xs t]} :=by
 refine uD _ _ _ _ _ (fun Kn hk=>AV.vl hx hk) (fun _=> .inr rfl) fun ρ w=> ?_
 rw [wj]
 simp [Instr.box,newVar,newRow,AV.iV hx]
end
end Go.Ev
