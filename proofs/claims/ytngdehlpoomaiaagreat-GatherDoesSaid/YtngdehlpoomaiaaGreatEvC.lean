/- Each operation, but for calls, does what 'opE' says. -/
import Derived.Test.YtngdehlpoomaiaaGreatEvB
noncomputable section
set_option linter.unusedSectionVars false
set_option linter.unusedVariables false
set_option linter.unusedSimpArgs false
namespace Go.Ev
open Go.RowKit
def di (P:Program) (tt:List (Nat×TI)):Prop:= ∀t i,aL tt t=some i->P.underlying t=some i.desc/\
 0<i.size/\ ∃inf,P.info? t=some inf/\ inf.size=i.size/\ inf.bytes=i.bytes/\ inf.zero=some i.zero/\ (dx i.desc=true->P.stoodInHeld t=false/\ P.eqGuardType P.depth t=false)
section
variable {P:Program} {tt:List (Nat×TI)} {t:TypeId} {i:TI}
theorem di.u (h:di P tt) (ht:aL tt t=some i) (w:World):(underlying t).run P w= .ok i.desc w:=run_underlying (h t i ht).1 w
theorem di.ti (h:di P tt) (ht:aL tt t=some i) (w:World): ∃inf,(typeInfo t).run P w= .ok inf w/\ inf.size=i.size/\ inf.bytes=i.bytes/\ inf.zero=some i.zero:=by
 obtain ⟨_,_,inf,h1,h2,h3,h4,_⟩:=h t i ht
 exact ⟨inf,by simp [typeInfo,h1],h2,h3,h4⟩
theorem di.sz (h:di P tt) (ht:aL tt t=some i) (w:World):(sizeOf t).run P w= .ok i.size w:=by
 obtain ⟨inf,h1,h2,_⟩:=h.ti ht w
 simp [sizeOf,h1,h2]
theorem di.z (h:di P tt) (ht:aL tt t=some i) (w:World):(zeroValue t).run P w= .ok i.zero w:=by
 obtain ⟨inf,h1,_,_,h4⟩:=h.ti ht w
 simp [zeroValue,h1,h4]
theorem di.ag (h:di P tt) (ht:aL tt t=some i) (w:World):(isAgg t).run P w= .ok (dx i.desc) w:=by
 simp only [isAgg,Sem.run_bind,h.u ht w,Result.andThen_ok,dx]
 cases i.desc<;>rfl
end
theorem iP (f:Cell->Value) (cs:List Cell) (off m:Nat):((cs.drop off).take m).map f=((cs.map f).drop off).take m:=by simp [List.map_drop,List.map_take]
section
variable {P:Program} {ctx:Ctx} {hp:HP} {nm:Nat} {k:Rec->Prop}
theorem bL {w:World} {b:Nat} {cs:List Value} {e:TypeId} (h:w.heap[b]? =some (.cells cs.toArray e (0,0))) (o:Nat):w.cell? ⟨b,o,none⟩=cs[o]? :=by
 simp [World.cell?,h]
theorem mc (hT:di P ctx.tt) {t:TypeId} {i:TI} (ht:aL ctx.tt t=some i) {w:World} {b off:Nat} {cs rest:List Value} {e:TypeId}
  (hh:w.heap[b]? =some (.cells (cs++rest).toArray e (0,0))):
  (dx i.desc=true->off+i.size<=cs.length->(loadVar t ⟨b,off,none⟩).run P w= .ok (.agg ((cs.drop off).take i.size).toArray) w)/\
  (dx i.desc=false-> ∀v,cs[off]? =some v->(loadVar t ⟨b,off,none⟩).run P w= .ok v w):=by
 constructor
 ·intro ha hl
  have hlen:((cs.drop off).take i.size).length=i.size:=by simp;omega
  have hc: ∀j v,((cs.drop off).take i.size)[j]? =some v->w.cell? ((⟨b,off,none⟩:Addr).add j)=some v:=by
   intro j v hj
   have e1:(⟨b,off,none⟩:Addr).add j=⟨b,off+j,none⟩:=by unfold Addr.add;split<;>simp_all
   rw [e1,bL hh]
   rw [List.getElem?_take] at hj
   split at hj
   ·rename_i hj2
    rw [List.getElem?_drop] at hj
    rw [List.getElem?_append_left (by omega)];exact hj
   ·cases hj
  have hl:=run_loadCells_list (P:=P) w ⟨b,off,none⟩ _ hc
  rw [hlen] at hl
  simp [loadVar,hT.ag ht,ha,hT.sz ht,hl]
 ·intro ha v hv
  have hlt:off<cs.length:=by
   rcases Nat.lt_or_ge off cs.length with h|h
   ·exact h
   ·rw [List.getElem?_eq_none h] at hv;cases hv
  have hc:w.cell? ⟨b,off,none⟩=some v:=by rw [bL hh,List.getElem?_append_left hlt,hv]
  simp [loadVar,hT.ag ht,ha,hc]
theorem aeQ (hT:di P ctx.tt) {t:TypeId} {i:TI} (ht:aL ctx.tt t=some i) {cs:List Cell} {n off:Nat} {e:TypeId} (he:hp n=some (.cells cs e)) (h:DD i cs n off k):
  ∃r,aO P ctx.X hp nm (fun _=>True) (fun ρ=>Instr.loadAt t (.pointer (addrOf ρ n off))) (fun ρ=>r.val.ae ρ) r/\ k r:=by
 unfold DD at h
 split at h
 ·rename_i ha
  split at h
  ·rename_i hl
   refine ⟨_,aO.pure ?_,h⟩
   intro av W ρ Kn Γ w _ _ j7 hst
   have bQ:Γ n=some (.cells cs e):=by rw [j7 n (by simp),he]
   obtain ⟨b,hb,hh⟩:=hst.at_ n _ bQ
   refine ⟨?_,?_⟩
   ·have:=(mc hT ht (off:=off) (rest:= []) (by simpa using hh)).1 ha (by simpa using hl)
    simp only [Instr.loadAt,Instr.sureAddr,addrOf,hb,Option.map_some,Sem.run_bind,Sem.run_pure,Result.andThen_ok,this,AV.ae,A0.ae,iP]
   ·intro c hc
    exact (hst.kn n _ bQ).2 c (List.mem_of_mem_drop (List.mem_of_mem_take hc))
  ·exact h.elim
 ·rename_i ha
  split at h
  ·rename_i c hc
   refine ⟨_,aO.pure ?_,h⟩
   intro av W ρ Kn Γ w _ _ j7 hst
   have bQ:Γ n=some (.cells cs e):=by rw [j7 n (by simp),he]
   obtain ⟨b,hb,hh⟩:=hst.at_ n _ bQ
   refine ⟨?_,?_⟩
   ·have:=(mc hT ht (off:=off) (rest:= []) (by simpa using hh)).2 (by simpa using ha) (c.ae ρ) (by simp [hc])
    simp only [Instr.loadAt,Instr.sureAddr,addrOf,hb,Option.map_some,Sem.run_bind,Sem.run_pure,Result.andThen_ok,this,AV.ae,A0.ae]
   ·exact (hst.kn n _ bQ).2 c (List.mem_of_getElem? hc)
  ·exact h.elim
theorem eA (a:Addr) (m n:Nat):(a.add m).add n=a.add (m+n):=by
 unfold Addr.add;split<;>split<;>simp_all<;>omega
theorem bh {b:Bool} {p:Prop} (h:ob b p):b=true/\ p:=by cases b<;>first|exact h.elim|exact ⟨rfl,h⟩
theorem iS (ρ:Env): ∀(cs:List Cell) (ns:List Int),kj cs=some ns->cs=ns.map fun n=>Cell.raw (.int .i64 n)
 | [],ns,h=>by simp only [kj,Option.some.injEq] at h;subst h;rfl
 |c::r,ns,h=>by
  unfold kj at h
  split at h
  ·simp_all
  ·rename_i n r' heq
   cases heq
   split at h
   ·rename_i l hl;cases h;rw [iS ρ r l hl];rfl
   ·cases h
  ·cases h
theorem zG: ∀(m off:Nat) (ns:List Int),off+m<=ns.length->sK ns off m=((ns.map fun n=>Cell.raw (.int .i64 n)).drop off).take m
 |0,off,ns,_=>by simp [sK]
 |m+1,off,ns,h=>by
  rw [sK,zG m (off+1) ns (by omega),List.drop_eq_getElem_cons (i:=off) (by simp;omega),List.take_succ_cons,List.getElem_map,List.getD,List.getElem?_eq_getElem (by omega)]
  rfl
theorem Ql (off:Nat) (y:Int): ∀(ns:List Int) (q:Nat),q<=off->Cj off y q ns=ns.set (off- q) y
 | [],q,_=>by simp [Cj]
 |n::r,q,h=>by
  rw [Cj]
  by_cases e:off=q
  ·subst e
   have: ∀(l:List Int) (p:Nat),off<p->Cj off y p l=l:=by
    intro l
    induction l with
    |nil=>intro p _;rfl
    |cons a l ih=>
     intro p hp
     rw [Cj,ih _ (by omega)]
     have:Nat.beq off p=false:=by
      cases hb:Nat.beq off p with
      |false=>rfl
      |true=>exact absurd (Nat.eq_of_beq_eq_true hb) (by omega)
     rw [this];rfl
   have hb:Nat.beq off off=true:=Nat.beq_refl off
   rw [this r (off+1) (by omega),hb];simp
  ·rw [Ql off y r (q+1) (by omega)]
   have hb:Nat.beq off q=false:=by
    cases hb:Nat.beq off q with
    |false=>rfl
    |true=>exact absurd (Nat.eq_of_beq_eq_true hb) e
   rw [hb,show off- q=(off- (q+1))+1 by omega];simp
theorem Ci: ∀(ys ns:List Int) (off:Nat),vG off ys ns=setCells ns off ys
 | [],_,_=>rfl
 |y::r,ns,off=>by rw [vG,Ci r,Ql off y ns 0 (Nat.zero_le _)];rfl
theorem dF (sub:Nat->Option Addr×Nat): ∀(cs:List cw) (q i:Nat),(aJ sub q cs)[i]? =(cs[i]?).map (nt (sub (q+i)))
 | [],q,i=>by simp [aJ]
 |c::r,q,0=>by simp [aJ]
 |c::r,q,i+1=>by
  simp only [aJ,List.getElem?_cons_succ]
  rw [dF sub r,show q+1+i=q+(i+1) by omega]
theorem pQ (t:Ty): ∀(l:List t.T) (j:Nat) (x:t.T) (q:Nat),l[j]? =some x->q<t.size->(ay t l)[j*t.size+q]? =(t.aU x)[q]?
 | [],j,x,q,h,_=>by simp at h
 |y::r,0,x,q,h,hq=>by
  simp only [List.getElem?_cons_zero,Option.some.injEq] at h;subst h
  simp only [ay,List.flatMap_cons,Nat.zero_mul,Nat.zero_add]
  rw [List.getElem?_append_left (by rw [aV];exact hq)]
 |y::r,j+1,x,q,h,hq=>by
  simp only [ay,List.flatMap_cons]
  rw [List.getElem?_append_right (by rw [aV,Nat.add_mul];omega),aV,show (j+1)*t.size+q- t.size=j*t.size+q by rw [Nat.add_mul];omega]
  exact pQ t r j x q (by simpa using h) hq
theorem Zc {t:Ty} {l:List t.T} {j:Nat} (h:j<l.length):l[j]? =some (gd t l j):=by
 simp [gd,List.getD,h]
theorem YT {u' u:Ty} {l:List u'.T} {l':List u.T} (h:jm u' u l=some l'):cw.sl u' l=cw.sl u l':=by
 unfold jm at h
 split at h
 ·rename_i e;subst e;cases h;rfl
 ·cases h
theorem pH: ∀(t:Ty) (cs:List cw) (x:t.T) (r:List cw),kB t cs=some (x,r)->cs=t.aU x++r
 | .int k,cs,x,r,h=>by
  simp only [kB] at h
  split at h
  ·split at h
   ·rename_i e;subst e;cases h;rfl
   ·cases h
  ·cases h
 | .bool,cs,x,r,h=>by
  simp only [kB] at h
  split at h
  ·cases h;rfl
  ·cases h
 | .str,cs,x,r,h=>by
  simp only [kB] at h
  split at h
  ·cases h;rfl
  ·cases h
 | .prod a b,cs,x,r,h=>by
  simp only [kB] at h
  split at h
  ·rename_i x1 r1 h1
   split at h
   ·rename_i y r2 h2
    cases h
    rw [pH a _ _ _ h1,pH b _ _ _ h2]
    simp [Ty.aU]
   ·cases h
  ·cases h
 | .sl u,cs,x,r,h=>by
  simp only [kB] at h
  split at h
  ·split at h
   ·rename_i l' hl
    cases h
    rw [YT hl];rfl
   ·cases h
  ·cases h
theorem aiR (Kn:Nat->Prop) (nm:Nat) (o:aD) (os:List aD) (v v':AV) (ws ws':List (Nat×aD)) (tc CN:List Nat):
  oI (Ob Kn nm) (nm+1) {val:=v,fresh:=os,writes:=ws,aF:=tc} =oI Kn nm {val:=v',fresh:=o::os,writes:=ws',aF:=CN} :=by
 funext m;simp only [oI,Ob,List.length_cons];apply propext
 constructor
 ·rintro ((h|h)|h)
  ·exact .inl h
  ·exact .inr (by omega)
  ·exact .inr (by omega)
 ·rintro (h|h)
  ·exact .inl (.inl h)
  ·by_cases e:m=nm
   ·exact .inl (.inr e)
   ·exact .inr (by omega)
theorem adG (Γ:HP) (nm:Nat) (o:aD) (os:List aD) (v v':AV) (tc CN:List Nat) (ho:live (some o)=some o):
  bV {val:=v,fresh:=os,aF:=tc} (nm+1) (fO Γ nm o)=bV {val:=v',fresh:=o::os,aF:=CN} nm Γ:=by
 funext m
 simp only [bV,cm,List.length_cons,fO]
 by_cases h:m=nm
 ·subst h
  have h1: ¬(m+1<=m/\ m<m+1+os.length):=by omega
  have h2:m<=m/\ m<m+(os.length+1):=by omega
  rw [if_neg h1,if_pos rfl,if_pos h2];simp [ho]
 ·by_cases h2:nm+1≤m∧m<nm+1+os.length
  ·have h3:nm≤m∧m<nm+(os.length+1):=by omega
   rw [if_pos h2,if_pos h3,show m- nm=(m- (nm+1))+1 by omega];simp
  ·have h3: ¬(nm≤m∧m<nm+(os.length+1)):=by omega
   rw [if_neg h2,if_neg h,if_neg h3]
theorem aiS (Kn:Nat->Prop) (nm:Nat) (v:AV) (tc:List Nat):oI Kn nm {val:=v,fresh:= [],aF:=tc} =Kn:=fS Kn nm v [] tc
theorem St.views {av:fG} {W w:World} {sub:Nat->Option Addr×Nat} {okf:Nat->Prop} (v:AV) (tc:List Nat): ∀(cs:List cw) (q nm:Nat) (ρ:Env) (Kn:Nat->Prop) (Γ:HP),St av W ρ Kn Γ w->(∀i,i<(gw nm cs).2.length-> ¬Kn (nm+i))->
  (∀b,okf b->dV ρ Γ w b)->(∀i u l,cs[i]? =some (.sl u l)->fH w okf (sub (q+i)) u l)->
  ∃ρ',(∀m,Kn m->ρ' m=ρ m)/\ (gw nm cs).1.map (Cell.ae ρ')=aJ sub q cs/\ (∀c∈(gw nm cs).1,c.ok (oI Kn nm {val:=v,fresh:=(gw nm cs).2,aF:=tc}))/\
   St av W ρ' (oI Kn nm {val:=v,fresh:=(gw nm cs).2,aF:=tc}) (bV {val:=v,fresh:=(gw nm cs).2,aF:=tc} nm Γ) w
 | [],q,nm,ρ,Kn,Γ,h,_,_,_=>⟨ρ,fun _ _=>rfl,rfl,fun c hc=>absurd hc (by simp [gw]),by simp only [gw];rw [aiS,qt];exact h⟩
 | .flat v0::r,q,nm,ρ,Kn,Γ,h,hf,hok,hn=>by
  obtain ⟨ρ',h1,h2,h3,h4⟩:=St.views v tc r (q+1) nm ρ Kn Γ h hf hok fun i u l hi=>by
   have:=hn (i+1) u l (by simpa using hi)
   rwa [show q+(i+1)=q+1+i by omega] at this
  refine ⟨ρ',h1,?_,?_,h4⟩
  ·simp only [gw,List.map_cons,h2,aJ];rfl
  ·intro c hc
   simp only [gw,List.mem_cons] at hc
   rcases hc with rfl|hc
   ·trivial
   ·exact h3 c hc
 | .sl u l::r,q,nm,ρ,Kn,Γ,h,hf,hok,hn=>by
  have hnm: ¬Kn nm:=by simpa using hf 0 (by simp [gw])
  have h0:fH w okf (sub q) u l:=by simpa using hn 0 u l rfl
  let x:Loc:= {blk:=none,base:=(sub q).1,len:=l.length,cap:=(sub q).2,es:=u.size}
  have hfz: ∀b,dV ρ Γ w b->dV (bA ρ nm x) (fO Γ nm (.row u l 0)) w b:=fun b hb=>⟨hb.1,by
   rintro (⟨m,h1,h2⟩|⟨m,S,h1,h2⟩)
   ·unfold bA at h2
    unfold fO at h1
    split at h2
    ·exact absurd (j6.1 h2) (fun h=>by cases h)
    ·rename_i e;rw [if_neg e] at h1;exact hb.2 (.inl ⟨m,h1,h2⟩)
   ·unfold fO at h1
    split at h1
    ·cases h1
    ·exact hb.2 (.inr ⟨m,S,h1,h2⟩)⟩
  have h1:St av W (bA ρ nm x) (Ob Kn nm) (fO Γ nm (.row u l 0)) w:=by
   refine h.swap (G:= []) (o:= .row u l 0) (x:=x) hnm h.fr (fun _ _ _=>rfl) (fun b hb=>by cases hb) (fun m p hp=> ?_) trivial (fun _ h=>by cases h) fun _ _=> ?_
   ·unfold fO at hp
    split at hp
    ·rename_i e1;cases hp;exact .inl ⟨e1,rfl⟩
    ·rename_i e1;exact .inr ⟨e1,by simp,hp⟩
   ·have e:bA ρ nm x nm=x:=by simp [bA]
    rw [bp,e]
    refine ⟨rfl,rfl,h0.2.1,fun _=>(none,0),?_⟩
    have hfl: ∀(l:List u.T) (c:cw),c∈ay u l-> ∃v,c= .flat v:=fun l c hc=>by
     obtain ⟨y,_,hy⟩:=List.mem_flatMap.1 hc
     exact gV u h0.1 y c hy
    have hv: ∀(cs:List cw),(∀c∈cs,∃v,c= .flat v)-> ∀q,aJ (fun _=>(none,0)) q cs=cs.map bJ:=by
     intro cs
     induction cs with
     |nil=>intro _ q;rfl
     |cons c r ih=>
      intro hc q
      obtain ⟨v,rfl⟩:=hc c (by simp)
      simp only [aJ,List.map_cons]
      rw [ih (fun c hm=>hc c (by simp [hm]))];rfl
    refine ⟨fun i v hv'=> ?_,fun i u' l' hi=> ?_,fun _=>rfl,fun h=>absurd rfl h⟩
    ·rw [hv _ (hfl l)] at hv'
     obtain ⟨a,e1,e2,e3⟩:=h0.2.2 i v hv'
     exact ⟨a,e1,e2,fun _=>hfz _ (hok _ e3)⟩
    ·obtain ⟨v,hv'⟩:=hfl l _ (List.mem_of_getElem? hi)
     cases hv'
  obtain ⟨ρ',e1,e2,e3,e4⟩:=St.views v tc r (q+1) (nm+1) _ _ _ h1 (fun i hi=>by
   have:=hf (i+1) (by simpa [gw] using hi)
   rintro (h2|h2)
   ·exact this (by rwa [show nm+(i+1)=nm+1+i by omega])
   ·omega) (fun b hb=>hfz b (hok b hb)) fun i u l hi=>by
   have:=hn (i+1) u l (by simpa using hi)
   rwa [show q+(i+1)=q+1+i by omega] at this
  have ex:ρ' nm=x:=by rw [e1 nm (.inr rfl)];simp [bA]
  rw [aiR (o:= .row u l 0) (v':=v) (ws':= []) (CN:=tc)] at e3 e4
  rw [adG (o:= .row u l 0) (v':=v) (CN:=tc) (ho:=rfl)] at e4
  refine ⟨ρ',fun m hm=>by rw [e1 m (.inl hm)];exact jL hnm m hm,?_,?_,e4⟩
  ·simp only [gw,List.map_cons,e2,aJ,Cell.ae,ex];rfl
  ·intro c hc
   simp only [gw,List.mem_cons] at hc
   rcases hc with rfl|hc
   ·exact .inr ⟨Nat.le_refl _,by simp [gw]⟩
   ·exact e3 c hc
where
 gV: ∀(t:Ty),t.flat=true-> ∀(x:t.T) (c:cw),c∈t.aU x-> ∃v,c= .flat v
  | .int _,_,x,c,hc=>by simp [Ty.aU] at hc;exact ⟨_,hc⟩
  | .bool,_,x,c,hc=>by simp [Ty.aU] at hc;exact ⟨_,hc⟩
  | .str,_,x,c,hc=>by simp [Ty.aU] at hc;exact ⟨_,hc⟩
  | .prod a b,h,x,c,hc=>by
   simp only [Ty.flat,Bool.and_eq_true] at h
   simp only [Ty.aU,List.mem_append] at hc
   rcases hc with hc|hc
   ·exact gV a h.1 _ c hc
   ·exact gV b h.2 _ c hc
  | .sl _,h,_,_,_=>by cases h
theorem ahQ {t:Ty} {l:List t.T} {j q:Nat} {c:cw} (h:j<l.length) (hq:(t.aU (gd t l j))[q]? =some c):(ay t l)[j*t.size+q]? =some c:=by
 rw [pQ t l j _ q (Zc h) (by have:=(List.getElem?_eq_some_iff.1 hq).1;rwa [aV] at this)];exact hq
theorem nC: ∀(cs:List cw) (ns:List Int),tZ cs=some ns->cs=ns.map fun m=> .flat (.int .i64 m)
 | [],ns,h=>by simp only [tZ,Option.some.injEq] at h;subst h;rfl
 |c::r,ns,h=>by
  unfold tZ at h
  split at h
  ·simp_all
  ·rename_i n r' heq
   cases heq
   split at h
   ·rename_i l hl;cases h
    rw [nC r l hl];rfl
   ·cases h
  ·cases h
theorem NU (nm:Nat): ∀(ns:List Int),gw nm (ns.map fun m=> .flat (.int .i64 m))=(ns.map fun m=> .raw (.int .i64 m),[])
 | []=>rfl
 |n::r=>by simp only [List.map_cons,gw,NU nm r]
theorem NT (nm:Nat): ∀(cs:List cw),(∀c∈cs,∃v,c= .flat v)->gw nm cs=(cs.map fun c=>Cell.raw (bJ c),[])
 | [],_=>rfl
 |c::r,h=>by
  obtain ⟨v,rfl⟩:=h c (by simp)
  simp only [gw,NT nm r fun c hc=>h c (by simp [hc]),List.map_cons];rfl
theorem P5 (hT:di P ctx.tt) {t:TypeId} {i:TI} (ht:aL ctx.tt t=some i) {n j q:Nat} (h:rW i (.v (.one (.c9 n j q))) hp nm k):
  ∃r,aO P ctx.X hp nm (fun Kn=>(AV.v (.one (.c9 n j q))).ok Kn) (fun ρ=>Instr.loadAt t ((AV.v (.one (.c9 n j q))).ae ρ)) (fun ρ=>r.val.ae ρ) r/\ k r:=by
 unfold rW at h
 dsimp only at h
 split at h
 ·rename_i u l rk he
  split at h
  ·rename_i hsz
   obtain ⟨hj,h⟩:=bh h
   simp only [decide_eq_true_eq] at hj
   generalize hvw:gw nm (cM u l j q i.size)=z at h
   obtain ⟨cs,os⟩:=z
   dsimp only at h
   split at h
   ·rename_i v hv
    refine ⟨_,⟨fun p hp=>absurd hp (by simp),?_⟩,h⟩
    intro av W ρ Kn Γ w _ _ j7 hfr hst
    have bQ:Γ n=some (.row u l rk):=by rw [j7 n (by simp),he]
    obtain ⟨o1,o2,o3,sub,m1,m2,m3,m4⟩:=hst.at_ n _ bQ
    have VH:(cM u l j q i.size).length=i.size:=by simp [cM,aV];omega
    have hcg: ∀m c,(cM u l j q i.size)[m]? =some c->(ay u l)[j*u.size+q+m]? =some c:=fun m c hm=>by
     unfold cM at hm
     rw [List.getElem?_take] at hm
     split at hm
     ·rw [List.getElem?_drop] at hm
      rw [show j*u.size+q+m=j*u.size+(q+m) by omega]
      exact ahQ hj hm
     ·cases hm
    have hos:(gw nm (cM u l j q i.size)).2=os:=by rw [hvw]
    have hcs:(gw nm (cM u l j q i.size)).1=cs:=by rw [hvw]
    obtain ⟨ρ',e1,e2,e3,e4⟩:=St.views v [n] (cM u l j q i.size) (j*u.size+q) nm ρ Kn Γ hst (by rw [hos];exact hfr) (okf:=fun b=>dV ρ Γ w b) (fun _ h=>h) fun m u' l' hm=>(m2 _ u' l' (hcg m _ hm)).mono fun b hb=>⟨hb.1,rfl⟩
    rw [hos] at e3 e4
    rw [hcs] at e2 e3
    have Py: ∀m v,(aJ sub (j*u.size+q) (cM u l j q i.size))[m]? =some v-> ∃a,(ρ n).base=some a/\ w.cell? (a.add (j*u.size+q+m))=some v:=fun m v hm=>by
     rw [dF] at hm
     obtain ⟨c,hc,rfl⟩:=Option.map_eq_some_iff.1 hm
     have:=m1 (j*u.size+q+m) (nt (sub (j*u.size+q+m)) c) (by rw [dF,hcg m c hc];simp)
     obtain ⟨a,a1,a2,_⟩:=this
     exact ⟨a,a1,a2⟩
    have hpos:=(hT t i ht).2.1
    obtain ⟨a,ha,_⟩: ∃a,(ρ n).base=some a/\ True:=by
     have: ∃v,(aJ sub (j*u.size+q) (cM u l j q i.size))[0]? =some v:=⟨_,List.getElem?_eq_getElem (by rw [bM,VH];exact hpos)⟩
     obtain ⟨v,hv⟩:=this
     obtain ⟨a,h1,_⟩:=Py 0 v hv
     exact ⟨a,h1,trivial⟩
    have hcell: ∀m v,(aJ sub (j*u.size+q) (cM u l j q i.size))[m]? =some v->w.cell? ((a.add (j*u.size+q)).add m)=some v:=fun m v hm=>by
     obtain ⟨a',h1,h2⟩:=Py m v hm
     rw [ha] at h1;cases h1
     rw [eA];exact h2
    have hlen:(aJ sub (j*u.size+q) (cM u l j q i.size)).length=i.size:=by rw [bM,VH]
    have aoj:(loadVar t (a.add (j*u.size+q))).run P w= .ok (v.ae ρ') w/\ v.ok (oI Kn nm {val:=v,fresh:=os,aF:= [n]}):=by
     unfold yh at hv
     split at hv
     ·rename_i sP
      cases hv
      have Lw:=run_loadCells_list (P:=P) w (a.add (j*u.size+q)) _ hcell
      rw [hlen] at Lw
      exact ⟨by simp [loadVar,hT.ag ht,sP,hT.sz ht,Lw,AV.ae,A0.ae,e2],e3⟩
     ·rename_i sP
      split at hv
      ·rename_i c
       cases hv
       simp only [List.map_cons,List.map_nil] at e2
       have:=hcell 0 (c.ae ρ') (by rw [<- e2];rfl)
       rw [eA,Nat.add_zero] at this
       exact ⟨by simp [loadVar,hT.ag ht,sP,this,AV.ae,A0.ae],e3 c (by simp)⟩
      ·cases hv
    refine ⟨ρ',w,Eq.trans ?_ aoj.1,e1,aoj.2,e4⟩
    have ex:(AV.v (.one (.c9 n j q))).ae ρ= .pointer (some (a.add (j*u.size+q))):=by simp [AV.ae,A0.ae,Cell.ae,ha,o2]
    show (Instr.loadAt t ((AV.v (.one (.c9 n j q))).ae ρ)).run P w=_
    rw [ex]
    simp only [Instr.loadAt,Instr.sureAddr,Sem.run_bind,Sem.run_pure,Result.andThen_ok]
   ·exact h.elim
  ·exact h.elim
 ·rename_i gn c kk u gx l he
  split at h<;>try (exact h.elim)
  rename_i gm hc
  split at h<;>try (exact h.elim)
  rename_i hsz
  obtain ⟨hj,h⟩:=bh h
  simp only [decide_eq_true_eq] at hj
  split at h<;>try (exact h.elim)
  rename_i v hv
  refine ⟨_,aO.pure fun av W ρ Kn Γ w _ _ j7 hst=> ?_,h⟩
  have bQ:Γ n=some (.gv gn c kk u gx l):=by rw [j7 n (by simp),he]
  obtain ⟨_,o1,o2,_,huf,o4⟩:=hst.at_ n _ bQ
  have hfl: ∀x∈cM u l j q i.size,∃v,x= .flat v:=fun x hx=>St.views.gV u huf _ x (List.mem_of_mem_drop (List.mem_of_mem_take hx))
  rw [NT _ _ hfl] at hv
  rcases o4 with ⟨e0,_⟩|⟨e,b,h1,h2,_,h4,h5,_,_,h8,_⟩
  ·rw [e0] at hj;exact absurd hj (Nat.not_lt_zero _)
  have Zt:=hst.at_ c _ (by rw [j7 c (by simp),hc])
  rcases Zt.2.1 e h1 with ⟨h9,_⟩|⟨b',rest,tt',h9,_,h11,_⟩
  ·rw [h9] at h2;cases h2
  rw [h2] at h9;cases h9
  rw [h8] at h11
  have ha:(ρ n).base=some ⟨b,0,none⟩:=by rw [<- h4,h5]
  have hcell: ∀m v,((cM u l j q i.size).map bJ)[m]? =some v->w.cell? ((⟨b,0,none⟩:Addr).add (j*u.size+q)|>.add m)=some v:=fun m v hm=>by
   rw [eA]
   have e1:(⟨b,0,none⟩:Addr).add (j*u.size+q+m)=⟨b,j*u.size+q+m,none⟩:=by unfold Addr.add;split<;>simp_all
   rw [e1,bL h11]
   rw [List.getElem?_map] at hm
   obtain ⟨x,hx,rfl⟩:=Option.map_eq_some_iff.1 hm
   unfold cM at hx
   rw [List.getElem?_take] at hx
   split at hx
   ·rw [List.getElem?_drop] at hx
    have:=ahQ hj hx
    have h12:(bf u l)[j*u.size+q+m]? =some (bJ x):=by
     unfold bf
     rw [List.getElem?_map,show j*u.size+q+m=j*u.size+(q+m) by omega,this];rfl
    rw [List.getElem?_append_left (List.getElem?_eq_some_iff.1 h12).1];exact h12
   ·cases hx
  have hlen:((cM u l j q i.size).map bJ).length=i.size:=by simp [cM,aV];omega
  have ex:(AV.v (.one (.c9 n j q))).ae ρ= .pointer (some ((⟨b,0,none⟩:Addr).add (j*u.size+q))):=by simp [AV.ae,A0.ae,Cell.ae,ha,o2]
  have hcc:((cM u l j q i.size).map fun c=>Cell.raw (bJ c)).map (Cell.ae ρ)=(cM u l j q i.size).map bJ:=by
   rw [List.map_map];rfl
  refine ⟨?_,?_⟩
  ·show (Instr.loadAt t ((AV.v (.one (.c9 n j q))).ae ρ)).run P w=_
   rw [ex]
   simp only [Instr.loadAt,Instr.sureAddr,Sem.run_bind,Sem.run_pure,Result.andThen_ok]
   unfold yh at hv
   split at hv
   ·rename_i sP
    cases hv
    have Lw:=run_loadCells_list (P:=P) w ((⟨b,0,none⟩:Addr).add (j*u.size+q)) _ hcell
    rw [hlen] at Lw
    simp [loadVar,hT.ag ht,sP,hT.sz ht,Lw,AV.ae,A0.ae,hcc]
   ·rename_i sP
    split at hv
    ·rename_i c0 hc0
     cases hv
     have apv:=hcc
     dsimp only at hc0
     rw [hc0] at apv
     simp only [List.map_cons,List.map_nil] at apv
     have:=hcell 0 (c0.ae ρ) (by rw [<- apv];rfl)
     rw [eA,Nat.add_zero] at this
     simp [loadVar,hT.ag ht,sP,this,AV.ae,A0.ae]
    ·cases hv
  ·unfold yh at hv
   have hok: ∀c∈(cM u l j q i.size).map fun c=>Cell.raw (bJ c),c.ok Kn:=fun c hc=>by
    obtain ⟨_,_,rfl⟩:=List.mem_map.1 hc;trivial
   split at hv
   ·cases hv;exact hok
   ·split at hv
    ·rename_i c0 hc0
     cases hv
     dsimp only at hc0
     exact hok c0 (by rw [hc0];simp)
    ·cases hv
 ·rename_i cs he
  split at h<;>try (exact h.elim)
  rename_i hj;subst hj
  have Ji: ∀ {av:fG} {W:World} {ρ:Env} {Kn:Nat->Prop} {Γ:HP} {w:World},(∀m∈ [n],Γ m=hp m)->St av W ρ Kn Γ w-> ∀m c,cs[q+m]? =some c-> ∃a,(ρ n).base=some a/\ w.cell? ((a.add q).add m)=some (c.ae ρ):=fun j7 hst m c hm=>by
   have g:=hst.at_ n (.rc cs) (by rw [j7 n (by simp),he])
   obtain ⟨a,h1,h2,_⟩:=g.2 _ _ hm
   exact ⟨a,h1,by rw [eA];exact h2⟩
  have ex: ∀ {ρ:Env} {a:Addr},(ρ n).base=some a->(AV.v (.one (.c9 n 0 q))).ae ρ= .pointer (some (a.add q)):=fun ha=>by simp [AV.ae,A0.ae,Cell.ae,ha]
  unfold DD at h
  split at h
  ·rename_i sP
   split at h
   ·rename_i hl
    refine ⟨_,aO.pure ?_,h⟩
    intro av W ρ Kn Γ w _ _ j7 hst
    have bQ:Γ n=some (.rc cs):=by rw [j7 n (by simp),he]
    have hpos:=(hT t i ht).2.1
    obtain ⟨c0,hc0⟩: ∃c,cs[q+0]? =some c:=⟨_,List.getElem?_eq_getElem (by omega)⟩
    obtain ⟨a,ha,_⟩:=Ji j7 hst 0 c0 hc0
    have hcell: ∀m v,(((cs.drop q).take i.size).map (Cell.ae ρ))[m]? =some v->w.cell? ((a.add q).add m)=some v:=fun m v hm=>by
     rw [List.getElem?_map] at hm
     obtain ⟨c,hc,rfl⟩:=Option.map_eq_some_iff.1 hm
     rw [List.getElem?_take] at hc
     split at hc
     ·rw [List.getElem?_drop] at hc
      obtain ⟨a',h1,h2⟩:=Ji j7 hst m c hc
      rw [ha] at h1;cases h1;exact h2
     ·cases hc
    have Lw:=run_loadCells_list (P:=P) w (a.add q) _ hcell
    have hlen:(((cs.drop q).take i.size).map (Cell.ae ρ)).length=i.size:=by simp;omega
    rw [hlen] at Lw
    refine ⟨?_,fun c hc=>(hst.kn n _ bQ).2 c (List.mem_of_mem_drop (List.mem_of_mem_take hc))⟩
    show (Instr.loadAt t ((AV.v (.one (.c9 n 0 q))).ae ρ)).run P w=_
    rw [ex ha]
    simp only [Instr.loadAt,Instr.sureAddr,Sem.run_bind,Sem.run_pure,Result.andThen_ok]
    simp [loadVar,hT.ag ht,sP,hT.sz ht,Lw,AV.ae,A0.ae]
   ·exact h.elim
  ·rename_i sP
   split at h
   ·rename_i c hc
    refine ⟨_,aO.pure ?_,h⟩
    intro av W ρ Kn Γ w _ _ j7 hst
    have bQ:Γ n=some (.rc cs):=by rw [j7 n (by simp),he]
    obtain ⟨a,ha,h2⟩:=Ji j7 hst 0 c hc
    rw [eA,Nat.add_zero] at h2
    refine ⟨?_,(hst.kn n _ bQ).2 c (List.mem_of_getElem? hc)⟩
    show (Instr.loadAt t ((AV.v (.one (.c9 n 0 q))).ae ρ)).run P w=_
    rw [ex ha]
    simp only [Instr.loadAt,Instr.sureAddr,Sem.run_bind,Sem.run_pure,Result.andThen_ok]
    simp [loadVar,hT.ag ht,sP,h2,AV.ae,A0.ae]
   ·exact h.elim
 ·exact h.elim
theorem am0 {i:TI} {n j q:Nat} (h:rW i (.v (.one (.fY n j q))) hp nm k):rW i (.v (.one (.c9 n j q))) hp nm k:=by
 unfold rW at h ⊢
 dsimp only at h ⊢
 split at h
 ·rename_i u l rk he
  split at h
  ·rename_i ns UE
   obtain ⟨h1,h⟩:=bh h
   obtain ⟨h2,h⟩:=bh h
   simp only [decide_eq_true_eq] at h1
   have hl:ns.length=u.size:=by
    have:=aV u (gd u l j)
    rw [nC _ _ UE] at this
    simpa using this
   have e:gw nm (cM u l j q i.size)=(sK ns q i.size,[]):=by
    unfold cM
    rw [nC _ _ UE,<- List.map_drop,<- List.map_take,NU,zG _ _ _ (by omega),<- List.map_drop,<- List.map_take]
   rw [he]
   dsimp only
   rw [if_pos h1,h2,e]
   exact h
  ·exact h.elim
 ·exact h.elim
theorem aeR (hT:di P ctx.tt) {t:TypeId} {i:TI} (ht:aL ctx.tt t=some i) {x:AV} (h:rW i x hp nm k):
  ∃r,aO P ctx.X hp nm (fun Kn=>x.ok Kn) (fun ρ=>Instr.loadAt t (x.ae ρ)) (fun ρ=>r.val.ae ρ) r/\ k r:=by
 unfold rW at h
 split at h
 ·rename_i n off
  split at h
  ·rename_i cs e he
   obtain ⟨r,h1,h2⟩:=aeQ (nm:=nm) hT ht he h
   exact ⟨r,⟨h1.1,fun av W ρ Kn Γ w a _ c d e=>h1.2 av W ρ Kn Γ w a trivial c d e⟩,h2⟩
  ·exact h.elim
 ·rename_i n off
  split at h
  ·rename_i cs e he
   split at h
   ·rename_i ns UE
    obtain ⟨hl,h⟩:=bh h
    simp only [decide_eq_true_eq] at hl
    split at h
    ·rename_i v hv
     refine ⟨_,aO.pure ?_,h⟩
     intro av W ρ Kn Γ w _ _ j7 hst
     have bQ:Γ n=some (.cells cs e):=by rw [j7 n (by simp),he]
     obtain ⟨b,hb,hh⟩:=hst.at_ n _ bQ
     have ecs:=iS ρ cs ns UE
     have hlen:cs.length=ns.length:=by rw [ecs];simp
     have aQ:sK ns off i.size=(cs.drop off).take i.size:=by rw [zG _ _ _ (by omega),<- ecs]
     rw [aQ] at hv
     have hrun:=mc hT ht (off:=off) (w:=w) (rest:= []) (cs:=cs.map (Cell.ae ρ)) (b:=b) (e:=e) (by simpa using hh)
     unfold yh at hv
     split at hv
     ·rename_i ha
      cases hv
      refine ⟨?_,fun c hc=>(hst.kn n _ bQ).2 c (List.mem_of_mem_drop (List.mem_of_mem_take hc))⟩
      have:=hrun.1 ha (by simpa using hl)
      simp only [Instr.loadAt,Instr.sureAddr,AV.ae,A0.ae,Cell.ae,addrOf,hb,Option.map_some,Sem.run_bind,Sem.run_pure,Result.andThen_ok,this,iP]
     ·rename_i ha
      split at hv
      ·rename_i c hc
       cases hv
       have hcs:cs[off]? =some c:=by
        have h0:((cs.drop off).take i.size)[0]? =some c:=by rw [hc];rfl
        rw [List.getElem?_take] at h0
        split at h0
        ·rw [List.getElem?_drop] at h0;simpa using h0
        ·cases h0
       refine ⟨?_,(hst.kn n _ bQ).2 c (List.mem_of_getElem? hcs)⟩
       have:=hrun.2 (by simpa using ha) (c.ae ρ) (by simp [hcs])
       simp only [Instr.loadAt,Instr.sureAddr,AV.ae,A0.ae,Cell.ae,addrOf,hb,Option.map_some,Sem.run_bind,Sem.run_pure,Result.andThen_ok,this]
      ·cases hv
    ·exact h.elim
   ·exact h.elim
  ·exact h.elim
 ·rename_i n j q
  exact P5 hT ht (by unfold rW;exact h)
 ·rename_i n j q
  exact P5 hT ht (am0 (by unfold rW;exact h))
 ·exact h.elim
theorem nK {α β:Type} (f:α->β): ∀(ys cs:List α) (off:Nat),(setCells cs off ys).map f=setCells (cs.map f) off (ys.map f)
 | [],_,_=>rfl
 |y::r,cs,off=>by simp only [setCells,List.map_cons];rw [nK f r];simp [List.map_set]
theorem ow {ρ:Env} {n b off:Nat} (hb:(ρ n).blk=some b):(AV.v (.one (.ptr n off))).ae ρ= .pointer (some ⟨b,off,none⟩):=by
 simp [AV.ae,A0.ae,Cell.ae,addrOf,hb]
theorem pY {ρ:Env} {n b off:Nat} (hb:(ρ n).blk=some b):(AV.v (.one (.nW n off))).ae ρ= .pointer (some ⟨b,off,none⟩):=by
 simp [AV.ae,A0.ae,Cell.ae,addrOf,hb]
theorem yJ (hT:di P ctx.tt) {t:TypeId} {i:TI} (ht:aL ctx.tt t=some i) {a:Addr} {v:Value} {vs:List Value} (hv:v.cells=vs.toArray) (hl:vs.length=i.size) (w:World):
  (Instr.storeAt t (.pointer (some a)) v).run P w=(storeCells a vs).run P w:=by
 simp [Instr.storeAt,Instr.sureAddr,storeVar,hT.sz ht,hv,hl]
theorem xH: ∀(ys:List Cell) (ps:List cw),ga ys=some ps->ps.length=ys.length/\ qq ys=true/\ ∀(ρ:Env),ys.map (Cell.ae ρ)=ps.map bJ/\ ∀c∈ps,∃v,c= .flat v
 | [],ps,h=>by simp only [ga,Option.some.injEq] at h;subst h;exact ⟨rfl,rfl,fun ρ=>⟨rfl,by simp⟩⟩
 |y::r,ps,h=>by
  unfold ga at h
  split at h
  ·simp_all
  ·rename_i v r' heq
   cases heq
   have main: ∀qs,ga r=some qs->yn v=true->(cw.flat v::qs).length=(Cell.raw v::r).length/\ qq (Cell.raw v::r)=true/\ ∀(ρ:Env),(Cell.raw v::r).map (Cell.ae ρ)=(cw.flat v::qs).map bJ/\ ∀c∈(cw.flat v::qs),∃v,c= .flat v:=fun qs hq hv=>by
    obtain ⟨h1,h2,h3⟩:=xH r qs hq
    refine ⟨by simp [h1],by simp [qq,Cell.one,hv,h2],fun ρ=>⟨by simp [(h3 ρ).1,Cell.ae,bJ],fun c hc=> ?_⟩⟩
    rcases List.mem_cons.1 hc with rfl|hc
    ·exact ⟨v,rfl⟩
    ·exact (h3 ρ).2 c hc
   split at h<;>try (cases h;done)
   all_goals
    obtain ⟨qs,hq,rfl⟩:=Option.map_eq_some_iff.1 h
    exact main qs hq rfl
  ·cases h
theorem Sf {c:cw} (h: ∃v,c= .flat v) (s:Option Addr×Nat):nt s c=bJ c:=by obtain ⟨v,rfl⟩:=h;rfl
theorem fB {α:Type} : ∀(ys cs:List α) (off i:Nat),off+ys.length<=cs.length->(setCells cs off ys)[i]? =if off<=i/\ i<off+ys.length then ys[i- off]? else cs[i]? :=by
 intro ys cs off i h
 rw [jI ys cs off h]
 simp only [List.getElem?_append,List.length_append,List.length_take,List.getElem?_take,List.getElem?_drop]
 grind
theorem v9 (t:Ty) (x':t.T): ∀(l:List t.T) (j:Nat),j<l.length->ay t (l.set j x')=setCells (ay t l) (j*t.size) (t.aU x')
 | [],j,h=>by simp at h
 |x::r,0,_=>by
  simp only [List.set_cons_zero,ay,List.flatMap_cons,Nat.zero_mul]
  rw [jI _ _ _ (by simp [aV])]
  simp [aV]
 |x::r,j+1,h=>by
  simp only [List.length_cons] at h
  have hl:=bE t r
  have ih:=v9 t x' r j (by omega)
  have hb:j*t.size+t.size<=r.length*t.size:=by rw [<- Nat.succ_mul];exact Nat.mul_le_mul_right _ (by omega)
  simp only [List.set_cons_succ,ay,List.flatMap_cons] at ih hl ⊢
  rw [ih]
  apply List.ext_getElem?
  intro i
  have e:(j+1)*t.size=j*t.size+t.size:=Nat.succ_mul _ _
  rw [fB _ _ _ _ (by rw [List.length_append,aV,aV,hl,e];omega),List.getElem?_append,fB _ _ _ _ (by rw [aV,hl];omega),List.getElem?_append]
  simp only [aV,e]
  by_cases h1:i<t.size
  ·rw [if_pos h1,if_pos h1,if_neg (by omega)]
  ·rw [if_neg h1,if_neg h1]
   by_cases h2:j*t.size<=i- t.size/\ i- t.size<j*t.size+t.size
   ·rw [if_pos h2,if_pos (by omega),show i- (j*t.size+t.size)=i- t.size- j*t.size by omega]
   ·rw [if_neg h2,if_neg (by omega)]
theorem VU: ∀(ms:List Int),qq (ms.map fun n=>Cell.raw (.int .i64 n))=true
 | []=>rfl
 |a::r=>by simp [qq,Cell.one,yn,VU r]
theorem St.drop {av:fG} {W:World} {ρ:Env} {Kn:Nat->Prop} {Γ AQ:HP} {w:World} (h:St av W ρ Kn Γ w) (hs: ∀x p,AQ x=some p->Γ x=some p):St av W ρ Kn AQ w:=by
 have hL: ∀b,LO ρ AQ b->LO ρ Γ b:=fun b hb=>by
  rcases hb with ⟨m,h1,h2⟩|⟨m,S,h1,h2⟩
  ·obtain ⟨o,ho⟩:=Option.isSome_iff_exists.1 h1
   exact .inl ⟨m,by rw [hs m o ho];rfl,h2⟩
  ·exact .inr ⟨m,S,hs m _ h1,h2⟩
 have hsm: ∀m,(AQ m).isSome=true->(Γ m).isSome=true:=fun m hm=>by
  obtain ⟨o,ho⟩:=Option.isSome_iff_exists.1 hm
  rw [hs m o ho];rfl
 exact ⟨h.fr,fun n o ho=>cx (Kn:=Kn) (h.at_ n o (hs n o ho)) (fun _ _=>rfl) (h.kn n o (hs n o ho)).1 (h.kn n o (hs n o ho)).2 (fun b hb=>⟨⟨hb.1,fun q=>hb.2 (hL b q)⟩,rfl⟩) (fun _ _ h=>h) fun _ _=>rfl,
  fun n o ho=>h.kn n o (hs n o ho),fun n m b hn hm=>h.dU n m b (hsm n hn) (hsm m hm),fun n b hn=>h.lC n b (hsm n hn),fun b ⟨m,S,h1,h2⟩=>⟨(h.ru b ⟨m,S,hs m _ h1,h2⟩).1,fun ⟨m',h3,h4⟩=>(h.ru b ⟨m,S,hs m _ h1,h2⟩).2 ⟨m',hsm m' h3,h4⟩⟩,fun n o ho=>h.wK n o (hs n o ho)⟩
theorem abd (hT:di P ctx.tt) {t:TypeId} {i:TI} (ht:aL ctx.tt t=some i) {n j q:Nat} {y:AV} {ys:List Cell} (hys:y.cells=some ys) (hsz:ys.length=i.size) {u:Ty} {l:List u.T} {rk:Nat} (he:hp n=some (.row u l rk)) (sQ: ¬rk=0) (h:abb u l rk n j q ys hp k):
  ∃r,aO P ctx.X hp nm (fun Kn=>(AV.v (.one (.c9 n j q))).ok Kn/\ y.ok Kn) (fun ρ=>Instr.storeAt t ((AV.v (.one (.c9 n j q))).ae ρ) (y.ae ρ)) (fun _=>()) r/\ r.val=ck/\ k r:=by
 unfold abb at h
 split at h
 rotate_left
 ·exact h.elim
 rename_i m
 split at h
 rotate_left
 ·exact h.elim
 rename_i u' lm rm hm
 split at h
 ·exact h.elim
 rename_i hc
 simp only [not_or] at hc
 obtain ⟨hrm,aiu,hmn,huf,hq⟩:=hc
 have huf:u'.flat=true:=by simpa using huf
 split at h
 rotate_left
 ·exact h.elim
 rename_i x' hx'
 obtain ⟨hj,h⟩:=bh h
 have h:=h.2 _ rfl
 simp only [decide_eq_true_eq] at hj
 refine ⟨_,⟨fun p fh=> ?_,?_⟩,rfl,h⟩
 ·simp only [List.mem_cons,List.not_mem_nil,or_false] at fh
  rcases fh with rfl|rfl
  ·rw [he];simp
  ·rw [hm];simp
 intro av W ρ Kn Γ w _ hk j7 _ hst
 have bQ:Γ n=some (.row u l rk):=by rw [j7 n (by simp),he]
 have amL:Γ m=some (.row u' lm rm):=by rw [j7 m (by simp),hm]
 obtain ⟨o1,o2,o3,sub,m1,m2,m3,m4⟩:=hst.at_ n _ bQ
 obtain ⟨p1,p2,p3,as5,q1,q2,q3,q4⟩:=hst.at_ m _ amL
 rcases (m4 sQ).old aiu with ⟨_,h0,_⟩|⟨b,rest,e,hb,hbase,hh,hcap⟩
 ·subst h0;simp at hj
 have Gf:u.aU x'=setCells (u.aU (gd u l j)) q [.sl u' lm]:=by
  have:=pH u _ _ _ hx';rw [List.append_nil] at this;exact this.symm
 have hrl:=bE u l
 have hjl:j*u.size+u.size<=l.length*u.size:=by rw [<- Nat.succ_mul];exact Nat.mul_le_mul_right _ (by omega)
 have On: ∀x,(ay u (l.set j x'))[x]? =if x=j*u.size+q then some (.sl u' lm) else (ay u l)[x]? :=fun x=>by
  rw [v9 u x' l j hj,fB _ _ _ _ (by rw [aV];omega),aV,Gf]
  by_cases h1:j*u.size<=x/\ x<j*u.size+u.size
  ·rw [if_pos h1,fB _ _ _ _ (by rw [aV];simp;omega)]
   by_cases h2:x=j*u.size+q
   ·subst h2
    rw [if_pos rfl,if_pos (by constructor<;>simp<;>omega)]
    have:j*u.size+q- j*u.size- q=0:=by omega
    rw [this];rfl
   ·rw [if_neg (by simp;omega),if_neg h2]
    have:=pQ u l j _ (x- j*u.size) (Zc hj) (by omega)
    rw [show j*u.size+(x- j*u.size)=x by omega] at this
    exact this.symm
  ·rw [if_neg h1,if_neg (by omega)]
 obtain ⟨sub',ach⟩: ∃sub':Nat->Option Addr×Nat,sub'=fun x=>if x=j*u.size+q then ((ρ m).base,(ρ m).cap) else sub x:=⟨_,rfl⟩
 have Py:aJ sub' 0 (ay u (l.set j x'))=setCells (aJ sub 0 (ay u l)) (j*u.size+q) ([Cell.full m].map (Cell.ae ρ)):=by
  apply List.ext_getElem?
  intro x
  rw [dF,On,fB _ _ _ _ (by rw [bM];simp;omega),dF]
  by_cases h1:x=j*u.size+q
  ·subst h1
   rw [if_pos rfl,if_pos (by simp),Nat.sub_self,ach]
   simp [nt,Cell.ae,p1]
  ·rw [if_neg h1,if_neg (by simp;omega),ach,Nat.zero_add]
   simp only [if_neg h1]
 have hlt:j*u.size+q+1<=(aJ sub 0 (ay u l)).length:=by rw [bM,hrl];omega
 have hrun:(Instr.storeAt t ((AV.v (.one (.c9 n j q))).ae ρ) (y.ae ρ)).run P w= .ok () (w.setRow b (aJ sub' 0 (ay u (l.set j x'))++rest).toArray):=by
  have hst:=run_storeCells_at P b (j*u.size+q) e ([Cell.full m].map (Cell.ae ρ)) 0 _ w hh (by simp;omega) (rB [Cell.full m] rfl ρ)
  have ex:(AV.v (.one (.c9 n j q))).ae ρ= .pointer (some ⟨b,j*u.size+q,none⟩):=by
   simp only [AV.ae,A0.ae,Cell.ae,hbase,o2,Option.map_some]
   unfold Addr.add;split<;>simp_all
  rw [ex,yJ hT ht (AV.kJ hys ρ) (by simpa using hsz),hst,Py]
  congr 2
  simp only [Nat.add_zero,List.length_map]
  rw [jI _ _ _ (by simpa using hlt)]
  rw [List.take_append_of_le_length (by omega),List.drop_append_of_le_length (by simp;omega)]
  simp
 refine ⟨ρ,_,hrun,fun _ _=>rfl,fun a ha=>absurd ha (by simp),?_⟩
 obtain ⟨Γ2,Zu⟩: ∃Γ2:HP,Γ2=fun x=>if x=m then none else Γ x:=⟨_,rfl⟩
 have Gi:St av W ρ Kn Γ2 w:=hst.drop fun x p fh=>by
  rw [Zu] at fh
  dsimp only at fh
  split at fh
  ·cases fh
  ·exact fh
 have asx:Γ2 n=some (.row u l rk):=by rw [Zu];dsimp only;rw [if_neg (Ne.symm hmn)];exact bQ
 have aur:bV {val:=ck,writes:= [(n,.row u (l.set j x') rk),(m,.gone)],aF:= [n,m]} nm Γ=fO Γ2 n (.row u (l.set j x') rk):=by
  funext x
  simp only [bV,fO,cm,List.length_nil,Zu]
  rw [if_neg (by omega)]
  by_cases h1:m=x
  ·subst h1
   simp [live,hmn]
  ·by_cases h2:n=x
   ·subst h2;simp [h1,live]
   ·simp [h1,h2,Ne.symm h1,Ne.symm h2]
 rw [fS,aur]
 refine Gi.write asx hb trivial (fun _ h=>by cases h) fun hfz=> ?_
 have Zm: ∀b',dV ρ Γ w b'->dV ρ Γ2 w b':=fun b' hb'=>⟨hb'.1,by
  rintro (⟨x,h1,h2⟩|⟨x,S,h1,h2⟩)
  ·rw [Zu] at h1
   dsimp only at h1
   split at h1
   ·cases h1
   ·exact hb'.2 (.inl ⟨x,h1,h2⟩)
  ·rw [Zu] at h1
   dsimp only at h1
   split at h1
   ·cases h1
   ·exact hb'.2 (.inr ⟨x,S,h1,h2⟩)⟩
 have hfm: ∀b',(ρ m).blk=some b'->bj w b'->dV ρ Γ2 w b':=fun b' hb' Jj=>⟨Jj,by
  rintro (⟨x,h1,h2⟩|⟨x,S,h1,h2⟩)
  ·rw [Zu] at h1
   dsimp only at h1
   split at h1
   ·cases h1
   ·rename_i hx
    exact hx (hst.dU x m b' h1 (by rw [amL];rfl) h2 (.inl hb'))
  ·rw [Zu] at h1
   dsimp only at h1
   split at h1
   ·cases h1
   ·exact (hst.ru b' ⟨x,S,h1,h2⟩).2 ⟨m,by rw [amL];rfl,.inl hb'⟩⟩
 have YE:=setRow_heap w b _ (aJ sub' 0 (ay u (l.set j x'))++rest).toArray _ _ hh
 refine ⟨by simpa using o1,o2,by simpa using o3,sub',fun x v hx=> ?_,fun x u2 l2 hx=> ?_,m3,fun _=>jk.new (.inr ⟨b,rest,e,hb,hbase,YE,?_⟩)⟩
 ·refine ⟨_,hbase,?_,fun e=>absurd e sQ⟩
  have e1:(⟨b,0,none⟩:Addr).add x=⟨b,x,none⟩:=by unfold Addr.add;split<;>simp_all
  rw [e1,bL YE,List.getElem?_append_left (List.getElem?_eq_some_iff.1 hx).1];exact hx
 ·rw [On] at hx
  split at hx
  ·rename_i hx0
   cases hx
   have es:sub' x=((ρ m).base,(ρ m).cap):=by rw [ach,hx0];simp
   rw [es]
   refine ⟨huf,p3,fun i v hv=> ?_⟩
   have hvs:aJ as5 0 (ay u' lm)=bf u' lm:=by
    unfold bf
    have: ∀(cs:List cw) (z:Nat),(∀c∈cs,∃v,c= .flat v)->aJ as5 z cs=cs.map bJ:=by
     intro cs
     induction cs with
     |nil=>intro _ _;rfl
     |cons c r ih=>
      intro z hz
      obtain ⟨v,rfl⟩:=hz c (by simp)
      simp only [aJ,List.map_cons,ih (z+1) fun c hc=>hz c (by simp [hc])]
      rfl
    exact this _ 0 fun c hc=>by
     obtain ⟨x2,_,h2⟩:=List.mem_flatMap.1 hc
     exact St.views.gV u' huf x2 c h2
   obtain ⟨a,k1,k2,_⟩:=q1 i v (by rw [hvs];exact hv)
   rcases q4 hrm with ⟨_,h0,_⟩|⟨bm,ayh,awD,em,hbm,ah4,hhm,avZ⟩
   ·rw [List.eq_nil_of_length_eq_zero h0] at hv;simp [bf,ay] at hv
   ·rw [ah4] at k1
    cases k1
    have hcb:bj w bm:=⟨_,_,_,hhm⟩
    obtain ⟨f1,f2⟩:=hfz bm (hfm bm hbm hcb)
    refine ⟨_,ah4,?_,f1,fun _=>⟨(hst.own m bm (by rw [amL];rfl) hbm).imp_right .inl,(YG.of hhm).same f2⟩⟩
    rw [<- k2]
    exact World.cell?_of_block (by rw [fU];exact f2)
  ·rename_i hx0
   have es:sub' x=sub x:=by rw [ach];exact if_neg hx0
   rw [es]
   exact (m2 x _ _ hx).mono fun b' hb'=>⟨⟨(hfz b' (Zm b' hb'.1)).1,fun e=>⟨(hb'.2 e).1,(hb'.2 e).2.same (hfz b' (Zm b' hb'.1)).2⟩⟩,(hfz b' (Zm b' hb'.1)).2⟩
 ·exact ⟨by rw [hcap.1];simp [bM,bE],hcap.2⟩
theorem NG (hT:di P ctx.tt) {t:TypeId} {i:TI} (ht:aL ctx.tt t=some i) {n j q:Nat} {y:AV} (h:ri i (.v (.one (.c9 n j q))) y hp k):
  ∃r,aO P ctx.X hp nm (fun Kn=>(AV.v (.one (.c9 n j q))).ok Kn/\ y.ok Kn) (fun ρ=>Instr.storeAt t ((AV.v (.one (.c9 n j q))).ae ρ) (y.ae ρ)) (fun _=>()) r/\ r.val=ck/\ k r:=by
 unfold ri at h
 cases hys:y.cells with
 |none=>rw [hys] at h;exact h.elim
 |some ys=>
 rw [hys] at h
 dsimp only at h
 split at h
 ·rename_i hsz
  split at h
  ·rename_i u l rk he
   split at h
   ·exact h.elim
   ·rename_i sQ
    obtain ⟨sQ,aiu⟩:=not_or.1 sQ
    split at h
    ·rename_i ps hps
     split at h
     ·rename_i hq
      split at h
      ·rename_i x' hx'
       obtain ⟨hj,h⟩:=bh h
       have h:=h.2 _ rfl
       simp only [decide_eq_true_eq] at hj
       refine ⟨_,⟨fun p fh=>by simp at fh;subst fh;rw [he];simp,?_⟩,rfl,h⟩
       intro av W ρ Kn Γ w _ hk j7 _ hst
       have bQ:Γ n=some (.row u l rk):=by rw [j7 n (by simp),he]
       obtain ⟨o1,o2,o3,sub,m1,m2,m3,m4⟩:=hst.at_ n _ bQ
       rcases (m4 sQ).old aiu with ⟨_,h0,_⟩|⟨b,rest,e,hb,hbase,hh,hcap⟩
       ·subst h0;simp at hj
       obtain ⟨Aa,hone,hpc⟩:=xH ys ps hps
       have Gf:u.aU x'=setCells (u.aU (gd u l j)) q ps:=by
        have:=pH u _ _ _ hx';rw [List.append_nil] at this;exact this.symm
       have hrl:=bE u l
       have hjl:j*u.size+u.size<=l.length*u.size:=by rw [<- Nat.succ_mul];exact Nat.mul_le_mul_right _ (by omega)
       have On: ∀m,(ay u (l.set j x'))[m]? =if j*u.size+q<=m/\ m<j*u.size+q+ps.length then ps[m- (j*u.size+q)]? else (ay u l)[m]? :=fun m=>by
        rw [v9 u x' l j hj,fB _ _ _ _ (by rw [aV];omega),aV,Gf]
        by_cases h1:j*u.size<=m/\ m<j*u.size+u.size
        ·rw [if_pos h1,fB _ _ _ _ (by rw [aV];omega)]
         by_cases h2:q<=m- j*u.size/\ m- j*u.size<q+ps.length
         ·rw [if_pos h2,if_pos (by omega),show m- j*u.size- q=m- (j*u.size+q) by omega]
         ·rw [if_neg h2,if_neg (by omega)]
          have:=pQ u l j _ (m- j*u.size) (Zc hj) (by omega)
          rw [show j*u.size+(m- j*u.size)=m by omega] at this
          exact this.symm
        ·rw [if_neg h1,if_neg (by omega)]
       have Py:aJ sub 0 (ay u (l.set j x'))=setCells (aJ sub 0 (ay u l)) (j*u.size+q) (ys.map (Cell.ae ρ)):=by
        apply List.ext_getElem?
        intro m
        rw [dF,On,fB _ _ _ _ (by rw [bM];simp;omega),dF,(hpc ρ).1]
        simp only [List.length_map,List.getElem?_map]
        by_cases h1:j*u.size+q<=m/\ m<j*u.size+q+ps.length
        ·rw [if_pos h1,if_pos h1]
         cases hm:ps[m- (j*u.size+q)]? with
         |none=>rfl
         |some c=>exact congrArg some (Sf ((hpc ρ).2 c (List.mem_of_getElem? hm)) _)
        ·rw [if_neg h1,if_neg h1]
       have hlt:j*u.size+q+ys.length<=(aJ sub 0 (ay u l)).length:=by rw [bM,hrl];omega
       have hrun:(Instr.storeAt t ((AV.v (.one (.c9 n j q))).ae ρ) (y.ae ρ)).run P w= .ok () (w.setRow b (aJ sub 0 (ay u (l.set j x'))++rest).toArray):=by
        have hst:=run_storeCells_at P b (j*u.size+q) e (ys.map (Cell.ae ρ)) 0 _ w hh (by simp;omega) (rB ys hone ρ)
        have ex:(AV.v (.one (.c9 n j q))).ae ρ= .pointer (some ⟨b,j*u.size+q,none⟩):=by
         simp only [AV.ae,A0.ae,Cell.ae,hbase,o2,Option.map_some]
         unfold Addr.add;split<;>simp_all
        rw [ex,yJ hT ht (AV.kJ hys ρ) (by simpa using hsz),hst,Py]
        congr 2
        simp only [Nat.add_zero,List.length_map]
        rw [jI _ _ _ (by simpa using hlt)]
        rw [List.take_append_of_le_length (by omega),List.drop_append_of_le_length (by omega)]
        simp
       refine ⟨ρ,_,hrun,fun _ _=>rfl,fun a ha=>absurd ha (by simp),?_⟩
       rw [fS,mL _ _ _ _ _ _ rfl]
       refine hst.write bQ hb trivial (fun _ h=>by cases h) fun hfz=> ?_
       have YE:=setRow_heap w b _ (aJ sub 0 (ay u (l.set j x'))++rest).toArray _ _ hh
       refine ⟨by simpa using o1,o2,by simpa using o3,sub,fun m v hm=> ?_,fun m u' l' hm=> ?_,m3,fun _=>jk.new (.inr ⟨b,rest,e,hb,hbase,YE,?_⟩)⟩
       ·refine ⟨_,hbase,?_,fun e=>absurd e sQ⟩
        have e1:(⟨b,0,none⟩:Addr).add m=⟨b,m,none⟩:=by unfold Addr.add;split<;>simp_all
        rw [e1,bL YE,List.getElem?_append_left (List.getElem?_eq_some_iff.1 hm).1];exact hm
       ·rw [On] at hm
        split at hm
        ·obtain ⟨v,hv⟩:=(hpc ρ).2 _ (List.mem_of_getElem? hm);cases hv
        ·exact (m2 m u' l' hm).mono fun b' hb'=>⟨⟨(hfz b' hb'.1).1,fun e=>⟨(hb'.2 e).1,(hb'.2 e).2.same (hfz b' hb'.1).2⟩⟩,(hfz b' hb'.1).2⟩
       ·exact ⟨by rw [hcap.1];simp [bM,bE],hcap.2⟩
      ·exact h.elim
     ·exact h.elim
    ·exact abd hT ht hys hsz he sQ h
  ·exact h.elim
 ·exact h.elim
theorem xG: ∀(ms:List Int),ga (ms.map fun m=>Cell.raw (.int .i64 m))=some (ms.map fun m=> .flat (.int .i64 m))
 | []=>rfl
 |m::r=>by simp only [List.map_cons,ga,xG r,Option.map_some]
theorem akr {i:TI} {n j q:Nat} {y:AV} (h:ri i (.v (.one (.fY n j q))) y hp k):ri i (.v (.one (.c9 n j q))) y hp k:=by
 unfold ri at h ⊢
 cases hys:y.cells with
 |none=>rw [hys] at h;exact h.elim
 |some ys=>
 rw [hys] at h
 dsimp only at h ⊢
 split at h
 ·rename_i hsz
  rw [if_pos hsz]
  split at h
  ·rename_i u l rk he
   split at h
   ·exact h.elim
   ·rename_i sQ
    rw [if_neg sQ]
    split at h
    ·rename_i ms ns hms UE
     have ey:=iS (fun _=> {}) ys ms hms
     have hf:ga ys=some (ms.map fun m=> .flat (.int .i64 m)):=by rw [ey];exact xG ms
     rw [hf]
     dsimp only
     have e:setCells (u.aU (gd u l j)) q (ms.map fun m=>cw.flat (.int .i64 m))=(vG q ms ns).map fun m=> .flat (.int .i64 m):=by
      rw [nC _ _ UE,Ci,nK]
     split at h
     ·rename_i x' hx'
      obtain ⟨h1,h⟩:=bh h
      simp only [decide_eq_true_eq] at h1
      have hl:ys.length=ms.length:=by rw [ey];simp
      rw [if_pos (by simpa [<- hl] using h1),e,hx']
      exact h
     ·exact h.elim
    ·exact h.elim
  ·exact h.elim
 ·exact h.elim
theorem NF (hT:di P ctx.tt) {t:TypeId} {i:TI} (ht:aL ctx.tt t=some i) {x y:AV} (h:ri i x y hp k):
  ∃r,aO P ctx.X hp nm (fun Kn=>x.ok Kn/\ y.ok Kn) (fun ρ=>Instr.storeAt t (x.ae ρ) (y.ae ρ)) (fun _=>()) r/\ r.val=ck/\ k r:=by
 have core: ∀ {ρ:Env} {w:World} {n b off:Nat} {cs ys:List Cell} {e:TypeId} {v:Value},y.cells=some ys->ys.length=i.size->qq ys=true->(ρ n).blk=some b->w.heap[b]? =some (.cells (cs.map (Cell.ae ρ)).toArray e (0,0))->off+ys.length<=cs.length->v= .pointer (some ⟨b,off,none⟩)->
   (Instr.storeAt t v (y.ae ρ)).run P w= .ok () (w.setRow b ((setCells cs off ys).map (Cell.ae ρ)).toArray):=by
  intro ρ w n b off cs ys e v hys hsz hone hb hh hl hv
  have hst:=run_storeCells_at P b off e (ys.map (Cell.ae ρ)) 0 _ w hh (by simp;omega) (rB ys hone ρ)
  rw [hv,yJ hT ht (AV.kJ hys ρ) (by simpa using hsz),hst]
  congr 2
  simp only [Nat.add_zero,List.length_map,T7 (Cell.ae ρ) ys cs off hl]
 unfold ri at h
 split at h
 ·rename_i n off ys hys
  split at h
  ·rename_i hsz
   split at h
   ·rename_i hone
    split at h
    ·rename_i cs e he
     split at h
     ·rename_i hl
      refine ⟨_,⟨fun p fh=>by simp at fh;subst fh;rw [he];simp,?_⟩,rfl,h⟩
      intro av W ρ Kn Γ w _ hk j7 _ hst
      have bQ:Γ n=some (.cells cs e):=by rw [j7 n (by simp),he]
      obtain ⟨b,hb,hh⟩:=hst.at_ n _ bQ
      have hrun:=core hys hsz hone hb hh hl (ow hb)
      refine ⟨ρ,_,hrun,fun _ _=>rfl,fun a ha=>absurd ha (by simp),?_⟩
      rw [fS,mL _ _ _ _ _ _ rfl]
      refine hst.write bQ hb (fun c hc=> ?_) (fun _ h=>by cases h) fun _=>⟨b,hb,by rw [setRow_heap _ _ _ _ _ _ hh]⟩
      rcases wg hl hc with h1|h1
      ·exact (hst.kn n _ bQ).2 c h1
      ·exact AV.C0 hys hk.2 c h1
     ·exact h.elim
    ·exact h.elim
   ·exact h.elim
  ·exact h.elim
 ·rename_i n off ys hys
  split at h
  ·rename_i hsz
   split at h
   ·rename_i cs e he
    split at h
    ·rename_i ns ms UE hms
     obtain ⟨hl,h⟩:=bh h
     simp only [decide_eq_true_eq] at hl
     have ec:=iS (fun _=> {}) cs ns UE
     have ey:=iS (fun _=> {}) ys ms hms
     have Zt:(vG off ms ns).map (fun q=>Cell.raw (.int .i64 q))=setCells cs off ys:=by
      rw [Ci,nK,<- ec,<- ey]
     rw [Zt] at h
     have hone:qq ys=true:=by
      rw [ey];exact VU ms
     refine ⟨_,⟨fun p fh=>by simp at fh;subst fh;rw [he];simp,?_⟩,rfl,h⟩
     intro av W ρ Kn Γ w _ hk j7 _ hst
     have bQ:Γ n=some (.cells cs e):=by rw [j7 n (by simp),he]
     obtain ⟨b,hb,hh⟩:=hst.at_ n _ bQ
     have hrun:=core hys hsz hone hb hh hl (pY hb)
     refine ⟨ρ,_,hrun,fun _ _=>rfl,fun a ha=>absurd ha (by simp),?_⟩
     rw [fS,mL _ _ _ _ _ _ rfl]
     refine hst.write bQ hb (fun c hc=> ?_) (fun _ h=>by cases h) fun _=>⟨b,hb,by rw [setRow_heap _ _ _ _ _ _ hh]⟩
     rcases wg hl hc with h1|h1
     ·exact (hst.kn n _ bQ).2 c h1
     ·exact AV.C0 hys hk.2 c h1
    ·exact h.elim
   ·exact h.elim
  ·exact h.elim
 ·rename_i n j q ys hys
  exact NG hT ht (by unfold ri;rw [hys];exact h)
 ·rename_i n j q ys hys
  exact NG hT ht (akr (by unfold ri;rw [hys];exact h))
 ·exact h.elim
theorem wF (Kn:Nat->Prop):ck.ok Kn:=fun a ha=>absurd ha (by simp)
theorem Cf (cs:List Cell) (e:TypeId) (v:AV) (HM:(Nat->Prop)->Prop) (f:Env->Sem Value) (hok: ∀Kn,HM Kn-> ∀c∈cs,c.ok Kn)
  (hv: ∀Kn,v.ok (Ob Kn nm)) (hf: ∀(ρ:Env) (w:World),(f ρ).run P w= .ok (v.ae (bA ρ nm {blk:=some w.heap.size})) (w.alloc (.cells (cs.map (Cell.ae ρ)).toArray e (0,0)))):
  aO P ctx.X hp nm HM f (fun ρ=>v.ae ρ) {val:=v,fresh:= [.cells cs e]} :=by
 refine ⟨fun p hp=>absurd hp (by simp),?_⟩
 intro av W ρ Kn Γ w _ hk _ hfr hst
 have hn: ¬Kn nm:=by simpa using hfr 0 (by simp)
 refine ⟨bA ρ nm {blk:=some w.heap.size},_,hf ρ w,jL hn,?_,?_⟩
 ·rw [JQ];exact hv Kn
 ·rw [JQ,agU];exact hst.alloc hn (hok Kn hk)
theorem DT (ρ:Env) (w:World) (off:Nat):(AV.v (.one (.ptr nm off))).ae (bA ρ nm {blk:=some w.heap.size})= .pointer (some ⟨w.heap.size,off,none⟩):=by
 simp [AV.ae,A0.ae,Cell.ae,addrOf,bA]
theorem adE (hT:di P ctx.tt) {t:TypeId} {i:TI} (ht:aL ctx.tt t=some i):
  aO P ctx.X hp nm (fun _=>True) (fun _=>Instr.alloc t true (.tuple #[])) (fun ρ=>(AV.v (.one (.ptr nm 0))).ae ρ) {val:= .v (.one (.ptr nm 0)),fresh:= [.cells (mB i.zero) t]} :=by
 refine Cf _ _ _ _ _ (fun _ _=>TY _ _) (fun _=> .inr rfl) fun ρ w=> ?_
 rw [DT]
 simp [Instr.alloc,hT.z ht,newVar,newRow,mB,-List.map_map,JV]
theorem alJ {t:TypeId} {x:AV} {xs:List Cell} (hx:x.cells=some xs):
  aO P ctx.X hp nm (fun Kn=>x.ok Kn) (fun ρ=>Instr.box t (x.ae ρ)) (fun ρ=>(AV.v (.one (.ptr nm 0))).ae ρ) {val:= .v (.one (.ptr nm 0)),fresh:= [.cells xs t]} :=by
 refine Cf _ _ _ _ _ (fun Kn hk=>AV.C0 hx hk) (fun _=> .inr rfl) fun ρ w=> ?_
 rw [DT]
 simp [Instr.box,newVar,newRow,AV.kJ hx]
end
end Go.Ev
