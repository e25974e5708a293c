/- Each operation, but for calls, does what 'opE' says. -/
import Derived.Test.YtngdehlpoomaiaaGreatEvB
noncomputable section
set_option linter.unusedSectionVars false
set_option linter.unusedVariables false
set_option linter.unusedSimpArgs false
namespace Go.Ev
open Go.RowKit
def cP (P:Program) (tt:List (Nat×TI)):Prop:= ∀t i,aJ tt t=some i->P.underlying t=some i.desc/\
 0<i.size/\ ∃inf,P.info? t=some inf/\ inf.size=i.size/\ inf.bytes=i.bytes/\ inf.zero=some i.zero/\ (cY i.desc=true->P.stoodInHeld t=false/\ P.eqGuardType P.depth t=false)
section
variable {P:Program} {tt:List (Nat×TI)} {t:TypeId} {i:TI}
theorem cP.u (h:cP P tt) (ht:aJ tt t=some i) (w:World):(underlying t).run P w= .ok i.desc w:=run_underlying (h t i ht).1 w
theorem cP.ti (h:cP P tt) (ht:aJ tt t=some i) (w:World): ∃inf,(typeInfo t).run P w= .ok inf w/\ inf.size=i.size/\ inf.bytes=i.bytes/\ inf.zero=some i.zero:=by
 obtain ⟨_,_,inf,h1,h2,h3,h4,_⟩:=h t i ht
 exact ⟨inf,by simp [typeInfo,h1],h2,h3,h4⟩
theorem cP.sz (h:cP P tt) (ht:aJ tt t=some i) (w:World):(sizeOf t).run P w= .ok i.size w:=by
 obtain ⟨inf,h1,h2,_⟩:=h.ti ht w
 simp [sizeOf,h1,h2]
theorem cP.z (h:cP P tt) (ht:aJ tt t=some i) (w:World):(zeroValue t).run P w= .ok i.zero w:=by
 obtain ⟨inf,h1,_,_,h4⟩:=h.ti ht w
 simp [zeroValue,h1,h4]
theorem cP.ag (h:cP P tt) (ht:aJ tt t=some i) (w:World):(isAgg t).run P w= .ok (cY i.desc) w:=by
 simp only [isAgg,Sem.run_bind,h.u ht w,Result.andThen_ok,cY]
 cases i.desc<;>rfl
end
theorem gF (f:Cell->Value) (cs:List Cell) (off m:Nat):((cs.drop off).take m).map f=((cs.map f).drop off).take m:=by simp [List.map_drop,List.map_take]
section
variable {P:Program} {ctx:Ctx} {hp:HP} {nm:Nat} {k:Rec->Prop}
theorem bH {w:World} {b:Nat} {cs:List Value} {e:TypeId} (h:w.heap[b]? =some (.cells cs.toArray e (0,0))) (o:Nat):w.cell? ⟨b,o,none⟩=cs[o]? :=by
 simp [World.cell?,h]
theorem kp (hT:cP P ctx.tt) {t:TypeId} {i:TI} (ht:aJ ctx.tt t=some i) {w:World} {b off:Nat} {cs rest:List Value} {e:TypeId}
  (hh:w.heap[b]? =some (.cells (cs++rest).toArray e (0,0))):
  (cY i.desc=true->off+i.size<=cs.length->(loadVar t ⟨b,off,none⟩).run P w= .ok (.agg ((cs.drop off).take i.size).toArray) w)/\
  (cY i.desc=false-> ∀v,cs[off]? =some v->(loadVar t ⟨b,off,none⟩).run P w= .ok v w):=by
 constructor
 ·intro ha hl
  have hlen:((cs.drop off).take i.size).length=i.size:=by simp;omega
  have hc: ∀j v,((cs.drop off).take i.size)[j]? =some v->w.cell? ((⟨b,off,none⟩:Addr).add j)=some v:=by
   intro j v hj
   have e1:(⟨b,off,none⟩:Addr).add j=⟨b,off+j,none⟩:=by unfold Addr.add;split<;>simp_all
   rw [e1,bH hh]
   rw [List.getElem?_take] at hj
   split at hj
   ·rename_i hj2
    rw [List.getElem?_drop] at hj
    rw [List.getElem?_append_left (by omega)];exact hj
   ·cases hj
  have hl:=run_loadCells_list (P:=P) w ⟨b,off,none⟩ _ hc
  rw [hlen] at hl
  simp [loadVar,hT.ag ht,ha,hT.sz ht,hl]
 ·intro ha v hv
  have hlt:off<cs.length:=by
   rcases Nat.lt_or_ge off cs.length with h|h
   ·exact h
   ·rw [List.getElem?_eq_none h] at hv;cases hv
  have hc:w.cell? ⟨b,off,none⟩=some v:=by rw [bH hh,List.getElem?_append_left hlt,hv]
  simp [loadVar,hT.ag ht,ha,hc]
theorem WK (hT:cP P ctx.tt) {t:TypeId} {i:TI} (ht:aJ ctx.tt t=some i) {cs:List Cell} {n off:Nat} {e:TypeId} (he:hp n=some (.cells cs e)) (h:zP i cs n off k):
  ∃r,aL P ctx.X hp nm (fun _=>True) (fun ρ=>Instr.loadAt t (.pointer (addrOf ρ n off))) (fun ρ=>r.val.ae ρ) r/\ k r:=by
 unfold zP at h
 split at h
 ·rename_i ha
  split at h
  ·rename_i hl
   refine ⟨_,aL.pure ?_,h⟩
   intro au W ρ Kn Γ w _ _ ja hst
   have bL:Γ n=some (.cells cs e):=by rw [ja n (by simp),he]
   obtain ⟨b,hb,hh⟩:=hst.at_ n _ bL
   refine ⟨?_,?_⟩
   ·have:=(kp hT ht (off:=off) (rest:= []) (by simpa using hh)).1 ha (by simpa using hl)
    simp only [Instr.loadAt,Instr.sureAddr,addrOf,hb,Option.map_some,Sem.run_bind,Sem.run_pure,Result.andThen_ok,this,AV.ae,A0.ae,gF]
   ·intro c hc
    exact (hst.kn n _ bL).2 c (List.mem_of_mem_drop (List.mem_of_mem_take hc))
  ·exact h.elim
 ·rename_i ha
  split at h
  ·rename_i c hc
   refine ⟨_,aL.pure ?_,h⟩
   intro au W ρ Kn Γ w _ _ ja hst
   have bL:Γ n=some (.cells cs e):=by rw [ja n (by simp),he]
   obtain ⟨b,hb,hh⟩:=hst.at_ n _ bL
   refine ⟨?_,?_⟩
   ·have:=(kp hT ht (off:=off) (rest:= []) (by simpa using hh)).2 (by simpa using ha) (c.ae ρ) (by simp [hc])
    simp only [Instr.loadAt,Instr.sureAddr,addrOf,hb,Option.map_some,Sem.run_bind,Sem.run_pure,Result.andThen_ok,this,AV.ae,A0.ae]
   ·exact (hst.kn n _ bL).2 c (List.mem_of_getElem? hc)
  ·exact h.elim
theorem dM (a:Addr) (m n:Nat):(a.add m).add n=a.add (m+n):=by
 unfold Addr.add;split<;>split<;>simp_all<;>omega
theorem bg {b:Bool} {p:Prop} (h:ob b p):b=true/\ p:=by cases b<;>first|exact h.elim|exact ⟨rfl,h⟩
theorem gJ (ρ:Env): ∀(cs:List Cell) (ns:List Int),jg cs=some ns->cs=ns.map fun n=>Cell.raw (.int .i64 n)
 | [],ns,h=>by simp only [jg,Option.some.injEq] at h;subst h;rfl
 |c::r,ns,h=>by
  unfold jg at h
  split at h
  ·simp_all
  ·rename_i n r' heq
   cases heq
   split at h
   ·rename_i l hl;cases h;rw [gJ ρ r l hl];rfl
   ·cases h
  ·cases h
theorem vW: ∀(m off:Nat) (ns:List Int),off+m<=ns.length->qg ns off m=((ns.map fun n=>Cell.raw (.int .i64 n)).drop off).take m
 |0,off,ns,_=>by simp [qg]
 |m+1,off,ns,h=>by
  rw [qg,vW m (off+1) ns (by omega),List.drop_eq_getElem_cons (i:=off) (by simp;omega),List.take_succ_cons,List.getElem_map,List.getD,List.getElem?_eq_getElem (by omega)]
  rfl
theorem Kc (off:Nat) (y:Int): ∀(ns:List Int) (q:Nat),q<=off->yo off y q ns=ns.set (off- q) y
 | [],q,_=>by simp [yo]
 |n::r,q,h=>by
  rw [yo]
  by_cases e:off=q
  ·subst e
   have: ∀(l:List Int) (p:Nat),off<p->yo off y p l=l:=by
    intro l
    induction l with
    |nil=>intro p _;rfl
    |cons a l ih=>
     intro p hp
     rw [yo,ih _ (by omega)]
     have:Nat.beq off p=false:=by
      cases hb:Nat.beq off p with
      |false=>rfl
      |true=>exact absurd (Nat.eq_of_beq_eq_true hb) (by omega)
     rw [this];rfl
   have hb:Nat.beq off off=true:=Nat.beq_refl off
   rw [this r (off+1) (by omega),hb];simp
  ·rw [Kc off y r (q+1) (by omega)]
   have hb:Nat.beq off q=false:=by
    cases hb:Nat.beq off q with
    |false=>rfl
    |true=>exact absurd (Nat.eq_of_beq_eq_true hb) e
   rw [hb,show off- q=(off- (q+1))+1 by omega];simp
theorem yn: ∀(ys ns:List Int) (off:Nat),sG off ys ns=setCells ns off ys
 | [],_,_=>rfl
 |y::r,ns,off=>by rw [sG,yn r,Kc off y ns 0 (Nat.zero_le _)];rfl
theorem dc (sub:Nat->Option Addr×Nat): ∀(cs:List cg) (q i:Nat),(aI sub q cs)[i]? =(cs[i]?).map (lJ (sub (q+i)))
 | [],q,i=>by simp [aI]
 |c::r,q,0=>by simp [aI]
 |c::r,q,i+1=>by
  simp only [aI,List.getElem?_cons_succ]
  rw [dc sub r,show q+1+i=q+(i+1) by omega]
theorem nu (t:Ty): ∀(l:List t.T) (j:Nat) (x:t.T) (q:Nat),l[j]? =some x->q<t.size->(az t l)[j*t.size+q]? =(t.aT x)[q]?
 | [],j,x,q,h,_=>by simp at h
 |y::r,0,x,q,h,hq=>by
  simp only [List.getElem?_cons_zero,Option.some.injEq] at h;subst h
  simp only [az,List.flatMap_cons,Nat.zero_mul,Nat.zero_add]
  rw [List.getElem?_append_left (by rw [aU];exact hq)]
 |y::r,j+1,x,q,h,hq=>by
  simp only [az,List.flatMap_cons]
  rw [List.getElem?_append_right (by rw [aU,Nat.add_mul];omega),aU,show (j+1)*t.size+q- t.size=j*t.size+q by rw [Nat.add_mul];omega]
  exact nu t r j x q (by simpa using h) hq
theorem Ry {t:Ty} {l:List t.T} {j:Nat} (h:j<l.length):l[j]? =some (gd t l j):=by
 simp [gd,List.getD,h]
theorem Re {u' u:Ty} {l:List u'.T} {l':List u.T} (h:ij u' u l=some l'):cg.sl u' l=cg.sl u l':=by
 unfold ij at h
 split at h
 ·rename_i e;subst e;cases h;rfl
 ·cases h
theorem nj: ∀(t:Ty) (cs:List cg) (x:t.T) (r:List cg),jn t cs=some (x,r)->cs=t.aT x++r
 | .int k,cs,x,r,h=>by
  simp only [jn] at h
  split at h
  ·split at h
   ·rename_i e;subst e;cases h;rfl
   ·cases h
  ·cases h
 | .bool,cs,x,r,h=>by
  simp only [jn] at h
  split at h
  ·cases h;rfl
  ·cases h
 | .str,cs,x,r,h=>by
  simp only [jn] at h
  split at h
  ·cases h;rfl
  ·cases h
 | .prod a b,cs,x,r,h=>by
  simp only [jn] at h
  split at h
  ·rename_i x1 r1 h1
   split at h
   ·rename_i y r2 h2
    cases h
    rw [nj a _ _ _ h1,nj b _ _ _ h2]
    simp [Ty.aT]
   ·cases h
  ·cases h
 | .sl u,cs,x,r,h=>by
  simp only [jn] at h
  split at h
  ·split at h
   ·rename_i l' hl
    cases h
    rw [Re hl];rfl
   ·cases h
  ·cases h
theorem aaq (Kn:Nat->Prop) (nm:Nat) (o:aG) (os:List aG) (v v':AV) (ws ws':List (Nat×aG)) (tc yL:List Nat):
  mG (Ii Kn nm) (nm+1) {val:=v,fresh:=os,writes:=ws,aH:=tc} =mG Kn nm {val:=v',fresh:=o::os,writes:=ws',aH:=yL} :=by
 funext m;simp only [mG,Ii,List.length_cons];apply propext
 constructor
 ·rintro ((h|h)|h)
  ·exact .inl h
  ·exact .inr (by omega)
  ·exact .inr (by omega)
 ·rintro (h|h)
  ·exact .inl (.inl h)
  ·by_cases e:m=nm
   ·exact .inl (.inr e)
   ·exact .inr (by omega)
theorem Vu (Γ:HP) (nm:Nat) (o:aG) (os:List aG) (v v':AV) (tc yL:List Nat) (ho:live (some o)=some o):
  bO {val:=v,fresh:=os,aH:=tc} (nm+1) (eZ Γ nm o)=bO {val:=v',fresh:=o::os,aH:=yL} nm Γ:=by
 funext m
 simp only [bO,bV,List.length_cons,eZ]
 by_cases h:m=nm
 ·subst h
  have h1: ¬(m+1<=m/\ m<m+1+os.length):=by omega
  have h2:m<=m/\ m<m+(os.length+1):=by omega
  rw [if_neg h1,if_pos rfl,if_pos h2];simp [ho]
 ·by_cases h2:nm+1≤m∧m<nm+1+os.length
  ·have h3:nm≤m∧m<nm+(os.length+1):=by omega
   rw [if_pos h2,if_pos h3,show m- nm=(m- (nm+1))+1 by omega];simp
  ·have h3: ¬(nm≤m∧m<nm+(os.length+1)):=by omega
   rw [if_neg h2,if_neg h,if_neg h3]
theorem aar (Kn:Nat->Prop) (nm:Nat) (v:AV) (tc:List Nat):mG Kn nm {val:=v,fresh:= [],aH:=tc} =Kn:=fb Kn nm v [] tc
theorem St.views {au:eW} {W w:World} {sub:Nat->Option Addr×Nat} {okf:Nat->Prop} (v:AV) (tc:List Nat): ∀(cs:List cg) (q nm:Nat) (ρ:Env) (Kn:Nat->Prop) (Γ:HP),St au W ρ Kn Γ w->(∀i,i<(fB nm cs).2.length-> ¬Kn (nm+i))->
  (∀b,okf b->dA ρ Γ w b)->(∀i u l,cs[i]? =some (.sl u l)->eX w okf (sub (q+i)) u l)->
  ∃ρ',(∀m,Kn m->ρ' m=ρ m)/\ (fB nm cs).1.map (Cell.ae ρ')=aI sub q cs/\ (∀c∈(fB nm cs).1,c.ok (mG Kn nm {val:=v,fresh:=(fB nm cs).2,aH:=tc}))/\
   St au W ρ' (mG Kn nm {val:=v,fresh:=(fB nm cs).2,aH:=tc}) (bO {val:=v,fresh:=(fB nm cs).2,aH:=tc} nm Γ) w
 | [],q,nm,ρ,Kn,Γ,h,_,_,_=>⟨ρ,fun _ _=>rfl,rfl,fun c hc=>absurd hc (by simp [fB]),by simp only [fB];rw [aar,n6];exact h⟩
 | .flat v0::r,q,nm,ρ,Kn,Γ,h,hf,hok,hn=>by
  obtain ⟨ρ',h1,h2,h3,h4⟩:=St.views v tc r (q+1) nm ρ Kn Γ h hf hok fun i u l hi=>by
   have:=hn (i+1) u l (by simpa using hi)
   rwa [show q+(i+1)=q+1+i by omega] at this
  refine ⟨ρ',h1,?_,?_,h4⟩
  ·simp only [fB,List.map_cons,h2,aI];rfl
  ·intro c hc
   simp only [fB,List.mem_cons] at hc
   rcases hc with rfl|hc
   ·trivial
   ·exact h3 c hc
 | .sl u l::r,q,nm,ρ,Kn,Γ,h,hf,hok,hn=>by
  have hnm: ¬Kn nm:=by simpa using hf 0 (by simp [fB])
  have h0:eX w okf (sub q) u l:=by simpa using hn 0 u l rfl
  let x:Loc:= {blk:=none,base:=(sub q).1,len:=l.length,cap:=(sub q).2,es:=u.size}
  have hfz: ∀b,dA ρ Γ w b->dA (bu ρ nm x) (eZ Γ nm (.row u l 0)) w b:=fun b hb=>⟨hb.1,by
   rintro (⟨m,h1,h2⟩|⟨m,S,h1,h2⟩)
   ·unfold bu at h2
    unfold eZ at h1
    split at h2
    ·exact absurd (iZ.1 h2) (fun h=>by cases h)
    ·rename_i e;rw [if_neg e] at h1;exact hb.2 (.inl ⟨m,h1,h2⟩)
   ·unfold eZ at h1
    split at h1
    ·cases h1
    ·exact hb.2 (.inr ⟨m,S,h1,h2⟩)⟩
  have h1:St au W (bu ρ nm x) (Ii Kn nm) (eZ Γ nm (.row u l 0)) w:=by
   refine h.swap (G:= []) (o:= .row u l 0) (x:=x) hnm h.fr (fun _ _ _=>rfl) (fun b hb=>by cases hb) (fun m p hp=> ?_) trivial (fun _ h=>by cases h) fun _ _=> ?_
   ·unfold eZ at hp
    split at hp
    ·rename_i e1;cases hp;exact .inl ⟨e1,rfl⟩
    ·rename_i e1;exact .inr ⟨e1,by simp,hp⟩
   ·have e:bu ρ nm x nm=x:=by simp [bu]
    rw [bn,e]
    refine ⟨rfl,rfl,h0.2.1,fun _=>(none,0),?_⟩
    have hfl: ∀(l:List u.T) (c:cg),c∈az u l-> ∃v,c= .flat v:=fun l c hc=>by
     obtain ⟨y,_,hy⟩:=List.mem_flatMap.1 hc
     exact fP u h0.1 y c hy
    have hv: ∀(cs:List cg),(∀c∈cs,∃v,c= .flat v)-> ∀q,aI (fun _=>(none,0)) q cs=cs.map bF:=by
     intro cs
     induction cs with
     |nil=>intro _ q;rfl
     |cons c r ih=>
      intro hc q
      obtain ⟨v,rfl⟩:=hc c (by simp)
      simp only [aI,List.map_cons]
      rw [ih (fun c hm=>hc c (by simp [hm]))];rfl
    refine ⟨fun i v Wr=> ?_,fun i u' l' hi=> ?_,fun _=>rfl,fun h=>absurd rfl h⟩
    ·rw [hv _ (hfl l)] at Wr
     obtain ⟨a,e1,e2,e3⟩:=h0.2.2 i v Wr
     exact ⟨a,e1,e2,fun _=>hfz _ (hok _ e3)⟩
    ·obtain ⟨v,Wr⟩:=hfl l _ (List.mem_of_getElem? hi)
     cases Wr
  obtain ⟨ρ',e1,e2,e3,e4⟩:=St.views v tc r (q+1) (nm+1) _ _ _ h1 (fun i hi=>by
   have:=hf (i+1) (by simpa [fB] using hi)
   rintro (h2|h2)
   ·exact this (by rwa [show nm+(i+1)=nm+1+i by omega])
   ·omega) (fun b hb=>hfz b (hok b hb)) fun i u l hi=>by
   have:=hn (i+1) u l (by simpa using hi)
   rwa [show q+(i+1)=q+1+i by omega] at this
  have ex:ρ' nm=x:=by rw [e1 nm (.inr rfl)];simp [bu]
  rw [aaq (o:= .row u l 0) (v':=v) (ws':= []) (yL:=tc)] at e3 e4
  rw [Vu (o:= .row u l 0) (v':=v) (yL:=tc) (ho:=rfl)] at e4
  refine ⟨ρ',fun m hm=>by rw [e1 m (.inl hm)];exact iM hnm m hm,?_,?_,e4⟩
  ·simp only [fB,List.map_cons,e2,aI,Cell.ae,ex];rfl
  ·intro c hc
   simp only [fB,List.mem_cons] at hc
   rcases hc with rfl|hc
   ·exact .inr ⟨Nat.le_refl _,by simp [fB]⟩
   ·exact e3 c hc
where
 fP: ∀(t:Ty),t.flat=true-> ∀(x:t.T) (c:cg),c∈t.aT x-> ∃v,c= .flat v
  | .int _,_,x,c,hc=>by simp [Ty.aT] at hc;exact ⟨_,hc⟩
  | .bool,_,x,c,hc=>by simp [Ty.aT] at hc;exact ⟨_,hc⟩
  | .str,_,x,c,hc=>by simp [Ty.aT] at hc;exact ⟨_,hc⟩
  | .prod a b,h,x,c,hc=>by
   simp only [Ty.flat,Bool.and_eq_true] at h
   simp only [Ty.aT,List.mem_append] at hc
   rcases hc with hc|hc
   ·exact fP a h.1 _ c hc
   ·exact fP b h.2 _ c hc
  | .sl _,h,_,_,_=>by cases h
theorem Zp {t:Ty} {l:List t.T} {j q:Nat} {c:cg} (h:j<l.length) (hq:(t.aT (gd t l j))[q]? =some c):(az t l)[j*t.size+q]? =some c:=by
 rw [nu t l j _ q (Ry h) (by have:=(List.getElem?_eq_some_iff.1 hq).1;rwa [aU] at this)];exact hq
theorem lP: ∀(cs:List cg) (ns:List Int),qW cs=some ns->cs=ns.map fun m=> .flat (.int .i64 m)
 | [],ns,h=>by simp only [qW,Option.some.injEq] at h;subst h;rfl
 |c::r,ns,h=>by
  unfold qW at h
  split at h
  ·simp_all
  ·rename_i n r' heq
   cases heq
   split at h
   ·rename_i l hl;cases h
    rw [lP r l hl];rfl
   ·cases h
  ·cases h
theorem HU (nm:Nat): ∀(ns:List Int),fB nm (ns.map fun m=> .flat (.int .i64 m))=(ns.map fun m=> .raw (.int .i64 m),[])
 | []=>rfl
 |n::r=>by simp only [List.map_cons,fB,HU nm r]
theorem HS (nm:Nat): ∀(cs:List cg),(∀c∈cs,∃v,c= .flat v)->fB nm cs=(cs.map fun c=>Cell.raw (bF c),[])
 | [],_=>rfl
 |c::r,h=>by
  obtain ⟨v,rfl⟩:=h c (by simp)
  simp only [fB,HS nm r fun c hc=>h c (by simp [hc]),List.map_cons];rfl
theorem JT (hT:cP P ctx.tt) {t:TypeId} {i:TI} (ht:aJ ctx.tt t=some i) {n j q:Nat} (h:pT i (.v (.one (.cK n j q))) hp nm k):
  ∃r,aL P ctx.X hp nm (fun Kn=>(AV.v (.one (.cK n j q))).ok Kn) (fun ρ=>Instr.loadAt t ((AV.v (.one (.cK n j q))).ae ρ)) (fun ρ=>r.val.ae ρ) r/\ k r:=by
 unfold pT at h
 dsimp only at h
 split at h
 ·rename_i u l rk he
  split at h
  ·rename_i hsz
   obtain ⟨hj,h⟩:=bg h
   simp only [decide_eq_true_eq] at hj
   generalize hvw:fB nm (cx u l j q i.size)=z at h
   obtain ⟨cs,os⟩:=z
   dsimp only at h
   split at h
   ·rename_i v hv
    refine ⟨_,⟨fun p hp=>absurd hp (by simp),?_⟩,h⟩
    intro au W ρ Kn Γ w _ _ ja hfr hst
    have bL:Γ n=some (.row u l rk):=by rw [ja n (by simp),he]
    obtain ⟨o1,o2,o3,sub,m1,m2,m3,m4⟩:=hst.at_ n _ bL
    have Ot:(cx u l j q i.size).length=i.size:=by simp [cx,aU];omega
    have hcg: ∀m c,(cx u l j q i.size)[m]? =some c->(az u l)[j*u.size+q+m]? =some c:=fun m c hm=>by
     unfold cx at hm
     rw [List.getElem?_take] at hm
     split at hm
     ·rw [List.getElem?_drop] at hm
      rw [show j*u.size+q+m=j*u.size+(q+m) by omega]
      exact Zp hj hm
     ·cases hm
    have hos:(fB nm (cx u l j q i.size)).2=os:=by rw [hvw]
    have hcs:(fB nm (cx u l j q i.size)).1=cs:=by rw [hvw]
    obtain ⟨ρ',e1,e2,e3,e4⟩:=St.views v [n] (cx u l j q i.size) (j*u.size+q) nm ρ Kn Γ hst (by rw [hos];exact hfr) (okf:=fun b=>dA ρ Γ w b) (fun _ h=>h) fun m u' l' hm=>(m2 _ u' l' (hcg m _ hm)).mono fun b hb=>⟨hb.1,rfl⟩
    rw [hos] at e3 e4
    rw [hcs] at e2 e3
    have Jy: ∀m v,(aI sub (j*u.size+q) (cx u l j q i.size))[m]? =some v-> ∃a,(ρ n).base=some a/\ w.cell? (a.add (j*u.size+q+m))=some v:=fun m v hm=>by
     rw [dc] at hm
     obtain ⟨c,hc,rfl⟩:=Option.map_eq_some_iff.1 hm
     have:=m1 (j*u.size+q+m) (lJ (sub (j*u.size+q+m)) c) (by rw [dc,hcg m c hc];simp)
     obtain ⟨a,a1,a2,_⟩:=this
     exact ⟨a,a1,a2⟩
    have hpos:=(hT t i ht).2.1
    obtain ⟨a,ha,_⟩: ∃a,(ρ n).base=some a/\ True:=by
     have: ∃v,(aI sub (j*u.size+q) (cx u l j q i.size))[0]? =some v:=⟨_,List.getElem?_eq_getElem (by rw [bI,Ot];exact hpos)⟩
     obtain ⟨v,hv⟩:=this
     obtain ⟨a,h1,_⟩:=Jy 0 v hv
     exact ⟨a,h1,trivial⟩
    have hcell: ∀m v,(aI sub (j*u.size+q) (cx u l j q i.size))[m]? =some v->w.cell? ((a.add (j*u.size+q)).add m)=some v:=fun m v hm=>by
     obtain ⟨a',h1,h2⟩:=Jy m v hm
     rw [ha] at h1;cases h1
     rw [dM];exact h2
    have hlen:(aI sub (j*u.size+q) (cx u l j q i.size)).length=i.size:=by rw [bI,Ot]
    have afS:(loadVar t (a.add (j*u.size+q))).run P w= .ok (v.ae ρ') w/\ v.ok (mG Kn nm {val:=v,fresh:=os,aH:= [n]}):=by
     unfold uY at hv
     split at hv
     ·rename_i ql
      cases hv
      have Nd:=run_loadCells_list (P:=P) w (a.add (j*u.size+q)) _ hcell
      rw [hlen] at Nd
      exact ⟨by simp [loadVar,hT.ag ht,ql,hT.sz ht,Nd,AV.ae,A0.ae,e2],e3⟩
     ·rename_i ql
      split at hv
      ·rename_i c
       cases hv
       simp only [List.map_cons,List.map_nil] at e2
       have:=hcell 0 (c.ae ρ') (by rw [<- e2];rfl)
       rw [dM,Nat.add_zero] at this
       exact ⟨by simp [loadVar,hT.ag ht,ql,this,AV.ae,A0.ae],e3 c (by simp)⟩
      ·cases hv
    refine ⟨ρ',w,Eq.trans ?_ afS.1,e1,afS.2,e4⟩
    have ex:(AV.v (.one (.cK n j q))).ae ρ= .pointer (some (a.add (j*u.size+q))):=by simp [AV.ae,A0.ae,Cell.ae,ha,o2]
    show (Instr.loadAt t ((AV.v (.one (.cK n j q))).ae ρ)).run P w=_
    rw [ex]
    simp only [Instr.loadAt,Instr.sureAddr,Sem.run_bind,Sem.run_pure,Result.andThen_ok]
   ·exact h.elim
  ·exact h.elim
 ·rename_i gn c kk u gx l he
  split at h<;>try (exact h.elim)
  rename_i gm hc
  split at h<;>try (exact h.elim)
  rename_i hsz
  obtain ⟨hj,h⟩:=bg h
  simp only [decide_eq_true_eq] at hj
  split at h<;>try (exact h.elim)
  rename_i v hv
  refine ⟨_,aL.pure fun au W ρ Kn Γ w _ _ ja hst=> ?_,h⟩
  have bL:Γ n=some (.gv gn c kk u gx l):=by rw [ja n (by simp),he]
  obtain ⟨_,o1,o2,_,huf,o4⟩:=hst.at_ n _ bL
  have hfl: ∀x∈cx u l j q i.size,∃v,x= .flat v:=fun x hx=>St.views.fP u huf _ x (List.mem_of_mem_drop (List.mem_of_mem_take hx))
  rw [HS _ _ hfl] at hv
  rcases o4 with ⟨e0,_⟩|⟨e,b,h1,h2,_,h4,h5,_,_,h8,_⟩
  ·rw [e0] at hj;exact absurd hj (Nat.not_lt_zero _)
  have Z2:=hst.at_ c _ (by rw [ja c (by simp),hc])
  rcases Z2.2.1 e h1 with ⟨h9,_⟩|⟨b',rest,tt',h9,_,h11,_⟩
  ·rw [h9] at h2;cases h2
  rw [h2] at h9;cases h9
  rw [h8] at h11
  have ha:(ρ n).base=some ⟨b,0,none⟩:=by rw [<- h4,h5]
  have hcell: ∀m v,((cx u l j q i.size).map bF)[m]? =some v->w.cell? ((⟨b,0,none⟩:Addr).add (j*u.size+q)|>.add m)=some v:=fun m v hm=>by
   rw [dM]
   have e1:(⟨b,0,none⟩:Addr).add (j*u.size+q+m)=⟨b,j*u.size+q+m,none⟩:=by unfold Addr.add;split<;>simp_all
   rw [e1,bH h11]
   rw [List.getElem?_map] at hm
   obtain ⟨x,hx,rfl⟩:=Option.map_eq_some_iff.1 hm
   unfold cx at hx
   rw [List.getElem?_take] at hx
   split at hx
   ·rw [List.getElem?_drop] at hx
    have:=Zp hj hx
    have h12:(aY u l)[j*u.size+q+m]? =some (bF x):=by
     unfold aY
     rw [List.getElem?_map,show j*u.size+q+m=j*u.size+(q+m) by omega,this];rfl
    rw [List.getElem?_append_left (List.getElem?_eq_some_iff.1 h12).1];exact h12
   ·cases hx
  have hlen:((cx u l j q i.size).map bF).length=i.size:=by simp [cx,aU];omega
  have ex:(AV.v (.one (.cK n j q))).ae ρ= .pointer (some ((⟨b,0,none⟩:Addr).add (j*u.size+q))):=by simp [AV.ae,A0.ae,Cell.ae,ha,o2]
  have hcc:((cx u l j q i.size).map fun c=>Cell.raw (bF c)).map (Cell.ae ρ)=(cx u l j q i.size).map bF:=by
   rw [List.map_map];rfl
  refine ⟨?_,?_⟩
  ·show (Instr.loadAt t ((AV.v (.one (.cK n j q))).ae ρ)).run P w=_
   rw [ex]
   simp only [Instr.loadAt,Instr.sureAddr,Sem.run_bind,Sem.run_pure,Result.andThen_ok]
   unfold uY at hv
   split at hv
   ·rename_i ql
    cases hv
    have Nd:=run_loadCells_list (P:=P) w ((⟨b,0,none⟩:Addr).add (j*u.size+q)) _ hcell
    rw [hlen] at Nd
    simp [loadVar,hT.ag ht,ql,hT.sz ht,Nd,AV.ae,A0.ae,hcc]
   ·rename_i ql
    split at hv
    ·rename_i c0 hc0
     cases hv
     have ag5:=hcc
     dsimp only at hc0
     rw [hc0] at ag5
     simp only [List.map_cons,List.map_nil] at ag5
     have:=hcell 0 (c0.ae ρ) (by rw [<- ag5];rfl)
     rw [dM,Nat.add_zero] at this
     simp [loadVar,hT.ag ht,ql,this,AV.ae,A0.ae]
    ·cases hv
  ·unfold uY at hv
   have hok: ∀c∈(cx u l j q i.size).map fun c=>Cell.raw (bF c),c.ok Kn:=fun c hc=>by
    obtain ⟨_,_,rfl⟩:=List.mem_map.1 hc;trivial
   split at hv
   ·cases hv;exact hok
   ·split at hv
    ·rename_i c0 hc0
     cases hv
     dsimp only at hc0
     exact hok c0 (by rw [hc0];simp)
    ·cases hv
 ·rename_i cs he
  split at h<;>try (exact h.elim)
  rename_i hj;subst hj
  have DA: ∀ {au:eW} {W:World} {ρ:Env} {Kn:Nat->Prop} {Γ:HP} {w:World},(∀m∈ [n],Γ m=hp m)->St au W ρ Kn Γ w-> ∀m c,cs[q+m]? =some c-> ∃a,(ρ n).base=some a/\ w.cell? ((a.add q).add m)=some (c.ae ρ):=fun ja hst m c hm=>by
   have g:=hst.at_ n (.rc cs) (by rw [ja n (by simp),he])
   obtain ⟨a,h1,h2,_⟩:=g.2 _ _ hm
   exact ⟨a,h1,by rw [dM];exact h2⟩
  have ex: ∀ {ρ:Env} {a:Addr},(ρ n).base=some a->(AV.v (.one (.cK n 0 q))).ae ρ= .pointer (some (a.add q)):=fun ha=>by simp [AV.ae,A0.ae,Cell.ae,ha]
  unfold zP at h
  split at h
  ·rename_i ql
   split at h
   ·rename_i hl
    refine ⟨_,aL.pure ?_,h⟩
    intro au W ρ Kn Γ w _ _ ja hst
    have bL:Γ n=some (.rc cs):=by rw [ja n (by simp),he]
    have hpos:=(hT t i ht).2.1
    obtain ⟨c0,hc0⟩: ∃c,cs[q+0]? =some c:=⟨_,List.getElem?_eq_getElem (by omega)⟩
    obtain ⟨a,ha,_⟩:=DA ja hst 0 c0 hc0
    have hcell: ∀m v,(((cs.drop q).take i.size).map (Cell.ae ρ))[m]? =some v->w.cell? ((a.add q).add m)=some v:=fun m v hm=>by
     rw [List.getElem?_map] at hm
     obtain ⟨c,hc,rfl⟩:=Option.map_eq_some_iff.1 hm
     rw [List.getElem?_take] at hc
     split at hc
     ·rw [List.getElem?_drop] at hc
      obtain ⟨a',h1,h2⟩:=DA ja hst m c hc
      rw [ha] at h1;cases h1;exact h2
     ·cases hc
    have Nd:=run_loadCells_list (P:=P) w (a.add q) _ hcell
    have hlen:(((cs.drop q).take i.size).map (Cell.ae ρ)).length=i.size:=by simp;omega
    rw [hlen] at Nd
    refine ⟨?_,fun c hc=>(hst.kn n _ bL).2 c (List.mem_of_mem_drop (List.mem_of_mem_take hc))⟩
    show (Instr.loadAt t ((AV.v (.one (.cK n 0 q))).ae ρ)).run P w=_
    rw [ex ha]
    simp only [Instr.loadAt,Instr.sureAddr,Sem.run_bind,Sem.run_pure,Result.andThen_ok]
    simp [loadVar,hT.ag ht,ql,hT.sz ht,Nd,AV.ae,A0.ae]
   ·exact h.elim
  ·rename_i ql
   split at h
   ·rename_i c hc
    refine ⟨_,aL.pure ?_,h⟩
    intro au W ρ Kn Γ w _ _ ja hst
    have bL:Γ n=some (.rc cs):=by rw [ja n (by simp),he]
    obtain ⟨a,ha,h2⟩:=DA ja hst 0 c hc
    rw [dM,Nat.add_zero] at h2
    refine ⟨?_,(hst.kn n _ bL).2 c (List.mem_of_getElem? hc)⟩
    show (Instr.loadAt t ((AV.v (.one (.cK n 0 q))).ae ρ)).run P w=_
    rw [ex ha]
    simp only [Instr.loadAt,Instr.sureAddr,Sem.run_bind,Sem.run_pure,Result.andThen_ok]
    simp [loadVar,hT.ag ht,ql,h2,AV.ae,A0.ae]
   ·exact h.elim
 ·exact h.elim
theorem aeG {i:TI} {n j q:Nat} (h:pT i (.v (.one (.fk n j q))) hp nm k):pT i (.v (.one (.cK n j q))) hp nm k:=by
 unfold pT at h ⊢
 dsimp only at h ⊢
 split at h
 ·rename_i u l rk he
  split at h
  ·rename_i ns Nf
   obtain ⟨h1,h⟩:=bg h
   obtain ⟨h2,h⟩:=bg h
   simp only [decide_eq_true_eq] at h1
   have hl:ns.length=u.size:=by
    have:=aU u (gd u l j)
    rw [lP _ _ Nf] at this
    simpa using this
   have e:fB nm (cx u l j q i.size)=(qg ns q i.size,[]):=by
    unfold cx
    rw [lP _ _ Nf,<- List.map_drop,<- List.map_take,HU,vW _ _ _ (by omega),<- List.map_drop,<- List.map_take]
   rw [he]
   dsimp only
   rw [if_pos h1,h2,e]
   exact h
  ·exact h.elim
 ·exact h.elim
theorem WL (hT:cP P ctx.tt) {t:TypeId} {i:TI} (ht:aJ ctx.tt t=some i) {x:AV} (h:pT i x hp nm k):
  ∃r,aL P ctx.X hp nm (fun Kn=>x.ok Kn) (fun ρ=>Instr.loadAt t (x.ae ρ)) (fun ρ=>r.val.ae ρ) r/\ k r:=by
 unfold pT at h
 split at h
 ·rename_i n off
  split at h
  ·rename_i cs e he
   obtain ⟨r,h1,h2⟩:=WK (nm:=nm) hT ht he h
   exact ⟨r,⟨h1.1,fun au W ρ Kn Γ w a _ c d e=>h1.2 au W ρ Kn Γ w a trivial c d e⟩,h2⟩
  ·exact h.elim
 ·rename_i n off
  split at h
  ·rename_i cs e he
   split at h
   ·rename_i ns Nf
    obtain ⟨hl,h⟩:=bg h
    simp only [decide_eq_true_eq] at hl
    split at h
    ·rename_i v hv
     refine ⟨_,aL.pure ?_,h⟩
     intro au W ρ Kn Γ w _ _ ja hst
     have bL:Γ n=some (.cells cs e):=by rw [ja n (by simp),he]
     obtain ⟨b,hb,hh⟩:=hst.at_ n _ bL
     have ecs:=gJ ρ cs ns Nf
     have hlen:cs.length=ns.length:=by rw [ecs];simp
     have aO:qg ns off i.size=(cs.drop off).take i.size:=by rw [vW _ _ _ (by omega),<- ecs]
     rw [aO] at hv
     have hrun:=kp hT ht (off:=off) (w:=w) (rest:= []) (cs:=cs.map (Cell.ae ρ)) (b:=b) (e:=e) (by simpa using hh)
     unfold uY at hv
     split at hv
     ·rename_i ha
      cases hv
      refine ⟨?_,fun c hc=>(hst.kn n _ bL).2 c (List.mem_of_mem_drop (List.mem_of_mem_take hc))⟩
      have:=hrun.1 ha (by simpa using hl)
      simp only [Instr.loadAt,Instr.sureAddr,AV.ae,A0.ae,Cell.ae,addrOf,hb,Option.map_some,Sem.run_bind,Sem.run_pure,Result.andThen_ok,this,gF]
     ·rename_i ha
      split at hv
      ·rename_i c hc
       cases hv
       have hcs:cs[off]? =some c:=by
        have h0:((cs.drop off).take i.size)[0]? =some c:=by rw [hc];rfl
        rw [List.getElem?_take] at h0
        split at h0
        ·rw [List.getElem?_drop] at h0;simpa using h0
        ·cases h0
       refine ⟨?_,(hst.kn n _ bL).2 c (List.mem_of_getElem? hcs)⟩
       have:=hrun.2 (by simpa using ha) (c.ae ρ) (by simp [hcs])
       simp only [Instr.loadAt,Instr.sureAddr,AV.ae,A0.ae,Cell.ae,addrOf,hb,Option.map_some,Sem.run_bind,Sem.run_pure,Result.andThen_ok,this]
      ·cases hv
    ·exact h.elim
   ·exact h.elim
  ·exact h.elim
 ·rename_i n j q
  exact JT hT ht (by unfold pT;exact h)
 ·rename_i n j q
  exact JT hT ht (aeG (by unfold pT;exact h))
 ·exact h.elim
theorem lS {α β:Type} (f:α->β): ∀(ys cs:List α) (off:Nat),(setCells cs off ys).map f=setCells (cs.map f) off (ys.map f)
 | [],_,_=>rfl
 |y::r,cs,off=>by simp only [setCells,List.map_cons];rw [lS f r];simp [List.map_set]
theorem mA {ρ:Env} {n b off:Nat} (hb:(ρ n).blk=some b):(AV.v (.one (.ptr n off))).ae ρ= .pointer (some ⟨b,off,none⟩):=by
 simp [AV.ae,A0.ae,Cell.ae,addrOf,hb]
theorem nK {ρ:Env} {n b off:Nat} (hb:(ρ n).blk=some b):(AV.v (.one (.lZ n off))).ae ρ= .pointer (some ⟨b,off,none⟩):=by
 simp [AV.ae,A0.ae,Cell.ae,addrOf,hb]
theorem vh (hT:cP P ctx.tt) {t:TypeId} {i:TI} (ht:aJ ctx.tt t=some i) {a:Addr} {v:Value} {vs:List Value} (hv:v.cells=vs.toArray) (hl:vs.length=i.size) (w:World):
  (Instr.storeAt t (.pointer (some a)) v).run P w=(storeCells a vs).run P w:=by
 simp [Instr.storeAt,Instr.sureAddr,storeVar,hT.sz ht,hv,hl]
theorem ur: ∀(ys:List Cell) (ps:List cg),fu ys=some ps->ps.length=ys.length/\ nZ ys=true/\ ∀(ρ:Env),ys.map (Cell.ae ρ)=ps.map bF/\ ∀c∈ps,∃v,c= .flat v
 | [],ps,h=>by simp only [fu,Option.some.injEq] at h;subst h;exact ⟨rfl,rfl,fun ρ=>⟨rfl,by simp⟩⟩
 |y::r,ps,h=>by
  unfold fu at h
  split at h
  ·simp_all
  ·rename_i v r' heq
   cases heq
   have main: ∀qs,fu r=some qs->u9 v=true->(cg.flat v::qs).length=(Cell.raw v::r).length/\ nZ (Cell.raw v::r)=true/\ ∀(ρ:Env),(Cell.raw v::r).map (Cell.ae ρ)=(cg.flat v::qs).map bF/\ ∀c∈(cg.flat v::qs),∃v,c= .flat v:=fun qs hq hv=>by
    obtain ⟨h1,h2,h3⟩:=ur r qs hq
    refine ⟨by simp [h1],by simp [nZ,Cell.one,hv,h2],fun ρ=>⟨by simp [(h3 ρ).1,Cell.ae,bF],fun c hc=> ?_⟩⟩
    rcases List.mem_cons.1 hc with rfl|hc
    ·exact ⟨v,rfl⟩
    ·exact (h3 ρ).2 c hc
   split at h<;>try (cases h;done)
   all_goals
    obtain ⟨qs,hq,rfl⟩:=Option.map_eq_some_iff.1 h
    exact main qs hq rfl
  ·cases h
theorem LJ {c:cg} (h: ∃v,c= .flat v) (s:Option Addr×Nat):lJ s c=bF c:=by obtain ⟨v,rfl⟩:=h;rfl
theorem eO {α:Type} : ∀(ys cs:List α) (off i:Nat),off+ys.length<=cs.length->(setCells cs off ys)[i]? =if off<=i/\ i<off+ys.length then ys[i- off]? else cs[i]? :=by
 intro ys cs off i h
 rw [iI ys cs off h]
 simp only [List.getElem?_append,List.length_append,List.length_take,List.getElem?_take,List.getElem?_drop]
 grind
theorem sL (t:Ty) (x':t.T): ∀(l:List t.T) (j:Nat),j<l.length->az t (l.set j x')=setCells (az t l) (j*t.size) (t.aT x')
 | [],j,h=>by simp at h
 |x::r,0,_=>by
  simp only [List.set_cons_zero,az,List.flatMap_cons,Nat.zero_mul]
  rw [iI _ _ _ (by simp [aU])]
  simp [aU]
 |x::r,j+1,h=>by
  simp only [List.length_cons] at h
  have hl:=bB t r
  have ih:=sL t x' r j (by omega)
  have hb:j*t.size+t.size<=r.length*t.size:=by rw [<- Nat.succ_mul];exact Nat.mul_le_mul_right _ (by omega)
  simp only [List.set_cons_succ,az,List.flatMap_cons] at ih hl ⊢
  rw [ih]
  apply List.ext_getElem?
  intro i
  have e:(j+1)*t.size=j*t.size+t.size:=Nat.succ_mul _ _
  rw [eO _ _ _ _ (by rw [List.length_append,aU,aU,hl,e];omega),List.getElem?_append,eO _ _ _ _ (by rw [aU,hl];omega),List.getElem?_append]
  simp only [aU,e]
  by_cases h1:i<t.size
  ·rw [if_pos h1,if_pos h1,if_neg (by omega)]
  ·rw [if_neg h1,if_neg h1]
   by_cases h2:j*t.size<=i- t.size/\ i- t.size<j*t.size+t.size
   ·rw [if_pos h2,if_pos (by omega),show i- (j*t.size+t.size)=i- t.size- j*t.size by omega]
   ·rw [if_neg h2,if_neg (by omega)]
theorem OF: ∀(ms:List Int),nZ (ms.map fun n=>Cell.raw (.int .i64 n))=true
 | []=>rfl
 |a::r=>by simp [nZ,Cell.one,u9,OF r]
theorem St.drop {au:eW} {W:World} {ρ:Env} {Kn:Nat->Prop} {Γ w9:HP} {w:World} (h:St au W ρ Kn Γ w) (hs: ∀x p,w9 x=some p->Γ x=some p):St au W ρ Kn w9 w:=by
 have hL: ∀b,LO ρ w9 b->LO ρ Γ b:=fun b hb=>by
  rcases hb with ⟨m,h1,h2⟩|⟨m,S,h1,h2⟩
  ·obtain ⟨o,ho⟩:=Option.isSome_iff_exists.1 h1
   exact .inl ⟨m,by rw [hs m o ho];rfl,h2⟩
  ·exact .inr ⟨m,S,hs m _ h1,h2⟩
 have hsm: ∀m,(w9 m).isSome=true->(Γ m).isSome=true:=fun m hm=>by
  obtain ⟨o,ho⟩:=Option.isSome_iff_exists.1 hm
  rw [hs m o ho];rfl
 exact ⟨h.fr,fun n o ho=>ck (Kn:=Kn) (h.at_ n o (hs n o ho)) (fun _ _=>rfl) (h.kn n o (hs n o ho)).1 (h.kn n o (hs n o ho)).2 (fun b hb=>⟨⟨hb.1,fun q=>hb.2 (hL b q)⟩,rfl⟩) (fun _ _ h=>h) fun _ _=>rfl,
  fun n o ho=>h.kn n o (hs n o ho),fun n m b hn hm=>h.dz n m b (hsm n hn) (hsm m hm),fun n b hn=>h.jP n b (hsm n hn),fun b ⟨m,S,h1,h2⟩=>⟨(h.oX b ⟨m,S,hs m _ h1,h2⟩).1,fun ⟨m',h3,h4⟩=>(h.oX b ⟨m,S,hs m _ h1,h2⟩).2 ⟨m',hsm m' h3,h4⟩⟩,fun n o ho=>h.tg n o (hs n o ho)⟩
theorem SX (hT:cP P ctx.tt) {t:TypeId} {i:TI} (ht:aJ ctx.tt t=some i) {n j q:Nat} {y:AV} {ys:List Cell} (hys:y.cells=some ys) (hsz:ys.length=i.size) {u:Ty} {l:List u.T} {rk:Nat} (he:hp n=some (.row u l rk)) (qm: ¬rk=0) (h:SW u l rk n j q ys hp k):
  ∃r,aL P ctx.X hp nm (fun Kn=>(AV.v (.one (.cK n j q))).ok Kn/\ y.ok Kn) (fun ρ=>Instr.storeAt t ((AV.v (.one (.cK n j q))).ae ρ) (y.ae ρ)) (fun _=>()) r/\ r.val=bU/\ k r:=by
 unfold SW at h
 split at h
 rotate_left
 ·exact h.elim
 rename_i m
 split at h
 rotate_left
 ·exact h.elim
 rename_i u' lm rm hm
 split at h
 ·exact h.elim
 rename_i hc
 simp only [not_or] at hc
 obtain ⟨hrm,Z1,hmn,huf,hq⟩:=hc
 have huf:u'.flat=true:=by simpa using huf
 split at h
 rotate_left
 ·exact h.elim
 rename_i x' hx'
 obtain ⟨hj,h⟩:=bg h
 have h:=h.2 _ rfl
 simp only [decide_eq_true_eq] at hj
 refine ⟨_,⟨fun p eL=> ?_,?_⟩,rfl,h⟩
 ·simp only [List.mem_cons,List.not_mem_nil,or_false] at eL
  rcases eL with rfl|rfl
  ·rw [he];simp
  ·rw [hm];simp
 intro au W ρ Kn Γ w _ hk ja _ hst
 have bL:Γ n=some (.row u l rk):=by rw [ja n (by simp),he]
 have aep:Γ m=some (.row u' lm rm):=by rw [ja m (by simp),hm]
 obtain ⟨o1,o2,o3,sub,m1,m2,m3,m4⟩:=hst.at_ n _ bL
 obtain ⟨p1,p2,p3,akz,q1,q2,q3,q4⟩:=hst.at_ m _ aep
 rcases (m4 qm).old Z1 with ⟨_,h0,_⟩|⟨b,rest,e,hb,hbase,hh,hcap⟩
 ·subst h0;simp at hj
 have BL:u.aT x'=setCells (u.aT (gd u l j)) q [.sl u' lm]:=by
  have:=nj u _ _ _ hx';rw [List.append_nil] at this;exact this.symm
 have hrl:=bB u l
 have hjl:j*u.size+u.size<=l.length*u.size:=by rw [<- Nat.succ_mul];exact Nat.mul_le_mul_right _ (by omega)
 have Iz: ∀x,(az u (l.set j x'))[x]? =if x=j*u.size+q then some (.sl u' lm) else (az u l)[x]? :=fun x=>by
  rw [sL u x' l j hj,eO _ _ _ _ (by rw [aU];omega),aU,BL]
  by_cases h1:j*u.size<=x/\ x<j*u.size+u.size
  ·rw [if_pos h1,eO _ _ _ _ (by rw [aU];simp;omega)]
   by_cases h2:x=j*u.size+q
   ·subst h2
    rw [if_pos rfl,if_pos (by constructor<;>simp<;>omega)]
    have:j*u.size+q- j*u.size- q=0:=by omega
    rw [this];rfl
   ·rw [if_neg (by simp;omega),if_neg h2]
    have:=nu u l j _ (x- j*u.size) (Ry hj) (by omega)
    rw [show j*u.size+(x- j*u.size)=x by omega] at this
    exact this.symm
  ·rw [if_neg h1,if_neg (by omega)]
 obtain ⟨sub',TX⟩: ∃sub':Nat->Option Addr×Nat,sub'=fun x=>if x=j*u.size+q then ((ρ m).base,(ρ m).cap) else sub x:=⟨_,rfl⟩
 have Jy:aI sub' 0 (az u (l.set j x'))=setCells (aI sub 0 (az u l)) (j*u.size+q) ([Cell.full m].map (Cell.ae ρ)):=by
  apply List.ext_getElem?
  intro x
  rw [dc,Iz,eO _ _ _ _ (by rw [bI];simp;omega),dc]
  by_cases h1:x=j*u.size+q
  ·subst h1
   rw [if_pos rfl,if_pos (by simp),Nat.sub_self,TX]
   simp [lJ,Cell.ae,p1]
  ·rw [if_neg h1,if_neg (by simp;omega),TX,Nat.zero_add]
   simp only [if_neg h1]
 have hlt:j*u.size+q+1<=(aI sub 0 (az u l)).length:=by rw [bI,hrl];omega
 have hrun:(Instr.storeAt t ((AV.v (.one (.cK n j q))).ae ρ) (y.ae ρ)).run P w= .ok () (w.setRow b (aI sub' 0 (az u (l.set j x'))++rest).toArray):=by
  have hst:=run_storeCells_at P b (j*u.size+q) e ([Cell.full m].map (Cell.ae ρ)) 0 _ w hh (by simp;omega) (o8 [Cell.full m] rfl ρ)
  have ex:(AV.v (.one (.cK n j q))).ae ρ= .pointer (some ⟨b,j*u.size+q,none⟩):=by
   simp only [AV.ae,A0.ae,Cell.ae,hbase,o2,Option.map_some]
   unfold Addr.add;split<;>simp_all
  rw [ex,vh hT ht (AV.ju hys ρ) (by simpa using hsz),hst,Jy]
  congr 2
  simp only [Nat.add_zero,List.length_map]
  rw [iI _ _ _ (by simpa using hlt)]
  rw [List.take_append_of_le_length (by omega),List.drop_append_of_le_length (by simp;omega)]
  simp
 refine ⟨ρ,_,hrun,fun _ _=>rfl,fun a ha=>absurd ha (by simp),?_⟩
 obtain ⟨Γ2,RN⟩: ∃Γ2:HP,Γ2=fun x=>if x=m then none else Γ x:=⟨_,rfl⟩
 have BO:St au W ρ Kn Γ2 w:=hst.drop fun x p eL=>by
  rw [RN] at eL
  dsimp only at eL
  split at eL
  ·cases eL
  ·exact eL
 have aj0:Γ2 n=some (.row u l rk):=by rw [RN];dsimp only;rw [if_neg (Ne.symm hmn)];exact bL
 have alR:bO {val:=bU,writes:= [(n,.row u (l.set j x') rk),(m,.gone)],aH:= [n,m]} nm Γ=eZ Γ2 n (.row u (l.set j x') rk):=by
  funext x
  simp only [bO,eZ,bV,List.length_nil,RN]
  rw [if_neg (by omega)]
  by_cases h1:m=x
  ·subst h1
   simp [live,hmn]
  ·by_cases h2:n=x
   ·subst h2;simp [h1,live]
   ·simp [h1,h2,Ne.symm h1,Ne.symm h2]
 rw [fb,alR]
 refine BO.write aj0 hb trivial (fun _ h=>by cases h) fun hfz=> ?_
 have RG: ∀b',dA ρ Γ w b'->dA ρ Γ2 w b':=fun b' hb'=>⟨hb'.1,by
  rintro (⟨x,h1,h2⟩|⟨x,S,h1,h2⟩)
  ·rw [RN] at h1
   dsimp only at h1
   split at h1
   ·cases h1
   ·exact hb'.2 (.inl ⟨x,h1,h2⟩)
  ·rw [RN] at h1
   dsimp only at h1
   split at h1
   ·cases h1
   ·exact hb'.2 (.inr ⟨x,S,h1,h2⟩)⟩
 have X3: ∀b',(ρ m).blk=some b'->bh w b'->dA ρ Γ2 w b':=fun b' hb' Iw=>⟨Iw,by
  rintro (⟨x,h1,h2⟩|⟨x,S,h1,h2⟩)
  ·rw [RN] at h1
   dsimp only at h1
   split at h1
   ·cases h1
   ·rename_i hx
    exact hx (hst.dz x m b' h1 (by rw [aep];rfl) h2 (.inl hb'))
  ·rw [RN] at h1
   dsimp only at h1
   split at h1
   ·cases h1
   ·exact (hst.oX b' ⟨x,S,h1,h2⟩).2 ⟨m,by rw [aep];rfl,.inl hb'⟩⟩
 have QZ:=setRow_heap w b _ (aI sub' 0 (az u (l.set j x'))++rest).toArray _ _ hh
 refine ⟨by simpa using o1,o2,by simpa using o3,sub',fun x v hx=> ?_,fun x u2 l2 hx=> ?_,m3,fun _=>ia.new (.inr ⟨b,rest,e,hb,hbase,QZ,?_⟩)⟩
 ·refine ⟨_,hbase,?_,fun e=>absurd e qm⟩
  have e1:(⟨b,0,none⟩:Addr).add x=⟨b,x,none⟩:=by unfold Addr.add;split<;>simp_all
  rw [e1,bH QZ,List.getElem?_append_left (List.getElem?_eq_some_iff.1 hx).1];exact hx
 ·rw [Iz] at hx
  split at hx
  ·rename_i hx0
   cases hx
   have es:sub' x=((ρ m).base,(ρ m).cap):=by rw [TX,hx0];simp
   rw [es]
   refine ⟨huf,p3,fun i v hv=> ?_⟩
   have hvs:aI akz 0 (az u' lm)=aY u' lm:=by
    unfold aY
    have: ∀(cs:List cg) (z:Nat),(∀c∈cs,∃v,c= .flat v)->aI akz z cs=cs.map bF:=by
     intro cs
     induction cs with
     |nil=>intro _ _;rfl
     |cons c r ih=>
      intro z hz
      obtain ⟨v,rfl⟩:=hz c (by simp)
      simp only [aI,List.map_cons,ih (z+1) fun c hc=>hz c (by simp [hc])]
      rfl
    exact this _ 0 fun c hc=>by
     obtain ⟨x2,_,h2⟩:=List.mem_flatMap.1 hc
     exact St.views.fP u' huf x2 c h2
   obtain ⟨a,k1,k2,_⟩:=q1 i v (by rw [hvs];exact hv)
   rcases q4 hrm with ⟨_,h0,_⟩|⟨bm,apI,an7,em,hbm,ZC,hhm,anr⟩
   ·rw [List.eq_nil_of_length_eq_zero h0] at hv;simp [aY,az] at hv
   ·rw [ZC] at k1
    cases k1
    have hcb:bh w bm:=⟨_,_,_,hhm⟩
    obtain ⟨f1,f2⟩:=hfz bm (X3 bm hbm hcb)
    refine ⟨_,ZC,?_,f1,fun _=>⟨(hst.own m bm (by rw [aep];rfl) hbm).imp_right .inl,(Q5.of hhm).same f2⟩⟩
    rw [<- k2]
    exact World.cell?_of_block (by rw [fe];exact f2)
  ·rename_i hx0
   have es:sub' x=sub x:=by rw [TX];exact if_neg hx0
   rw [es]
   exact (m2 x _ _ hx).mono fun b' hb'=>⟨⟨(hfz b' (RG b' hb'.1)).1,fun e=>⟨(hb'.2 e).1,(hb'.2 e).2.same (hfz b' (RG b' hb'.1)).2⟩⟩,(hfz b' (RG b' hb'.1)).2⟩
 ·exact ⟨by rw [hcap.1];simp [bI,bB],hcap.2⟩
theorem HD (hT:cP P ctx.tt) {t:TypeId} {i:TI} (ht:aJ ctx.tt t=some i) {n j q:Nat} {y:AV} (h:oP i (.v (.one (.cK n j q))) y hp k):
  ∃r,aL P ctx.X hp nm (fun Kn=>(AV.v (.one (.cK n j q))).ok Kn/\ y.ok Kn) (fun ρ=>Instr.storeAt t ((AV.v (.one (.cK n j q))).ae ρ) (y.ae ρ)) (fun _=>()) r/\ r.val=bU/\ k r:=by
 unfold oP at h
 cases hys:y.cells with
 |none=>rw [hys] at h;exact h.elim
 |some ys=>
 rw [hys] at h
 dsimp only at h
 split at h
 ·rename_i hsz
  split at h
  ·rename_i u l rk he
   split at h
   ·exact h.elim
   ·rename_i qm
    obtain ⟨qm,Z1⟩:=not_or.1 qm
    split at h
    ·rename_i ps hps
     split at h
     ·rename_i hq
      split at h
      ·rename_i x' hx'
       obtain ⟨hj,h⟩:=bg h
       have h:=h.2 _ rfl
       simp only [decide_eq_true_eq] at hj
       refine ⟨_,⟨fun p eL=>by simp at eL;subst eL;rw [he];simp,?_⟩,rfl,h⟩
       intro au W ρ Kn Γ w _ hk ja _ hst
       have bL:Γ n=some (.row u l rk):=by rw [ja n (by simp),he]
       obtain ⟨o1,o2,o3,sub,m1,m2,m3,m4⟩:=hst.at_ n _ bL
       rcases (m4 qm).old Z1 with ⟨_,h0,_⟩|⟨b,rest,e,hb,hbase,hh,hcap⟩
       ·subst h0;simp at hj
       obtain ⟨xq,hone,hpc⟩:=ur ys ps hps
       have BL:u.aT x'=setCells (u.aT (gd u l j)) q ps:=by
        have:=nj u _ _ _ hx';rw [List.append_nil] at this;exact this.symm
       have hrl:=bB u l
       have hjl:j*u.size+u.size<=l.length*u.size:=by rw [<- Nat.succ_mul];exact Nat.mul_le_mul_right _ (by omega)
       have Iz: ∀m,(az u (l.set j x'))[m]? =if j*u.size+q<=m/\ m<j*u.size+q+ps.length then ps[m- (j*u.size+q)]? else (az u l)[m]? :=fun m=>by
        rw [sL u x' l j hj,eO _ _ _ _ (by rw [aU];omega),aU,BL]
        by_cases h1:j*u.size<=m/\ m<j*u.size+u.size
        ·rw [if_pos h1,eO _ _ _ _ (by rw [aU];omega)]
         by_cases h2:q<=m- j*u.size/\ m- j*u.size<q+ps.length
         ·rw [if_pos h2,if_pos (by omega),show m- j*u.size- q=m- (j*u.size+q) by omega]
         ·rw [if_neg h2,if_neg (by omega)]
          have:=nu u l j _ (m- j*u.size) (Ry hj) (by omega)
          rw [show j*u.size+(m- j*u.size)=m by omega] at this
          exact this.symm
        ·rw [if_neg h1,if_neg (by omega)]
       have Jy:aI sub 0 (az u (l.set j x'))=setCells (aI sub 0 (az u l)) (j*u.size+q) (ys.map (Cell.ae ρ)):=by
        apply List.ext_getElem?
        intro m
        rw [dc,Iz,eO _ _ _ _ (by rw [bI];simp;omega),dc,(hpc ρ).1]
        simp only [List.length_map,List.getElem?_map]
        by_cases h1:j*u.size+q<=m/\ m<j*u.size+q+ps.length
        ·rw [if_pos h1,if_pos h1]
         cases hm:ps[m- (j*u.size+q)]? with
         |none=>rfl
         |some c=>exact congrArg some (LJ ((hpc ρ).2 c (List.mem_of_getElem? hm)) _)
        ·rw [if_neg h1,if_neg h1]
       have hlt:j*u.size+q+ys.length<=(aI sub 0 (az u l)).length:=by rw [bI,hrl];omega
       have hrun:(Instr.storeAt t ((AV.v (.one (.cK n j q))).ae ρ) (y.ae ρ)).run P w= .ok () (w.setRow b (aI sub 0 (az u (l.set j x'))++rest).toArray):=by
        have hst:=run_storeCells_at P b (j*u.size+q) e (ys.map (Cell.ae ρ)) 0 _ w hh (by simp;omega) (o8 ys hone ρ)
        have ex:(AV.v (.one (.cK n j q))).ae ρ= .pointer (some ⟨b,j*u.size+q,none⟩):=by
         simp only [AV.ae,A0.ae,Cell.ae,hbase,o2,Option.map_some]
         unfold Addr.add;split<;>simp_all
        rw [ex,vh hT ht (AV.ju hys ρ) (by simpa using hsz),hst,Jy]
        congr 2
        simp only [Nat.add_zero,List.length_map]
        rw [iI _ _ _ (by simpa using hlt)]
        rw [List.take_append_of_le_length (by omega),List.drop_append_of_le_length (by omega)]
        simp
       refine ⟨ρ,_,hrun,fun _ _=>rfl,fun a ha=>absurd ha (by simp),?_⟩
       rw [fb,kR _ _ _ _ _ _ rfl]
       refine hst.write bL hb trivial (fun _ h=>by cases h) fun hfz=> ?_
       have QZ:=setRow_heap w b _ (aI sub 0 (az u (l.set j x'))++rest).toArray _ _ hh
       refine ⟨by simpa using o1,o2,by simpa using o3,sub,fun m v hm=> ?_,fun m u' l' hm=> ?_,m3,fun _=>ia.new (.inr ⟨b,rest,e,hb,hbase,QZ,?_⟩)⟩
       ·refine ⟨_,hbase,?_,fun e=>absurd e qm⟩
        have e1:(⟨b,0,none⟩:Addr).add m=⟨b,m,none⟩:=by unfold Addr.add;split<;>simp_all
        rw [e1,bH QZ,List.getElem?_append_left (List.getElem?_eq_some_iff.1 hm).1];exact hm
       ·rw [Iz] at hm
        split at hm
        ·obtain ⟨v,hv⟩:=(hpc ρ).2 _ (List.mem_of_getElem? hm);cases hv
        ·exact (m2 m u' l' hm).mono fun b' hb'=>⟨⟨(hfz b' hb'.1).1,fun e=>⟨(hb'.2 e).1,(hb'.2 e).2.same (hfz b' hb'.1).2⟩⟩,(hfz b' hb'.1).2⟩
       ·exact ⟨by rw [hcap.1];simp [bI,bB],hcap.2⟩
      ·exact h.elim
     ·exact h.elim
    ·exact SX hT ht hys hsz he qm h
  ·exact h.elim
 ·exact h.elim
theorem uq: ∀(ms:List Int),fu (ms.map fun m=>Cell.raw (.int .i64 m))=some (ms.map fun m=> .flat (.int .i64 m))
 | []=>rfl
 |m::r=>by simp only [List.map_cons,fu,uq r,Option.map_some]
theorem abS {i:TI} {n j q:Nat} {y:AV} (h:oP i (.v (.one (.fk n j q))) y hp k):oP i (.v (.one (.cK n j q))) y hp k:=by
 unfold oP at h ⊢
 cases hys:y.cells with
 |none=>rw [hys] at h;exact h.elim
 |some ys=>
 rw [hys] at h
 dsimp only at h ⊢
 split at h
 ·rename_i hsz
  rw [if_pos hsz]
  split at h
  ·rename_i u l rk he
   split at h
   ·exact h.elim
   ·rename_i qm
    rw [if_neg qm]
    split at h
    ·rename_i ms ns hms Nf
     have ey:=gJ (fun _=> {}) ys ms hms
     have hf:fu ys=some (ms.map fun m=> .flat (.int .i64 m)):=by rw [ey];exact uq ms
     rw [hf]
     dsimp only
     have e:setCells (u.aT (gd u l j)) q (ms.map fun m=>cg.flat (.int .i64 m))=(sG q ms ns).map fun m=> .flat (.int .i64 m):=by
      rw [lP _ _ Nf,yn,lS]
     split at h
     ·rename_i x' hx'
      obtain ⟨h1,h⟩:=bg h
      simp only [decide_eq_true_eq] at h1
      have hl:ys.length=ms.length:=by rw [ey];simp
      rw [if_pos (by simpa [<- hl] using h1),e,hx']
      exact h
     ·exact h.elim
    ·exact h.elim
  ·exact h.elim
 ·exact h.elim
theorem HC (hT:cP P ctx.tt) {t:TypeId} {i:TI} (ht:aJ ctx.tt t=some i) {x y:AV} (h:oP i x y hp k):
  ∃r,aL P ctx.X hp nm (fun Kn=>x.ok Kn/\ y.ok Kn) (fun ρ=>Instr.storeAt t (x.ae ρ) (y.ae ρ)) (fun _=>()) r/\ r.val=bU/\ k r:=by
 have core: ∀ {ρ:Env} {w:World} {n b off:Nat} {cs ys:List Cell} {e:TypeId} {v:Value},y.cells=some ys->ys.length=i.size->nZ ys=true->(ρ n).blk=some b->w.heap[b]? =some (.cells (cs.map (Cell.ae ρ)).toArray e (0,0))->off+ys.length<=cs.length->v= .pointer (some ⟨b,off,none⟩)->
   (Instr.storeAt t v (y.ae ρ)).run P w= .ok () (w.setRow b ((setCells cs off ys).map (Cell.ae ρ)).toArray):=by
  intro ρ w n b off cs ys e v hys hsz hone hb hh hl hv
  have hst:=run_storeCells_at P b off e (ys.map (Cell.ae ρ)) 0 _ w hh (by simp;omega) (o8 ys hone ρ)
  rw [hv,vh hT ht (AV.ju hys ρ) (by simpa using hsz),hst]
  congr 2
  simp only [Nat.add_zero,List.length_map,MM (Cell.ae ρ) ys cs off hl]
 unfold oP at h
 split at h
 ·rename_i n off ys hys
  split at h
  ·rename_i hsz
   split at h
   ·rename_i hone
    split at h
    ·rename_i cs e he
     split at h
     ·rename_i hl
      refine ⟨_,⟨fun p eL=>by simp at eL;subst eL;rw [he];simp,?_⟩,rfl,h⟩
      intro au W ρ Kn Γ w _ hk ja _ hst
      have bL:Γ n=some (.cells cs e):=by rw [ja n (by simp),he]
      obtain ⟨b,hb,hh⟩:=hst.at_ n _ bL
      have hrun:=core hys hsz hone hb hh hl (mA hb)
      refine ⟨ρ,_,hrun,fun _ _=>rfl,fun a ha=>absurd ha (by simp),?_⟩
      rw [fb,kR _ _ _ _ _ _ rfl]
      refine hst.write bL hb (fun c hc=> ?_) (fun _ h=>by cases h) fun _=>⟨b,hb,by rw [setRow_heap _ _ _ _ _ _ hh]⟩
      rcases sN hl hc with h1|h1
      ·exact (hst.kn n _ bL).2 c h1
      ·exact AV.za hys hk.2 c h1
     ·exact h.elim
    ·exact h.elim
   ·exact h.elim
  ·exact h.elim
 ·rename_i n off ys hys
  split at h
  ·rename_i hsz
   split at h
   ·rename_i cs e he
    split at h
    ·rename_i ns ms Nf hms
     obtain ⟨hl,h⟩:=bg h
     simp only [decide_eq_true_eq] at hl
     have ec:=gJ (fun _=> {}) cs ns Nf
     have ey:=gJ (fun _=> {}) ys ms hms
     have Z2:(sG off ms ns).map (fun q=>Cell.raw (.int .i64 q))=setCells cs off ys:=by
      rw [yn,lS,<- ec,<- ey]
     rw [Z2] at h
     have hone:nZ ys=true:=by
      rw [ey];exact OF ms
     refine ⟨_,⟨fun p eL=>by simp at eL;subst eL;rw [he];simp,?_⟩,rfl,h⟩
     intro au W ρ Kn Γ w _ hk ja _ hst
     have bL:Γ n=some (.cells cs e):=by rw [ja n (by simp),he]
     obtain ⟨b,hb,hh⟩:=hst.at_ n _ bL
     have hrun:=core hys hsz hone hb hh hl (nK hb)
     refine ⟨ρ,_,hrun,fun _ _=>rfl,fun a ha=>absurd ha (by simp),?_⟩
     rw [fb,kR _ _ _ _ _ _ rfl]
     refine hst.write bL hb (fun c hc=> ?_) (fun _ h=>by cases h) fun _=>⟨b,hb,by rw [setRow_heap _ _ _ _ _ _ hh]⟩
     rcases sN hl hc with h1|h1
     ·exact (hst.kn n _ bL).2 c h1
     ·exact AV.za hys hk.2 c h1
    ·exact h.elim
   ·exact h.elim
  ·exact h.elim
 ·rename_i n j q ys hys
  exact HD hT ht (by unfold oP;rw [hys];exact h)
 ·rename_i n j q ys hys
  exact HD hT ht (abS (by unfold oP;rw [hys];exact h))
 ·exact h.elim
theorem s7 (Kn:Nat->Prop):bU.ok Kn:=fun a ha=>absurd ha (by simp)
theorem yg (cs:List Cell) (e:TypeId) (v:AV) (CT:(Nat->Prop)->Prop) (f:Env->Sem Value) (hok: ∀Kn,CT Kn-> ∀c∈cs,c.ok Kn)
  (hv: ∀Kn,v.ok (Ii Kn nm)) (hf: ∀(ρ:Env) (w:World),(f ρ).run P w= .ok (v.ae (bu ρ nm {blk:=some w.heap.size})) (w.alloc (.cells (cs.map (Cell.ae ρ)).toArray e (0,0)))):
  aL P ctx.X hp nm CT f (fun ρ=>v.ae ρ) {val:=v,fresh:= [.cells cs e]} :=by
 refine ⟨fun p hp=>absurd hp (by simp),?_⟩
 intro au W ρ Kn Γ w _ hk _ hfr hst
 have hn: ¬Kn nm:=by simpa using hfr 0 (by simp)
 refine ⟨bu ρ nm {blk:=some w.heap.size},_,hf ρ w,iM hn,?_,?_⟩
 ·rw [D7];exact hv Kn
 ·rw [D7,Yu];exact hst.alloc hn (hok Kn hk)
theorem z8 (ρ:Env) (w:World) (off:Nat):(AV.v (.one (.ptr nm off))).ae (bu ρ nm {blk:=some w.heap.size})= .pointer (some ⟨w.heap.size,off,none⟩):=by
 simp [AV.ae,A0.ae,Cell.ae,addrOf,bu]
theorem Vs (hT:cP P ctx.tt) {t:TypeId} {i:TI} (ht:aJ ctx.tt t=some i):
  aL P ctx.X hp nm (fun _=>True) (fun _=>Instr.alloc t true (.tuple #[])) (fun ρ=>(AV.v (.one (.ptr nm 0))).ae ρ) {val:= .v (.one (.ptr nm 0)),fresh:= [.cells (kE i.zero) t]} :=by
 refine yg _ _ _ _ _ (fun _ _=>MG _ _) (fun _=> .inr rfl) fun ρ w=> ?_
 rw [z8]
 simp [Instr.alloc,hT.z ht,newVar,newRow,kE,-List.map_map,Ea]
theorem ada {t:TypeId} {x:AV} {xs:List Cell} (hx:x.cells=some xs):
  aL P ctx.X hp nm (fun Kn=>x.ok Kn) (fun ρ=>Instr.box t (x.ae ρ)) (fun ρ=>(AV.v (.one (.ptr nm 0))).ae ρ) {val:= .v (.one (.ptr nm 0)),fresh:= [.cells xs t]} :=by
 refine yg _ _ _ _ _ (fun Kn hk=>AV.za hx hk) (fun _=> .inr rfl) fun ρ w=> ?_
 rw [z8]
 simp [Instr.box,newVar,newRow,AV.ju hx]
end
end Go.Ev
