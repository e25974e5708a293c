/- Each operation, but for calls, does what 'opE' says. -/
import Derived.Test.YtfgdjlhilladhaaGreatEvB
noncomputable section
set_option linter.unusedSectionVars false
set_option linter.unusedVariables false
set_option linter.unusedSimpArgs false
namespace Go.Ev
open Go.RowKit
def aW (P:Program) (tt:List (Nat×TI)):Prop:= ∀t i,aJ tt t=some i->P.underlying t=some i.desc/\
 0<i.size/\ ∃inf,P.info? t=some inf/\ inf.size=i.size/\ inf.bytes=i.bytes/\ inf.zero=some i.zero/\ (aR i.desc=true->P.stoodInHeld t=false/\ P.eqGuardType P.depth t=false)
section
variable {P:Program} {tt:List (Nat×TI)} {t:TypeId} {i:TI}
theorem aW.u (h:aW P tt) (ht:aJ tt t=some i) (w:World):(underlying t).run P w= .ok i.desc w:=run_underlying (h t i ht).1 w
theorem aW.ti (h:aW P tt) (ht:aJ tt t=some i) (w:World): ∃inf,(typeInfo t).run P w= .ok inf w/\ inf.size=i.size/\ inf.bytes=i.bytes/\ inf.zero=some i.zero:=by
 obtain ⟨_,_,inf,h1,h2,h3,h4,_⟩:=h t i ht
 exact ⟨inf,by simp [typeInfo,h1],h2,h3,h4⟩
theorem aW.sz (h:aW P tt) (ht:aJ tt t=some i) (w:World):(sizeOf t).run P w= .ok i.size w:=by
 obtain ⟨inf,h1,h2,_⟩:=h.ti ht w
 simp [sizeOf,h1,h2]
theorem aW.z (h:aW P tt) (ht:aJ tt t=some i) (w:World):(zeroValue t).run P w= .ok i.zero w:=by
 obtain ⟨inf,h1,_,_,h4⟩:=h.ti ht w
 simp [zeroValue,h1,h4]
theorem aW.ag (h:aW P tt) (ht:aJ tt t=some i) (w:World):(isAgg t).run P w= .ok (aR i.desc) w:=by
 simp only [isAgg,Sem.run_bind,h.u ht w,Result.andThen_ok,aR]
 cases i.desc<;>rfl
end
theorem eG (f:Cell->Value) (cs:List Cell) (off m:Nat):((cs.drop off).take m).map f=((cs.map f).drop off).take m:=by simp [List.map_drop,List.map_take]
section
variable {P:Program} {ctx:Ctx} {hp:HP} {nm:Nat} {k:Rec->Prop}
theorem cg {w:World} {b:Nat} {cs:List Value} {e:TypeId} (h:w.heap[b]? =some (.cells cs.toArray e (0,0))) (o:Nat):w.cell? ⟨b,o,none⟩=cs[o]? :=by
 simp [World.cell?,h]
theorem mI (hT:aW P ctx.tt) {t:TypeId} {i:TI} (ht:aJ ctx.tt t=some i) {w:World} {b off:Nat} {cs rest:List Value} {e:TypeId}
  (hh:w.heap[b]? =some (.cells (cs++rest).toArray e (0,0))):
  (aR i.desc=true->off+i.size<=cs.length->(loadVar t ⟨b,off,none⟩).run P w= .ok (.agg ((cs.drop off).take i.size).toArray) w)/\
  (aR i.desc=false-> ∀v,cs[off]? =some v->(loadVar t ⟨b,off,none⟩).run P w= .ok v w):=by
 constructor
 ·intro ha hl
  have hlen:((cs.drop off).take i.size).length=i.size:=by simp;omega
  have hc: ∀j v,((cs.drop off).take i.size)[j]? =some v->w.cell? ((⟨b,off,none⟩:Addr).add j)=some v:=by
   intro j v hj
   have e1:(⟨b,off,none⟩:Addr).add j=⟨b,off+j,none⟩:=by unfold Addr.add;split<;>simp_all
   rw [e1,cg hh]
   rw [List.getElem?_take] at hj
   split at hj
   ·rename_i hj2
    rw [List.getElem?_drop] at hj
    rw [List.getElem?_append_left (by omega)];exact hj
   ·cases hj
  have hl:=run_loadCells_list (P:=P) w ⟨b,off,none⟩ _ hc
  rw [hlen] at hl
  simp [loadVar,hT.ag ht,ha,hT.sz ht,hl]
 ·intro ha v hv
  have hlt:off<cs.length:=by
   rcases Nat.lt_or_ge off cs.length with h|h
   ·exact h
   ·rw [List.getElem?_eq_none h] at hv;cases hv
  have hc:w.cell? ⟨b,off,none⟩=some v:=by rw [cg hh,List.getElem?_append_left hlt,hv]
  simp [loadVar,hT.ag ht,ha,hc]
theorem aaY (hT:aW P ctx.tt) {t:TypeId} {i:TI} (ht:aJ ctx.tt t=some i) {cs:List Cell} {n off:Nat} {e:TypeId} (he:hp n=some (.cells cs e)) (h:TL i cs n off k):
  ∃r,aS P ctx.X hp nm (fun _=>True) (fun ρ=>Instr.loadAt t (.pointer (addrOf ρ n off))) (fun ρ=>r.val.af ρ) r/\ k r:=by
 unfold TL at h
 split at h
 ·rename_i ha
  split at h
  ·rename_i hl
   refine ⟨_,aS.pure ?_,h⟩
   intro aC W ρ Kn Γ w _ _ kI hst
   have dw:Γ n=some (.cells cs e):=by rw [kI n (by simp),he]
   obtain ⟨b,hb,hh⟩:=hst.at_ n _ dw
   refine ⟨?_,?_⟩
   ·have:=(mI hT ht (off:=off) (rest:= []) (by simpa using hh)).1 ha (by simpa using hl)
    simp only [Instr.loadAt,Instr.sureAddr,addrOf,hb,Option.map_some,Sem.run_bind,Sem.run_pure,Result.andThen_ok,this,AV.af,A0.af,eG]
   ·intro c hc
    exact (hst.kn n _ dw).2 c (List.mem_of_mem_drop (List.mem_of_mem_take hc))
  ·exact h.elim
 ·rename_i ha
  split at h
  ·rename_i c hc
   refine ⟨_,aS.pure ?_,h⟩
   intro aC W ρ Kn Γ w _ _ kI hst
   have dw:Γ n=some (.cells cs e):=by rw [kI n (by simp),he]
   obtain ⟨b,hb,hh⟩:=hst.at_ n _ dw
   refine ⟨?_,?_⟩
   ·have:=(mI hT ht (off:=off) (rest:= []) (by simpa using hh)).2 (by simpa using ha) (c.af ρ) (by simp [hc])
    simp only [Instr.loadAt,Instr.sureAddr,addrOf,hb,Option.map_some,Sem.run_bind,Sem.run_pure,Result.andThen_ok,this,AV.af,A0.af]
   ·exact (hst.kn n _ dw).2 c (List.mem_of_getElem? hc)
  ·exact h.elim
theorem eY (a:Addr) (m n:Nat):(a.add m).add n=a.add (m+n):=by
 unfold Addr.add;split<;>split<;>simp_all<;>omega
theorem cl {b:Bool} {p:Prop} (h:ob b p):b=true/\ p:=by cases b<;>first|exact h.elim|exact ⟨rfl,h⟩
theorem iW (ρ:Env): ∀(cs:List Cell) (ns:List Int),kp cs=some ns->cs=ns.map fun n=>Cell.raw (.int .i64 n)
 | [],ns,h=>by simp only [kp,Option.some.injEq] at h;subst h;rfl
 |c::r,ns,h=>by
  unfold kp at h
  split at h
  ·simp_all
  ·rename_i n r' heq
   cases heq
   split at h
   ·rename_i l hl;cases h;rw [iW ρ r l hl];rfl
   ·cases h
  ·cases h
theorem zj: ∀(m off:Nat) (ns:List Int),off+m<=ns.length->sM ns off m=((ns.map fun n=>Cell.raw (.int .i64 n)).drop off).take m
 |0,off,ns,_=>by simp [sM]
 |m+1,off,ns,h=>by
  rw [sM,zj m (off+1) ns (by omega),List.drop_eq_getElem_cons (i:=off) (by simp;omega),List.take_succ_cons,List.getElem_map,List.getD,List.getElem?_eq_getElem (by omega)]
  rfl
theorem OZ (off:Nat) (y:Int): ∀(ns:List Int) (q:Nat),q<=off->B9 off y q ns=ns.set (off- q) y
 | [],q,_=>by simp [B9]
 |n::r,q,h=>by
  rw [B9]
  by_cases e:off=q
  ·subst e
   have: ∀(l:List Int) (p:Nat),off<p->B9 off y p l=l:=by
    intro l
    induction l with
    |nil=>intro p _;rfl
    |cons a l ih=>
     intro p hp
     rw [B9,ih _ (by omega)]
     have:Nat.beq off p=false:=by
      cases hb:Nat.beq off p with
      |false=>rfl
      |true=>exact absurd (Nat.eq_of_beq_eq_true hb) (by omega)
     rw [this];rfl
   have hb:Nat.beq off off=true:=Nat.beq_refl off
   rw [this r (off+1) (by omega),hb];simp
  ·rw [OZ off y r (q+1) (by omega)]
   have hb:Nat.beq off q=false:=by
    cases hb:Nat.beq off q with
    |false=>rfl
    |true=>exact absurd (Nat.eq_of_beq_eq_true hb) e
   rw [hb,show off- q=(off- (q+1))+1 by omega];simp
theorem B8: ∀(ys ns:List Int) (off:Nat),vp off ys ns=setCells ns off ys
 | [],_,_=>rfl
 |y::r,ns,off=>by rw [vp,B8 r,OZ off y ns 0 (Nat.zero_le _)];rfl
theorem dJ (sub:Nat->Option Addr×Nat): ∀(cs:List cD) (q i:Nat),(aL sub q cs)[i]? =(cs[i]?).map (nG (sub (q+i)))
 | [],q,i=>by simp [aL]
 |c::r,q,0=>by simp [aL]
 |c::r,q,i+1=>by
  simp only [aL,List.getElem?_cons_succ]
  rw [dJ sub r,show q+1+i=q+(i+1) by omega]
theorem qd (t:Ty): ∀(l:List t.T) (j:Nat) (x:t.T) (q:Nat),l[j]? =some x->q<t.size->(aD t l)[j*t.size+q]? =(t.aM x)[q]?
 | [],j,x,q,h,_=>by simp at h
 |y::r,0,x,q,h,hq=>by
  simp only [List.getElem?_cons_zero,Option.some.injEq] at h;subst h
  simp only [aD,List.flatMap_cons,Nat.zero_mul,Nat.zero_add]
  rw [List.getElem?_append_left (by rw [aV];exact hq)]
 |y::r,j+1,x,q,h,hq=>by
  simp only [aD,List.flatMap_cons]
  rw [List.getElem?_append_right (by rw [aV,Nat.add_mul];omega),aV,show (j+1)*t.size+q- t.size=j*t.size+q by rw [Nat.add_mul];omega]
  exact qd t r j x q (by simpa using h) hq
theorem Wl {t:Ty} {l:List t.T} {j:Nat} (h:j<l.length):l[j]? =some (gd t l j):=by
 simp [gd,List.getD,h]
theorem V0 {u' u:Ty} {l:List u'.T} {l':List u.T} (h:qw u' u l=some l'):cD.sl u' l=cD.sl u l':=by
 unfold qw at h
 split at h
 ·rename_i e;subst e;cases h;rfl
 ·cases h
theorem pU: ∀(t:Ty) (cs:List cD) (x:t.T) (r:List cD),kK t cs=some (x,r)->cs=t.aM x++r
 | .int k,cs,x,r,h=>by
  simp only [kK] at h
  split at h
  ·split at h
   ·rename_i e;subst e;cases h;rfl
   ·cases h
  ·cases h
 | .bool,cs,x,r,h=>by
  simp only [kK] at h
  split at h
  ·cases h;rfl
  ·cases h
 | .str,cs,x,r,h=>by
  simp only [kK] at h
  split at h
  ·cases h;rfl
  ·cases h
 | .prod a b,cs,x,r,h=>by
  simp only [kK] at h
  split at h
  ·rename_i x1 r1 h1
   split at h
   ·rename_i y r2 h2
    cases h
    rw [pU a _ _ _ h1,pU b _ _ _ h2]
    simp [Ty.aM]
   ·cases h
  ·cases h
 | .sl u,cs,x,r,h=>by
  simp only [kK] at h
  split at h
  ·split at h
   ·rename_i l' hl
    cases h
    rw [V0 hl];rfl
   ·cases h
  ·cases h
theorem aeg (Kn:Nat->Prop) (nm:Nat) (o:aX) (os:List aX) (v v':AV) (ws ws':List (Nat×aX)) (tc GM:List Nat):
  tP (YY Kn nm) (nm+1) {val:=v,fresh:=os,writes:=ws,aO:=tc} =tP Kn nm {val:=v',fresh:=o::os,writes:=ws',aO:=GM} :=by
 funext m;simp only [tP,YY,List.length_cons];apply propext
 constructor
 ·rintro ((h|h)|h)
  ·exact .inl h
  ·exact .inr (by omega)
  ·exact .inr (by omega)
 ·rintro (h|h)
  ·exact .inl (.inl h)
  ·by_cases e:m=nm
   ·exact .inl (.inr e)
   ·exact .inr (by omega)
theorem Z8 (Γ:HP) (nm:Nat) (o:aX) (os:List aX) (v v':AV) (tc GM:List Nat) (ho:live (some o)=some o):
  dO {val:=v,fresh:=os,aO:=tc} (nm+1) (eX Γ nm o)=dO {val:=v',fresh:=o::os,aO:=GM} nm Γ:=by
 funext m
 simp only [dO,dP,List.length_cons,eX]
 by_cases h:m=nm
 ·subst h
  have h1: ¬(m+1<=m/\ m<m+1+os.length):=by omega
  have h2:m<=m/\ m<m+(os.length+1):=by omega
  rw [if_neg h1,if_pos rfl,if_pos h2];simp [ho]
 ·by_cases h2:nm+1≤m∧m<nm+1+os.length
  ·have h3:nm≤m∧m<nm+(os.length+1):=by omega
   rw [if_pos h2,if_pos h3,show m- nm=(m- (nm+1))+1 by omega];simp
  ·have h3: ¬(nm≤m∧m<nm+(os.length+1)):=by omega
   rw [if_neg h2,if_neg h,if_neg h3]
theorem aeh (Kn:Nat->Prop) (nm:Nat) (v:AV) (tc:List Nat):tP Kn nm {val:=v,fresh:= [],aO:=tc} =Kn:=jN Kn nm v [] tc
theorem St.views {aC:mY} {W w:World} {sub:Nat->Option Addr×Nat} {okf:Nat->Prop} (v:AV) (tc:List Nat): ∀(cs:List cD) (q nm:Nat) (ρ:Env) (Kn:Nat->Prop) (Γ:HP),St aC W ρ Kn Γ w->(∀i,i<(ig nm cs).2.length-> ¬Kn (nm+i))->
  (∀b,okf b->lV ρ Γ w b)->(∀i u l,cs[i]? =some (.sl u l)->gF w okf (sub (q+i)) u l)->
  ∃ρ',(∀m,Kn m->ρ' m=ρ m)/\ (ig nm cs).1.map (Cell.af ρ')=aL sub q cs/\ (∀c∈(ig nm cs).1,c.ok (tP Kn nm {val:=v,fresh:=(ig nm cs).2,aO:=tc}))/\
   St aC W ρ' (tP Kn nm {val:=v,fresh:=(ig nm cs).2,aO:=tc}) (dO {val:=v,fresh:=(ig nm cs).2,aO:=tc} nm Γ) w
 | [],q,nm,ρ,Kn,Γ,h,_,_,_=>⟨ρ,fun _ _=>rfl,rfl,fun c hc=>absurd hc (by simp [ig]),by simp only [ig];rw [aeh,CD];exact h⟩
 | .flat v0::r,q,nm,ρ,Kn,Γ,h,hf,hok,hn=>by
  obtain ⟨ρ',h1,h2,h3,h4⟩:=St.views v tc r (q+1) nm ρ Kn Γ h hf hok fun i u l hi=>by
   have:=hn (i+1) u l (by simpa using hi)
   rwa [show q+(i+1)=q+1+i by omega] at this
  refine ⟨ρ',h1,?_,?_,h4⟩
  ·simp only [ig,List.map_cons,h2,aL];rfl
  ·intro c hc
   simp only [ig,List.mem_cons] at hc
   rcases hc with rfl|hc
   ·trivial
   ·exact h3 c hc
 | .sl u l::r,q,nm,ρ,Kn,Γ,h,hf,hok,hn=>by
  have hnm: ¬Kn nm:=by simpa using hf 0 (by simp [ig])
  have h0:gF w okf (sub q) u l:=by simpa using hn 0 u l rfl
  let x:Loc:= {bR:=none,base:=(sub q).1,len:=l.length,cap:=(sub q).2,es:=u.size}
  have hfz: ∀b,lV ρ Γ w b->lV (b9 ρ nm x) (eX Γ nm (.row u l 0)) w b:=fun b hb=>⟨hb.1,by
   rintro (⟨m,h1,h2⟩|⟨m,S,h1,h2⟩)
   ·unfold b9 at h2
    unfold eX at h1
    split at h2
    ·exact absurd (lW.1 h2) (fun h=>by cases h)
    ·rename_i e;rw [if_neg e] at h1;exact hb.2 (.inl ⟨m,h1,h2⟩)
   ·unfold eX at h1
    split at h1
    ·cases h1
    ·exact hb.2 (.inr ⟨m,S,h1,h2⟩)⟩
  have h1:St aC W (b9 ρ nm x) (YY Kn nm) (eX Γ nm (.row u l 0)) w:=by
   refine h.swap (G:= []) (o:= .row u l 0) (x:=x) hnm h.fr (fun _ _ _=>rfl) (fun b hb=>by cases hb) (fun m p hp=> ?_) trivial (fun _ h=>by cases h) fun _ _=> ?_
   ·unfold eX at hp
    split at hp
    ·rename_i e1;cases hp;exact .inl ⟨e1,rfl⟩
    ·rename_i e1;exact .inr ⟨e1,by simp,hp⟩
   ·have e:b9 ρ nm x nm=x:=by simp [b9]
    rw [dF,e]
    refine ⟨rfl,rfl,h0.2.1,fun _=>(none,0),?_⟩
    have hfl: ∀(l:List u.T) (c:cD),c∈aD u l-> ∃v,c= .flat v:=fun l c hc=>by
     obtain ⟨y,_,hy⟩:=List.mem_flatMap.1 hc
     exact fW u h0.1 y c hy
    have hv: ∀(cs:List cD),(∀c∈cs,∃v,c= .flat v)-> ∀q,aL (fun _=>(none,0)) q cs=cs.map aT:=by
     intro cs
     induction cs with
     |nil=>intro _ q;rfl
     |cons c r ih=>
      intro hc q
      obtain ⟨v,rfl⟩:=hc c (by simp)
      simp only [aL,List.map_cons]
      rw [ih (fun c hm=>hc c (by simp [hm]))];rfl
    refine ⟨fun i v hv'=> ?_,fun i u' l' hi=> ?_,fun _=>rfl,fun h=>absurd rfl h⟩
    ·rw [hv _ (hfl l)] at hv'
     obtain ⟨a,e1,e2,e3⟩:=h0.2.2 i v hv'
     exact ⟨a,e1,e2,fun _=>hfz _ (hok _ e3)⟩
    ·obtain ⟨v,hv'⟩:=hfl l _ (List.mem_of_getElem? hi)
     cases hv'
  obtain ⟨ρ',e1,e2,e3,e4⟩:=St.views v tc r (q+1) (nm+1) _ _ _ h1 (fun i hi=>by
   have:=hf (i+1) (by simpa [ig] using hi)
   rintro (h2|h2)
   ·exact this (by rwa [show nm+(i+1)=nm+1+i by omega])
   ·omega) (fun b hb=>hfz b (hok b hb)) fun i u l hi=>by
   have:=hn (i+1) u l (by simpa using hi)
   rwa [show q+(i+1)=q+1+i by omega] at this
  have ex:ρ' nm=x:=by rw [e1 nm (.inr rfl)];simp [b9]
  rw [aeg (o:= .row u l 0) (v':=v) (ws':= []) (GM:=tc)] at e3 e4
  rw [Z8 (o:= .row u l 0) (v':=v) (GM:=tc) (ho:=rfl)] at e4
  refine ⟨ρ',fun m hm=>by rw [e1 m (.inl hm)];exact pc hnm m hm,?_,?_,e4⟩
  ·simp only [ig,List.map_cons,e2,aL,Cell.af,ex];rfl
  ·intro c hc
   simp only [ig,List.mem_cons] at hc
   rcases hc with rfl|hc
   ·exact .inr ⟨Nat.le_refl _,by simp [ig]⟩
   ·exact e3 c hc
where
 fW: ∀(t:Ty),t.flat=true-> ∀(x:t.T) (c:cD),c∈t.aM x-> ∃v,c= .flat v
  | .int _,_,x,c,hc=>by simp [Ty.aM] at hc;exact ⟨_,hc⟩
  | .bool,_,x,c,hc=>by simp [Ty.aM] at hc;exact ⟨_,hc⟩
  | .str,_,x,c,hc=>by simp [Ty.aM] at hc;exact ⟨_,hc⟩
  | .prod a b,h,x,c,hc=>by
   simp only [Ty.flat,Bool.and_eq_true] at h
   simp only [Ty.aM,List.mem_append] at hc
   rcases hc with hc|hc
   ·exact fW a h.1 _ c hc
   ·exact fW b h.2 _ c hc
  | .sl _,h,_,_,_=>by cases h
theorem adD {t:Ty} {l:List t.T} {j q:Nat} {c:cD} (h:j<l.length) (hq:(t.aM (gd t l j))[q]? =some c):(aD t l)[j*t.size+q]? =some c:=by
 rw [qd t l j _ q (Wl h) (by have:=(List.getElem?_eq_some_iff.1 hq).1;rwa [aV] at this)];exact hq
theorem nM: ∀(cs:List cD) (ns:List Int),tO cs=some ns->cs=ns.map fun m=> .flat (.int .i64 m)
 | [],ns,h=>by simp only [tO,Option.some.injEq] at h;subst h;rfl
 |c::r,ns,h=>by
  unfold tO at h
  split at h
  ·simp_all
  ·rename_i n r' heq
   cases heq
   split at h
   ·rename_i l hl;cases h
    rw [nM r l hl];rfl
   ·cases h
  ·cases h
theorem MR (nm:Nat): ∀(ns:List Int),ig nm (ns.map fun m=> .flat (.int .i64 m))=(ns.map fun m=> .raw (.int .i64 m),[])
 | []=>rfl
 |n::r=>by simp only [List.map_cons,ig,MR nm r]
theorem MQ (nm:Nat): ∀(cs:List cD),(∀c∈cs,∃v,c= .flat v)->ig nm cs=(cs.map fun c=>Cell.raw (aT c),[])
 | [],_=>rfl
 |c::r,h=>by
  obtain ⟨v,rfl⟩:=h c (by simp)
  simp only [ig,MQ nm r fun c hc=>h c (by simp [hc]),List.map_cons];rfl
theorem OB (hT:aW P ctx.tt) {t:TypeId} {i:TI} (ht:aJ ctx.tt t=some i) {n j q:Nat} (h:AR i (.v (.one (.br n j q))) hp nm k):
  ∃r,aS P ctx.X hp nm (fun Kn=>(AV.v (.one (.br n j q))).ok Kn) (fun ρ=>Instr.loadAt t ((AV.v (.one (.br n j q))).af ρ)) (fun ρ=>r.val.af ρ) r/\ k r:=by
 unfold AR at h
 dsimp only at h
 split at h
 ·rename_i u l rk he
  split at h
  ·rename_i hsz
   obtain ⟨hj,h⟩:=cl h
   simp only [decide_eq_true_eq] at hj
   generalize hvw:ig nm (cX u l j q i.size)=z at h
   obtain ⟨cs,os⟩:=z
   dsimp only at h
   split at h
   ·rename_i v hv
    refine ⟨_,⟨fun p hp=>absurd hp (by simp),?_⟩,h⟩
    intro aC W ρ Kn Γ w _ _ kI hfr hst
    have dw:Γ n=some (.row u l rk):=by rw [kI n (by simp),he]
    obtain ⟨o1,o2,o3,sub,m1,m2,m3,m4⟩:=hst.at_ n _ dw
    have hcl:(cX u l j q i.size).length=i.size:=by simp [cX,aV];omega
    have hcg: ∀m c,(cX u l j q i.size)[m]? =some c->(aD u l)[j*u.size+q+m]? =some c:=fun m c hm=>by
     unfold cX at hm
     rw [List.getElem?_take] at hm
     split at hm
     ·rw [List.getElem?_drop] at hm
      rw [show j*u.size+q+m=j*u.size+(q+m) by omega]
      exact adD hj hm
     ·cases hm
    have hos:(ig nm (cX u l j q i.size)).2=os:=by rw [hvw]
    have hcs:(ig nm (cX u l j q i.size)).1=cs:=by rw [hvw]
    obtain ⟨ρ',e1,e2,e3,e4⟩:=St.views v [n] (cX u l j q i.size) (j*u.size+q) nm ρ Kn Γ hst (by rw [hos];exact hfr) (okf:=fun b=>lV ρ Γ w b) (fun _ h=>h) fun m u' l' hm=>(m2 _ u' l' (hcg m _ hm)).mono fun b hb=>⟨hb.1,rfl⟩
    rw [hos] at e3 e4
    rw [hcs] at e2 e3
    have Oq: ∀m v,(aL sub (j*u.size+q) (cX u l j q i.size))[m]? =some v-> ∃a,(ρ n).base=some a/\ w.cell? (a.add (j*u.size+q+m))=some v:=fun m v hm=>by
     rw [dJ] at hm
     obtain ⟨c,hc,rfl⟩:=Option.map_eq_some_iff.1 hm
     have:=m1 (j*u.size+q+m) (nG (sub (j*u.size+q+m)) c) (by rw [dJ,hcg m c hc];simp)
     obtain ⟨a,a1,a2,_⟩:=this
     exact ⟨a,a1,a2⟩
    have hpos:=(hT t i ht).2.1
    obtain ⟨a,ha,_⟩: ∃a,(ρ n).base=some a/\ True:=by
     have: ∃v,(aL sub (j*u.size+q) (cX u l j q i.size))[0]? =some v:=⟨_,List.getElem?_eq_getElem (by rw [bM,hcl];exact hpos)⟩
     obtain ⟨v,hv⟩:=this
     obtain ⟨a,h1,_⟩:=Oq 0 v hv
     exact ⟨a,h1,trivial⟩
    have hcell: ∀m v,(aL sub (j*u.size+q) (cX u l j q i.size))[m]? =some v->w.cell? ((a.add (j*u.size+q)).add m)=some v:=fun m v hm=>by
     obtain ⟨a',h1,h2⟩:=Oq m v hm
     rw [ha] at h1;cases h1
     rw [eY];exact h2
    have hlen:(aL sub (j*u.size+q) (cX u l j q i.size)).length=i.size:=by rw [bM,hcl]
    have aiB:(loadVar t (a.add (j*u.size+q))).run P w= .ok (v.af ρ') w/\ v.ok (tP Kn nm {val:=v,fresh:=os,aO:= [n]}):=by
     unfold xQ at hv
     split at hv
     ·rename_i uI
      cases hv
      have FC:=run_loadCells_list (P:=P) w (a.add (j*u.size+q)) _ hcell
      rw [hlen] at FC
      exact ⟨by simp [loadVar,hT.ag ht,uI,hT.sz ht,FC,AV.af,A0.af,e2],e3⟩
     ·rename_i uI
      split at hv
      ·rename_i c
       cases hv
       simp only [List.map_cons,List.map_nil] at e2
       have:=hcell 0 (c.af ρ') (by rw [<- e2];rfl)
       rw [eY,Nat.add_zero] at this
       exact ⟨by simp [loadVar,hT.ag ht,uI,this,AV.af,A0.af],e3 c (by simp)⟩
      ·cases hv
    refine ⟨ρ',w,Eq.trans ?_ aiB.1,e1,aiB.2,e4⟩
    have ex:(AV.v (.one (.br n j q))).af ρ= .pointer (some (a.add (j*u.size+q))):=by simp [AV.af,A0.af,Cell.af,ha,o2]
    show (Instr.loadAt t ((AV.v (.one (.br n j q))).af ρ)).run P w=_
    rw [ex]
    simp only [Instr.loadAt,Instr.sureAddr,Sem.run_bind,Sem.run_pure,Result.andThen_ok]
   ·exact h.elim
  ·exact h.elim
 ·rename_i gn c kk u gx l he
  split at h<;>try (exact h.elim)
  rename_i gm hc
  split at h<;>try (exact h.elim)
  rename_i hsz
  obtain ⟨hj,h⟩:=cl h
  simp only [decide_eq_true_eq] at hj
  split at h<;>try (exact h.elim)
  rename_i v hv
  refine ⟨_,aS.pure fun aC W ρ Kn Γ w _ _ kI hst=> ?_,h⟩
  have dw:Γ n=some (.gv gn c kk u gx l):=by rw [kI n (by simp),he]
  obtain ⟨_,o1,o2,_,huf,o4⟩:=hst.at_ n _ dw
  have hfl: ∀x∈cX u l j q i.size,∃v,x= .flat v:=fun x hx=>St.views.fW u huf _ x (List.mem_of_mem_drop (List.mem_of_mem_take hx))
  rw [MQ _ _ hfl] at hv
  rcases o4 with ⟨e0,_⟩|⟨e,b,h1,h2,_,h4,h5,_,_,h8,_⟩
  ·rw [e0] at hj;exact absurd hj (Nat.not_lt_zero _)
  have Wu:=hst.at_ c _ (by rw [kI c (by simp),hc])
  rcases Wu.2.1 e h1 with ⟨h9,_⟩|⟨b',rest,tt',h9,_,h11,_⟩
  ·rw [h9] at h2;cases h2
  rw [h2] at h9;cases h9
  rw [h8] at h11
  have ha:(ρ n).base=some ⟨b,0,none⟩:=by rw [<- h4,h5]
  have hcell: ∀m v,((cX u l j q i.size).map aT)[m]? =some v->w.cell? ((⟨b,0,none⟩:Addr).add (j*u.size+q)|>.add m)=some v:=fun m v hm=>by
   rw [eY]
   have e1:(⟨b,0,none⟩:Addr).add (j*u.size+q+m)=⟨b,j*u.size+q+m,none⟩:=by unfold Addr.add;split<;>simp_all
   rw [e1,cg h11]
   rw [List.getElem?_map] at hm
   obtain ⟨x,hx,rfl⟩:=Option.map_eq_some_iff.1 hm
   unfold cX at hx
   rw [List.getElem?_take] at hx
   split at hx
   ·rw [List.getElem?_drop] at hx
    have:=adD hj hx
    have h12:(bk u l)[j*u.size+q+m]? =some (aT x):=by
     unfold bk
     rw [List.getElem?_map,show j*u.size+q+m=j*u.size+(q+m) by omega,this];rfl
    rw [List.getElem?_append_left (List.getElem?_eq_some_iff.1 h12).1];exact h12
   ·cases hx
  have hlen:((cX u l j q i.size).map aT).length=i.size:=by simp [cX,aV];omega
  have ex:(AV.v (.one (.br n j q))).af ρ= .pointer (some ((⟨b,0,none⟩:Addr).add (j*u.size+q))):=by simp [AV.af,A0.af,Cell.af,ha,o2]
  have hcc:((cX u l j q i.size).map fun c=>Cell.raw (aT c)).map (Cell.af ρ)=(cX u l j q i.size).map aT:=by
   rw [List.map_map];rfl
  refine ⟨?_,?_⟩
  ·show (Instr.loadAt t ((AV.v (.one (.br n j q))).af ρ)).run P w=_
   rw [ex]
   simp only [Instr.loadAt,Instr.sureAddr,Sem.run_bind,Sem.run_pure,Result.andThen_ok]
   unfold xQ at hv
   split at hv
   ·rename_i uI
    cases hv
    have FC:=run_loadCells_list (P:=P) w ((⟨b,0,none⟩:Addr).add (j*u.size+q)) _ hcell
    rw [hlen] at FC
    simp [loadVar,hT.ag ht,uI,hT.sz ht,FC,AV.af,A0.af,hcc]
   ·rename_i uI
    split at hv
    ·rename_i c0 hc0
     cases hv
     have ajl:=hcc
     dsimp only at hc0
     rw [hc0] at ajl
     simp only [List.map_cons,List.map_nil] at ajl
     have:=hcell 0 (c0.af ρ) (by rw [<- ajl];rfl)
     rw [eY,Nat.add_zero] at this
     simp [loadVar,hT.ag ht,uI,this,AV.af,A0.af]
    ·cases hv
  ·unfold xQ at hv
   have hok: ∀c∈(cX u l j q i.size).map fun c=>Cell.raw (aT c),c.ok Kn:=fun c hc=>by
    obtain ⟨_,_,rfl⟩:=List.mem_map.1 hc;trivial
   split at hv
   ·cases hv;exact hok
   ·split at hv
    ·rename_i c0 hc0
     cases hv
     dsimp only at hc0
     exact hok c0 (by rw [hc0];simp)
    ·cases hv
 ·rename_i cs he
  split at h<;>try (exact h.elim)
  rename_i hj;subst hj
  have Wn: ∀ {aC:mY} {W:World} {ρ:Env} {Kn:Nat->Prop} {Γ:HP} {w:World},(∀m∈ [n],Γ m=hp m)->St aC W ρ Kn Γ w-> ∀m c,cs[q+m]? =some c-> ∃a,(ρ n).base=some a/\ w.cell? ((a.add q).add m)=some (c.af ρ):=fun kI hst m c hm=>by
   have g:=hst.at_ n (.rc cs) (by rw [kI n (by simp),he])
   obtain ⟨a,h1,h2,_⟩:=g.2 _ _ hm
   exact ⟨a,h1,by rw [eY];exact h2⟩
  have ex: ∀ {ρ:Env} {a:Addr},(ρ n).base=some a->(AV.v (.one (.br n 0 q))).af ρ= .pointer (some (a.add q)):=fun ha=>by simp [AV.af,A0.af,Cell.af,ha]
  unfold TL at h
  split at h
  ·rename_i uI
   split at h
   ·rename_i hl
    refine ⟨_,aS.pure ?_,h⟩
    intro aC W ρ Kn Γ w _ _ kI hst
    have dw:Γ n=some (.rc cs):=by rw [kI n (by simp),he]
    have hpos:=(hT t i ht).2.1
    obtain ⟨c0,hc0⟩: ∃c,cs[q+0]? =some c:=⟨_,List.getElem?_eq_getElem (by omega)⟩
    obtain ⟨a,ha,_⟩:=Wn kI hst 0 c0 hc0
    have hcell: ∀m v,(((cs.drop q).take i.size).map (Cell.af ρ))[m]? =some v->w.cell? ((a.add q).add m)=some v:=fun m v hm=>by
     rw [List.getElem?_map] at hm
     obtain ⟨c,hc,rfl⟩:=Option.map_eq_some_iff.1 hm
     rw [List.getElem?_take] at hc
     split at hc
     ·rw [List.getElem?_drop] at hc
      obtain ⟨a',h1,h2⟩:=Wn kI hst m c hc
      rw [ha] at h1;cases h1;exact h2
     ·cases hc
    have FC:=run_loadCells_list (P:=P) w (a.add q) _ hcell
    have hlen:(((cs.drop q).take i.size).map (Cell.af ρ)).length=i.size:=by simp;omega
    rw [hlen] at FC
    refine ⟨?_,fun c hc=>(hst.kn n _ dw).2 c (List.mem_of_mem_drop (List.mem_of_mem_take hc))⟩
    show (Instr.loadAt t ((AV.v (.one (.br n 0 q))).af ρ)).run P w=_
    rw [ex ha]
    simp only [Instr.loadAt,Instr.sureAddr,Sem.run_bind,Sem.run_pure,Result.andThen_ok]
    simp [loadVar,hT.ag ht,uI,hT.sz ht,FC,AV.af,A0.af]
   ·exact h.elim
  ·rename_i uI
   split at h
   ·rename_i c hc
    refine ⟨_,aS.pure ?_,h⟩
    intro aC W ρ Kn Γ w _ _ kI hst
    have dw:Γ n=some (.rc cs):=by rw [kI n (by simp),he]
    obtain ⟨a,ha,h2⟩:=Wn kI hst 0 c hc
    rw [eY,Nat.add_zero] at h2
    refine ⟨?_,(hst.kn n _ dw).2 c (List.mem_of_getElem? hc)⟩
    show (Instr.loadAt t ((AV.v (.one (.br n 0 q))).af ρ)).run P w=_
    rw [ex ha]
    simp only [Instr.loadAt,Instr.sureAddr,Sem.run_bind,Sem.run_pure,Result.andThen_ok]
    simp [loadVar,hT.ag ht,uI,h2,AV.af,A0.af]
   ·exact h.elim
 ·exact h.elim
theorem ahk {i:TI} {n j q:Nat} (h:AR i (.v (.one (.gJ n j q))) hp nm k):AR i (.v (.one (.br n j q))) hp nm k:=by
 unfold AR at h ⊢
 dsimp only at h ⊢
 split at h
 ·rename_i u l rk he
  split at h
  ·rename_i ns hns
   obtain ⟨h1,h⟩:=cl h
   obtain ⟨h2,h⟩:=cl h
   simp only [decide_eq_true_eq] at h1
   have hl:ns.length=u.size:=by
    have:=aV u (gd u l j)
    rw [nM _ _ hns] at this
    simpa using this
   have e:ig nm (cX u l j q i.size)=(sM ns q i.size,[]):=by
    unfold cX
    rw [nM _ _ hns,<- List.map_drop,<- List.map_take,MR,zj _ _ _ (by omega),<- List.map_drop,<- List.map_take]
   rw [he]
   dsimp only
   rw [if_pos h1,h2,e]
   exact h
  ·exact h.elim
 ·exact h.elim
theorem aaZ (hT:aW P ctx.tt) {t:TypeId} {i:TI} (ht:aJ ctx.tt t=some i) {x:AV} (h:AR i x hp nm k):
  ∃r,aS P ctx.X hp nm (fun Kn=>x.ok Kn) (fun ρ=>Instr.loadAt t (x.af ρ)) (fun ρ=>r.val.af ρ) r/\ k r:=by
 unfold AR at h
 split at h
 ·rename_i n off
  split at h
  ·rename_i cs e he
   obtain ⟨r,h1,h2⟩:=aaY (nm:=nm) hT ht he h
   exact ⟨r,⟨h1.1,fun aC W ρ Kn Γ w a _ c d e=>h1.2 aC W ρ Kn Γ w a trivial c d e⟩,h2⟩
  ·exact h.elim
 ·rename_i n off
  split at h
  ·rename_i cs e he
   split at h
   ·rename_i ns hns
    obtain ⟨hl,h⟩:=cl h
    simp only [decide_eq_true_eq] at hl
    split at h
    ·rename_i v hv
     refine ⟨_,aS.pure ?_,h⟩
     intro aC W ρ Kn Γ w _ _ kI hst
     have dw:Γ n=some (.cells cs e):=by rw [kI n (by simp),he]
     obtain ⟨b,hb,hh⟩:=hst.at_ n _ dw
     have ecs:=iW ρ cs ns hns
     have hlen:cs.length=ns.length:=by rw [ecs];simp
     have bE:sM ns off i.size=(cs.drop off).take i.size:=by rw [zj _ _ _ (by omega),<- ecs]
     rw [bE] at hv
     have hrun:=mI hT ht (off:=off) (w:=w) (rest:= []) (cs:=cs.map (Cell.af ρ)) (b:=b) (e:=e) (by simpa using hh)
     unfold xQ at hv
     split at hv
     ·rename_i ha
      cases hv
      refine ⟨?_,fun c hc=>(hst.kn n _ dw).2 c (List.mem_of_mem_drop (List.mem_of_mem_take hc))⟩
      have:=hrun.1 ha (by simpa using hl)
      simp only [Instr.loadAt,Instr.sureAddr,AV.af,A0.af,Cell.af,addrOf,hb,Option.map_some,Sem.run_bind,Sem.run_pure,Result.andThen_ok,this,eG]
     ·rename_i ha
      split at hv
      ·rename_i c hc
       cases hv
       have hcs:cs[off]? =some c:=by
        have h0:((cs.drop off).take i.size)[0]? =some c:=by rw [hc];rfl
        rw [List.getElem?_take] at h0
        split at h0
        ·rw [List.getElem?_drop] at h0;simpa using h0
        ·cases h0
       refine ⟨?_,(hst.kn n _ dw).2 c (List.mem_of_getElem? hcs)⟩
       have:=hrun.2 (by simpa using ha) (c.af ρ) (by simp [hcs])
       simp only [Instr.loadAt,Instr.sureAddr,AV.af,A0.af,Cell.af,addrOf,hb,Option.map_some,Sem.run_bind,Sem.run_pure,Result.andThen_ok,this]
      ·cases hv
    ·exact h.elim
   ·exact h.elim
  ·exact h.elim
 ·rename_i n j q
  exact OB hT ht (by unfold AR;exact h)
 ·rename_i n j q
  exact OB hT ht (ahk (by unfold AR;exact h))
 ·exact h.elim
theorem oh {α β:Type} (f:α->β): ∀(ys cs:List α) (off:Nat),(setCells cs off ys).map f=setCells (cs.map f) off (ys.map f)
 | [],_,_=>rfl
 |y::r,cs,off=>by simp only [setCells,List.map_cons];rw [oh f r];simp [List.map_set]
theorem oN {ρ:Env} {n b off:Nat} (hb:(ρ n).bR=some b):(AV.v (.one (.ptr n off))).af ρ= .pointer (some ⟨b,off,none⟩):=by
 simp [AV.af,A0.af,Cell.af,addrOf,hb]
theorem qh {ρ:Env} {n b off:Nat} (hb:(ρ n).bR=some b):(AV.v (.one (.oB n off))).af ρ= .pointer (some ⟨b,off,none⟩):=by
 simp [AV.af,A0.af,Cell.af,addrOf,hb]
theorem yD (hT:aW P ctx.tt) {t:TypeId} {i:TI} (ht:aJ ctx.tt t=some i) {a:Addr} {v:Value} {vs:List Value} (hv:v.cells=vs.toArray) (hl:vs.length=i.size) (w:World):
  (Instr.storeAt t (.pointer (some a)) v).run P w=(storeCells a vs).run P w:=by
 simp [Instr.storeAt,Instr.sureAddr,storeVar,hT.sz ht,hv,hl]
theorem xG: ∀(ys:List Cell) (ps:List cD),gN ys=some ps->ps.length=ys.length/\ qv ys=true/\ ∀(ρ:Env),ys.map (Cell.af ρ)=ps.map aT/\ ∀c∈ps,∃v,c= .flat v
 | [],ps,h=>by simp only [gN,Option.some.injEq] at h;subst h;exact ⟨rfl,rfl,fun ρ=>⟨rfl,by simp⟩⟩
 |y::r,ps,h=>by
  unfold gN at h
  split at h
  ·simp_all
  ·rename_i v r' heq
   cases heq
   have main: ∀qs,gN r=some qs->ya v=true->(cD.flat v::qs).length=(Cell.raw v::r).length/\ qv (Cell.raw v::r)=true/\ ∀(ρ:Env),(Cell.raw v::r).map (Cell.af ρ)=(cD.flat v::qs).map aT/\ ∀c∈(cD.flat v::qs),∃v,c= .flat v:=fun qs hq hv=>by
    obtain ⟨h1,h2,h3⟩:=xG r qs hq
    refine ⟨by simp [h1],by simp [qv,Cell.one,hv,h2],fun ρ=>⟨by simp [(h3 ρ).1,Cell.af,aT],fun c hc=> ?_⟩⟩
    rcases List.mem_cons.1 hc with rfl|hc
    ·exact ⟨v,rfl⟩
    ·exact (h3 ρ).2 c hc
   split at h<;>try (cases h;done)
   all_goals
    obtain ⟨qs,hq,rfl⟩:=Option.map_eq_some_iff.1 h
    exact main qs hq rfl
  ·cases h
theorem QT {c:cD} (h: ∃v,c= .flat v) (s:Option Addr×Nat):nG s c=aT c:=by obtain ⟨v,rfl⟩:=h;rfl
theorem fU {α:Type} : ∀(ys cs:List α) (off i:Nat),off+ys.length<=cs.length->(setCells cs off ys)[i]? =if off<=i/\ i<off+ys.length then ys[i- off]? else cs[i]? :=by
 intro ys cs off i h
 rw [jK ys cs off h]
 simp only [List.getElem?_append,List.length_append,List.length_take,List.getElem?_take,List.getElem?_drop]
 grind
theorem vU (t:Ty) (x':t.T): ∀(l:List t.T) (j:Nat),j<l.length->aD t (l.set j x')=setCells (aD t l) (j*t.size) (t.aM x')
 | [],j,h=>by simp at h
 |x::r,0,_=>by
  simp only [List.set_cons_zero,aD,List.flatMap_cons,Nat.zero_mul]
  rw [jK _ _ _ (by simp [aV])]
  simp [aV]
 |x::r,j+1,h=>by
  simp only [List.length_cons] at h
  have hl:=bA t r
  have ih:=vU t x' r j (by omega)
  have hb:j*t.size+t.size<=r.length*t.size:=by rw [<- Nat.succ_mul];exact Nat.mul_le_mul_right _ (by omega)
  simp only [List.set_cons_succ,aD,List.flatMap_cons] at ih hl ⊢
  rw [ih]
  apply List.ext_getElem?
  intro i
  have e:(j+1)*t.size=j*t.size+t.size:=Nat.succ_mul _ _
  rw [fU _ _ _ _ (by rw [List.length_append,aV,aV,hl,e];omega),List.getElem?_append,fU _ _ _ _ (by rw [aV,hl];omega),List.getElem?_append]
  simp only [aV,e]
  by_cases h1:i<t.size
  ·rw [if_pos h1,if_pos h1,if_neg (by omega)]
  ·rw [if_neg h1,if_neg h1]
   by_cases h2:j*t.size<=i- t.size/\ i- t.size<j*t.size+t.size
   ·rw [if_pos h2,if_pos (by omega),show i- (j*t.size+t.size)=i- t.size- j*t.size by omega]
   ·rw [if_neg h2,if_neg (by omega)]
theorem Tw: ∀(ms:List Int),qv (ms.map fun n=>Cell.raw (.int .i64 n))=true
 | []=>rfl
 |a::r=>by simp [qv,Cell.one,ya,Tw r]
theorem St.drop {aC:mY} {W:World} {ρ:Env} {Kn:Nat->Prop} {Γ AI:HP} {w:World} (h:St aC W ρ Kn Γ w) (hs: ∀x p,AI x=some p->Γ x=some p):St aC W ρ Kn AI w:=by
 have hL: ∀b,LO ρ AI b->LO ρ Γ b:=fun b hb=>by
  rcases hb with ⟨m,h1,h2⟩|⟨m,S,h1,h2⟩
  ·obtain ⟨o,ho⟩:=Option.isSome_iff_exists.1 h1
   exact .inl ⟨m,by rw [hs m o ho];rfl,h2⟩
  ·exact .inr ⟨m,S,hs m _ h1,h2⟩
 have hsm: ∀m,(AI m).isSome=true->(Γ m).isSome=true:=fun m hm=>by
  obtain ⟨o,ho⟩:=Option.isSome_iff_exists.1 hm
  rw [hs m o ho];rfl
 exact ⟨h.fr,fun n o ho=>dj (Kn:=Kn) (h.at_ n o (hs n o ho)) (fun _ _=>rfl) (h.kn n o (hs n o ho)).1 (h.kn n o (hs n o ho)).2 (fun b hb=>⟨⟨hb.1,fun q=>hb.2 (hL b q)⟩,rfl⟩) (fun _ _ h=>h) fun _ _=>rfl,
  fun n o ho=>h.kn n o (hs n o ho),fun n m b hn hm=>h.qC n m b (hsm n hn) (hsm m hm),fun n b hn=>h.yb n b (hsm n hn),fun b ⟨m,S,h1,h2⟩=>⟨(h.F5 b ⟨m,S,hs m _ h1,h2⟩).1,fun ⟨m',h3,h4⟩=>(h.F5 b ⟨m,S,hs m _ h1,h2⟩).2 ⟨m',hsm m' h3,h4⟩⟩,fun n o ho=>h.Nl n o (hs n o ho)⟩
theorem Yn (hT:aW P ctx.tt) {t:TypeId} {i:TI} (ht:aJ ctx.tt t=some i) {n j q:Nat} {y:AV} {ys:List Cell} (hys:y.cells=some ys) (hsz:ys.length=i.size) {u:Ty} {l:List u.T} {rk:Nat} (he:hp n=some (.row u l rk)) (C5: ¬rk=0) (h:Ym u l rk n j q ys hp k):
  ∃r,aS P ctx.X hp nm (fun Kn=>(AV.v (.one (.br n j q))).ok Kn/\ y.ok Kn) (fun ρ=>Instr.storeAt t ((AV.v (.one (.br n j q))).af ρ) (y.af ρ)) (fun _=>()) r/\ r.val=aH/\ k r:=by
 unfold Ym at h
 split at h
 rotate_left
 ·exact h.elim
 rename_i m
 split at h
 rotate_left
 ·exact h.elim
 rename_i u' lm rm hm
 split at h
 ·exact h.elim
 rename_i hc
 simp only [not_or] at hc
 obtain ⟨hrm,hmn,huf,hq⟩:=hc
 have huf:u'.flat=true:=by simpa using huf
 split at h
 rotate_left
 ·exact h.elim
 rename_i x' hx'
 obtain ⟨hj,h⟩:=cl h
 have h:=h.2 _ rfl
 simp only [decide_eq_true_eq] at hj
 refine ⟨_,⟨fun p m6=> ?_,?_⟩,rfl,h⟩
 ·simp only [List.mem_cons,List.not_mem_nil,or_false] at m6
  rcases m6 with rfl|rfl
  ·rw [he];simp
  ·rw [hm];simp
 intro aC W ρ Kn Γ w _ hk kI _ hst
 have dw:Γ n=some (.row u l rk):=by rw [kI n (by simp),he]
 have ahg:Γ m=some (.row u' lm rm):=by rw [kI m (by simp),hm]
 obtain ⟨o1,o2,o3,sub,m1,m2,m3,m4⟩:=hst.at_ n _ dw
 obtain ⟨p1,p2,p3,amf,q1,q2,q3,q4⟩:=hst.at_ m _ ahg
 rcases m4 C5 with ⟨_,h0,_⟩|⟨b,rest,e,hb,hbase,hh,hcap⟩
 ·subst h0;simp at hj
 have hcx:u.aM x'=setCells (u.aM (gd u l j)) q [.sl u' lm]:=by
  have:=pU u _ _ _ hx';rw [List.append_nil] at this;exact this.symm
 have hrl:=bA u l
 have hjl:j*u.size+u.size<=l.length*u.size:=by rw [<- Nat.succ_mul];exact Nat.mul_le_mul_right _ (by omega)
 have IQ: ∀x,(aD u (l.set j x'))[x]? =if x=j*u.size+q then some (.sl u' lm) else (aD u l)[x]? :=fun x=>by
  rw [vU u x' l j hj,fU _ _ _ _ (by rw [aV];omega),aV,hcx]
  by_cases h1:j*u.size<=x/\ x<j*u.size+u.size
  ·rw [if_pos h1,fU _ _ _ _ (by rw [aV];simp;omega)]
   by_cases h2:x=j*u.size+q
   ·subst h2
    rw [if_pos rfl,if_pos (by constructor<;>simp<;>omega)]
    have:j*u.size+q- j*u.size- q=0:=by omega
    rw [this];rfl
   ·rw [if_neg (by simp;omega),if_neg h2]
    have:=qd u l j _ (x- j*u.size) (Wl hj) (by omega)
    rw [show j*u.size+(x- j*u.size)=x by omega] at this
    exact this.symm
  ·rw [if_neg h1,if_neg (by omega)]
 obtain ⟨sub',YU⟩: ∃sub':Nat->Option Addr×Nat,sub'=fun x=>if x=j*u.size+q then ((ρ m).base,(ρ m).cap) else sub x:=⟨_,rfl⟩
 have Oq:aL sub' 0 (aD u (l.set j x'))=setCells (aL sub 0 (aD u l)) (j*u.size+q) ([Cell.full m].map (Cell.af ρ)):=by
  apply List.ext_getElem?
  intro x
  rw [dJ,IQ,fU _ _ _ _ (by rw [bM];simp;omega),dJ]
  by_cases h1:x=j*u.size+q
  ·subst h1
   rw [if_pos rfl,if_pos (by simp),Nat.sub_self,YU]
   simp [nG,Cell.af,p1]
  ·rw [if_neg h1,if_neg (by simp;omega),YU,Nat.zero_add]
   simp only [if_neg h1]
 have hlt:j*u.size+q+1<=(aL sub 0 (aD u l)).length:=by rw [bM,hrl];omega
 have hrun:(Instr.storeAt t ((AV.v (.one (.br n j q))).af ρ) (y.af ρ)).run P w= .ok () (w.setRow b (aL sub' 0 (aD u (l.set j x'))++rest).toArray):=by
  have hst:=run_storeCells_at P b (j*u.size+q) e ([Cell.full m].map (Cell.af ρ)) 0 _ w hh (by simp;omega) (rB [Cell.full m] rfl ρ)
  have ex:(AV.v (.one (.br n j q))).af ρ= .pointer (some ⟨b,j*u.size+q,none⟩):=by
   simp only [AV.af,A0.af,Cell.af,hbase,o2,Option.map_some]
   unfold Addr.add;split<;>simp_all
  rw [ex,yD hT ht (AV.kS hys ρ) (by simpa using hsz),hst,Oq]
  congr 2
  simp only [Nat.add_zero,List.length_map]
  rw [jK _ _ _ (by simpa using hlt)]
  rw [List.take_append_of_le_length (by omega),List.drop_append_of_le_length (by simp;omega)]
  simp
 refine ⟨ρ,_,hrun,fun _ _=>rfl,fun a ha=>absurd ha (by simp),?_⟩
 obtain ⟨Γ2,Wv⟩: ∃Γ2:HP,Γ2=fun x=>if x=m then none else Γ x:=⟨_,rfl⟩
 have Nh:St aC W ρ Kn Γ2 w:=hst.drop fun x p m6=>by
  rw [Wv] at m6
  dsimp only at m6
  split at m6
  ·cases m6
  ·exact m6
 have alM:Γ2 n=some (.row u l rk):=by rw [Wv];dsimp only;rw [if_neg (Ne.symm hmn)];exact dw
 have amR:dO {val:=aH,writes:= [(n,.row u (l.set j x') rk),(m,.gone)],aO:= [n,m]} nm Γ=eX Γ2 n (.row u (l.set j x') rk):=by
  funext x
  simp only [dO,eX,dP,List.length_nil,Wv]
  rw [if_neg (by omega)]
  by_cases h1:m=x
  ·subst h1
   simp [live,hmn]
  ·by_cases h2:n=x
   ·subst h2;simp [h1,live]
   ·simp [h1,h2,Ne.symm h1,Ne.symm h2]
 rw [jN,amR]
 refine Nh.write alM hb trivial (fun _ h=>by cases h) fun hfz=> ?_
 have aha: ∀b',lV ρ Γ w b'->lV ρ Γ2 w b':=fun b' hb'=>⟨hb'.1,by
  rintro (⟨x,h1,h2⟩|⟨x,S,h1,h2⟩)
  ·rw [Wv] at h1
   dsimp only at h1
   split at h1
   ·cases h1
   ·exact hb'.2 (.inl ⟨x,h1,h2⟩)
  ·rw [Wv] at h1
   dsimp only at h1
   split at h1
   ·cases h1
   ·exact hb'.2 (.inr ⟨x,S,h1,h2⟩)⟩
 have hfm: ∀b',(ρ m).bR=some b'->bS w b'->lV ρ Γ2 w b':=fun b' hb' Wo=>⟨Wo,by
  rintro (⟨x,h1,h2⟩|⟨x,S,h1,h2⟩)
  ·rw [Wv] at h1
   dsimp only at h1
   split at h1
   ·cases h1
   ·rename_i hx
    exact hx (hst.qC x m b' h1 (by rw [ahg];rfl) h2 (.inl hb'))
  ·rw [Wv] at h1
   dsimp only at h1
   split at h1
   ·cases h1
   ·exact (hst.F5 b' ⟨x,S,h1,h2⟩).2 ⟨m,by rw [ahg];rfl,.inl hb'⟩⟩
 have IS:=setRow_heap w b _ (aL sub' 0 (aD u (l.set j x'))++rest).toArray _ _ hh
 refine ⟨by simpa using o1,o2,by simpa using o3,sub',fun x v hx=> ?_,fun x u2 l2 hx=> ?_,m3,fun _=> .inr ⟨b,rest,e,hb,hbase,IS,?_⟩⟩
 ·refine ⟨_,hbase,?_,fun e=>absurd e C5⟩
  have e1:(⟨b,0,none⟩:Addr).add x=⟨b,x,none⟩:=by unfold Addr.add;split<;>simp_all
  rw [e1,cg IS,List.getElem?_append_left (List.getElem?_eq_some_iff.1 hx).1];exact hx
 ·rw [IQ] at hx
  split at hx
  ·rename_i hx0
   cases hx
   have es:sub' x=((ρ m).base,(ρ m).cap):=by rw [YU,hx0];simp
   rw [es]
   refine ⟨huf,p3,fun i v hv=> ?_⟩
   have hvs:aL amf 0 (aD u' lm)=bk u' lm:=by
    unfold bk
    have: ∀(cs:List cD) (z:Nat),(∀c∈cs,∃v,c= .flat v)->aL amf z cs=cs.map aT:=by
     intro cs
     induction cs with
     |nil=>intro _ _;rfl
     |cons c r ih=>
      intro z hz
      obtain ⟨v,rfl⟩:=hz c (by simp)
      simp only [aL,List.map_cons,ih (z+1) fun c hc=>hz c (by simp [hc])]
      rfl
    exact this _ 0 fun c hc=>by
     obtain ⟨x2,_,h2⟩:=List.mem_flatMap.1 hc
     exact St.views.fW u' huf x2 c h2
   obtain ⟨a,k1,k2,_⟩:=q1 i v (by rw [hvs];exact hv)
   rcases q4 hrm with ⟨_,h0,_⟩|⟨bm,aoN,em,hbm,adK,hhm,aof⟩
   ·subst h0;simp [bk,aD] at hv
   ·rw [adK] at k1
    cases k1
    have hcb:bS w bm:=⟨_,_,_,hhm⟩
    obtain ⟨f1,f2⟩:=hfz bm (hfm bm hbm hcb)
    refine ⟨_,adK,?_,f1,fun _=>(hst.own m bm (by rw [ahg];rfl) hbm).imp_right .inl⟩
    rw [<- k2]
    exact World.cell?_of_block (by rw [jM];exact f2)
  ·rename_i hx0
   have es:sub' x=sub x:=by rw [YU];exact if_neg hx0
   rw [es]
   exact (m2 x _ _ hx).mono fun b' hb'=>⟨⟨(hfz b' (aha b' hb'.1)).1,hb'.2⟩,(hfz b' (aha b' hb'.1)).2⟩
 ·exact ⟨by rw [hcap.1];simp [bM,bA],hcap.2⟩
theorem MH (hT:aW P ctx.tt) {t:TypeId} {i:TI} (ht:aJ ctx.tt t=some i) {n j q:Nat} {y:AV} (h:tD i (.v (.one (.br n j q))) y hp k):
  ∃r,aS P ctx.X hp nm (fun Kn=>(AV.v (.one (.br n j q))).ok Kn/\ y.ok Kn) (fun ρ=>Instr.storeAt t ((AV.v (.one (.br n j q))).af ρ) (y.af ρ)) (fun _=>()) r/\ r.val=aH/\ k r:=by
 unfold tD at h
 cases hys:y.cells with
 |none=>rw [hys] at h;exact h.elim
 |some ys=>
 rw [hys] at h
 dsimp only at h
 split at h
 ·rename_i hsz
  split at h
  ·rename_i u l rk he
   split at h
   ·exact h.elim
   ·rename_i C5
    split at h
    ·rename_i ps hps
     split at h
     ·rename_i hq
      split at h
      ·rename_i x' hx'
       obtain ⟨hj,h⟩:=cl h
       have h:=h.2 _ rfl
       simp only [decide_eq_true_eq] at hj
       refine ⟨_,⟨fun p m6=>by simp at m6;subst m6;rw [he];simp,?_⟩,rfl,h⟩
       intro aC W ρ Kn Γ w _ hk kI _ hst
       have dw:Γ n=some (.row u l rk):=by rw [kI n (by simp),he]
       obtain ⟨o1,o2,o3,sub,m1,m2,m3,m4⟩:=hst.at_ n _ dw
       rcases m4 C5 with ⟨_,h0,_⟩|⟨b,rest,e,hb,hbase,hh,hcap⟩
       ·subst h0;simp at hj
       obtain ⟨FD,hone,hpc⟩:=xG ys ps hps
       have hcx:u.aM x'=setCells (u.aM (gd u l j)) q ps:=by
        have:=pU u _ _ _ hx';rw [List.append_nil] at this;exact this.symm
       have hrl:=bA u l
       have hjl:j*u.size+u.size<=l.length*u.size:=by rw [<- Nat.succ_mul];exact Nat.mul_le_mul_right _ (by omega)
       have IQ: ∀m,(aD u (l.set j x'))[m]? =if j*u.size+q<=m/\ m<j*u.size+q+ps.length then ps[m- (j*u.size+q)]? else (aD u l)[m]? :=fun m=>by
        rw [vU u x' l j hj,fU _ _ _ _ (by rw [aV];omega),aV,hcx]
        by_cases h1:j*u.size<=m/\ m<j*u.size+u.size
        ·rw [if_pos h1,fU _ _ _ _ (by rw [aV];omega)]
         by_cases h2:q<=m- j*u.size/\ m- j*u.size<q+ps.length
         ·rw [if_pos h2,if_pos (by omega),show m- j*u.size- q=m- (j*u.size+q) by omega]
         ·rw [if_neg h2,if_neg (by omega)]
          have:=qd u l j _ (m- j*u.size) (Wl hj) (by omega)
          rw [show j*u.size+(m- j*u.size)=m by omega] at this
          exact this.symm
        ·rw [if_neg h1,if_neg (by omega)]
       have Oq:aL sub 0 (aD u (l.set j x'))=setCells (aL sub 0 (aD u l)) (j*u.size+q) (ys.map (Cell.af ρ)):=by
        apply List.ext_getElem?
        intro m
        rw [dJ,IQ,fU _ _ _ _ (by rw [bM];simp;omega),dJ,(hpc ρ).1]
        simp only [List.length_map,List.getElem?_map]
        by_cases h1:j*u.size+q<=m/\ m<j*u.size+q+ps.length
        ·rw [if_pos h1,if_pos h1]
         cases hm:ps[m- (j*u.size+q)]? with
         |none=>rfl
         |some c=>exact congrArg some (QT ((hpc ρ).2 c (List.mem_of_getElem? hm)) _)
        ·rw [if_neg h1,if_neg h1]
       have hlt:j*u.size+q+ys.length<=(aL sub 0 (aD u l)).length:=by rw [bM,hrl];omega
       have hrun:(Instr.storeAt t ((AV.v (.one (.br n j q))).af ρ) (y.af ρ)).run P w= .ok () (w.setRow b (aL sub 0 (aD u (l.set j x'))++rest).toArray):=by
        have hst:=run_storeCells_at P b (j*u.size+q) e (ys.map (Cell.af ρ)) 0 _ w hh (by simp;omega) (rB ys hone ρ)
        have ex:(AV.v (.one (.br n j q))).af ρ= .pointer (some ⟨b,j*u.size+q,none⟩):=by
         simp only [AV.af,A0.af,Cell.af,hbase,o2,Option.map_some]
         unfold Addr.add;split<;>simp_all
        rw [ex,yD hT ht (AV.kS hys ρ) (by simpa using hsz),hst,Oq]
        congr 2
        simp only [Nat.add_zero,List.length_map]
        rw [jK _ _ _ (by simpa using hlt)]
        rw [List.take_append_of_le_length (by omega),List.drop_append_of_le_length (by omega)]
        simp
       refine ⟨ρ,_,hrun,fun _ _=>rfl,fun a ha=>absurd ha (by simp),?_⟩
       rw [jN,mZ _ _ _ _ _ _ rfl]
       refine hst.write dw hb trivial (fun _ h=>by cases h) fun hfz=> ?_
       have IS:=setRow_heap w b _ (aL sub 0 (aD u (l.set j x'))++rest).toArray _ _ hh
       refine ⟨by simpa using o1,o2,by simpa using o3,sub,fun m v hm=> ?_,fun m u' l' hm=> ?_,m3,fun _=> .inr ⟨b,rest,e,hb,hbase,IS,?_⟩⟩
       ·refine ⟨_,hbase,?_,fun e=>absurd e C5⟩
        have e1:(⟨b,0,none⟩:Addr).add m=⟨b,m,none⟩:=by unfold Addr.add;split<;>simp_all
        rw [e1,cg IS,List.getElem?_append_left (List.getElem?_eq_some_iff.1 hm).1];exact hm
       ·rw [IQ] at hm
        split at hm
        ·obtain ⟨v,hv⟩:=(hpc ρ).2 _ (List.mem_of_getElem? hm);cases hv
        ·exact (m2 m u' l' hm).mono fun b' hb'=>⟨⟨(hfz b' hb'.1).1,hb'.2⟩,(hfz b' hb'.1).2⟩
       ·exact ⟨by rw [hcap.1];simp [bM,bA],hcap.2⟩
      ·exact h.elim
     ·exact h.elim
    ·exact Yn hT ht hys hsz he C5 h
  ·exact h.elim
 ·exact h.elim
theorem xF: ∀(ms:List Int),gN (ms.map fun m=>Cell.raw (.int .i64 m))=some (ms.map fun m=> .flat (.int .i64 m))
 | []=>rfl
 |m::r=>by simp only [List.map_cons,gN,xF r,Option.map_some]
theorem af6 {i:TI} {n j q:Nat} {y:AV} (h:tD i (.v (.one (.gJ n j q))) y hp k):tD i (.v (.one (.br n j q))) y hp k:=by
 unfold tD at h ⊢
 cases hys:y.cells with
 |none=>rw [hys] at h;exact h.elim
 |some ys=>
 rw [hys] at h
 dsimp only at h ⊢
 split at h
 ·rename_i hsz
  rw [if_pos hsz]
  split at h
  ·rename_i u l rk he
   split at h
   ·exact h.elim
   ·rename_i C5
    rw [if_neg C5]
    split at h
    ·rename_i ms ns hms hns
     have ey:=iW (fun _=> {}) ys ms hms
     have hf:gN ys=some (ms.map fun m=> .flat (.int .i64 m)):=by rw [ey];exact xF ms
     rw [hf]
     dsimp only
     have e:setCells (u.aM (gd u l j)) q (ms.map fun m=>cD.flat (.int .i64 m))=(vp q ms ns).map fun m=> .flat (.int .i64 m):=by
      rw [nM _ _ hns,B8,oh]
     split at h
     ·rename_i x' hx'
      obtain ⟨h1,h⟩:=cl h
      simp only [decide_eq_true_eq] at h1
      have hl:ys.length=ms.length:=by rw [ey];simp
      rw [if_pos (by simpa [<- hl] using h1),e,hx']
      exact h
     ·exact h.elim
    ·exact h.elim
  ·exact h.elim
 ·exact h.elim
theorem Yl (hT:aW P ctx.tt) {t:TypeId} {i:TI} (ht:aJ ctx.tt t=some i) {x y:AV} (h:tD i x y hp k):
  ∃r,aS P ctx.X hp nm (fun Kn=>x.ok Kn/\ y.ok Kn) (fun ρ=>Instr.storeAt t (x.af ρ) (y.af ρ)) (fun _=>()) r/\ r.val=aH/\ k r:=by
 have core: ∀ {ρ:Env} {w:World} {n b off:Nat} {cs ys:List Cell} {e:TypeId} {v:Value},y.cells=some ys->ys.length=i.size->qv ys=true->(ρ n).bR=some b->w.heap[b]? =some (.cells (cs.map (Cell.af ρ)).toArray e (0,0))->off+ys.length<=cs.length->v= .pointer (some ⟨b,off,none⟩)->
   (Instr.storeAt t v (y.af ρ)).run P w= .ok () (w.setRow b ((setCells cs off ys).map (Cell.af ρ)).toArray):=by
  intro ρ w n b off cs ys e v hys hsz hone hb hh hl hv
  have hst:=run_storeCells_at P b off e (ys.map (Cell.af ρ)) 0 _ w hh (by simp;omega) (rB ys hone ρ)
  rw [hv,yD hT ht (AV.kS hys ρ) (by simpa using hsz),hst]
  congr 2
  simp only [Nat.add_zero,List.length_map,Sy (Cell.af ρ) ys cs off hl]
 unfold tD at h
 split at h
 ·rename_i n off ys hys
  split at h
  ·rename_i hsz
   split at h
   ·rename_i hone
    split at h
    ·rename_i cs e he
     split at h
     ·rename_i hl
      refine ⟨_,⟨fun p m6=>by simp at m6;subst m6;rw [he];simp,?_⟩,rfl,h⟩
      intro aC W ρ Kn Γ w _ hk kI _ hst
      have dw:Γ n=some (.cells cs e):=by rw [kI n (by simp),he]
      obtain ⟨b,hb,hh⟩:=hst.at_ n _ dw
      have hrun:=core hys hsz hone hb hh hl (oN hb)
      refine ⟨ρ,_,hrun,fun _ _=>rfl,fun a ha=>absurd ha (by simp),?_⟩
      rw [jN,mZ _ _ _ _ _ _ rfl]
      refine hst.write dw hb (fun c hc=> ?_) (fun _ h=>by cases h) fun _=>⟨b,hb,by rw [setRow_heap _ _ _ _ _ _ hh]⟩
      rcases vV hl hc with h1|h1
      ·exact (hst.kn n _ dw).2 c h1
      ·exact AV.CI hys hk.2 c h1
     ·exact h.elim
    ·exact h.elim
   ·exact h.elim
  ·exact h.elim
 ·rename_i n off ys hys
  split at h
  ·rename_i hsz
   split at h
   ·rename_i cs e he
    split at h
    ·rename_i ns ms hns hms
     obtain ⟨hl,h⟩:=cl h
     simp only [decide_eq_true_eq] at hl
     have ec:=iW (fun _=> {}) cs ns hns
     have ey:=iW (fun _=> {}) ys ms hms
     have Wu:(vp off ms ns).map (fun q=>Cell.raw (.int .i64 q))=setCells cs off ys:=by
      rw [B8,oh,<- ec,<- ey]
     rw [Wu] at h
     have hone:qv ys=true:=by
      rw [ey];exact Tw ms
     refine ⟨_,⟨fun p m6=>by simp at m6;subst m6;rw [he];simp,?_⟩,rfl,h⟩
     intro aC W ρ Kn Γ w _ hk kI _ hst
     have dw:Γ n=some (.cells cs e):=by rw [kI n (by simp),he]
     obtain ⟨b,hb,hh⟩:=hst.at_ n _ dw
     have hrun:=core hys hsz hone hb hh hl (qh hb)
     refine ⟨ρ,_,hrun,fun _ _=>rfl,fun a ha=>absurd ha (by simp),?_⟩
     rw [jN,mZ _ _ _ _ _ _ rfl]
     refine hst.write dw hb (fun c hc=> ?_) (fun _ h=>by cases h) fun _=>⟨b,hb,by rw [setRow_heap _ _ _ _ _ _ hh]⟩
     rcases vV hl hc with h1|h1
     ·exact (hst.kn n _ dw).2 c h1
     ·exact AV.CI hys hk.2 c h1
    ·exact h.elim
   ·exact h.elim
  ·exact h.elim
 ·rename_i n j q ys hys
  exact MH hT ht (by unfold tD;rw [hys];exact h)
 ·rename_i n j q ys hys
  exact MH hT ht (af6 (by unfold tD;rw [hys];exact h))
 ·exact h.elim
theorem MO (Kn:Nat->Prop):aH.ok Kn:=fun a ha=>absurd ha (by simp)
theorem B4 (cs:List Cell) (e:TypeId) (v:AV) (Ht:(Nat->Prop)->Prop) (f:Env->Sem Value) (hok: ∀Kn,Ht Kn-> ∀c∈cs,c.ok Kn)
  (hv: ∀Kn,v.ok (YY Kn nm)) (hf: ∀(ρ:Env) (w:World),(f ρ).run P w= .ok (v.af (b9 ρ nm {bR:=some w.heap.size})) (w.alloc (.cells (cs.map (Cell.af ρ)).toArray e (0,0)))):
  aS P ctx.X hp nm Ht f (fun ρ=>v.af ρ) {val:=v,fresh:= [.cells cs e]} :=by
 refine ⟨fun p hp=>absurd hp (by simp),?_⟩
 intro aC W ρ Kn Γ w _ hk _ hfr hst
 have hn: ¬Kn nm:=by simpa using hfr 0 (by simp)
 refine ⟨b9 ρ nm {bR:=some w.heap.size},_,hf ρ w,pc hn,?_,?_⟩
 ·rw [Df];exact hv Kn
 ·rw [Df,ac0];exact hst.alloc hn (hok Kn hk)
theorem DC (ρ:Env) (w:World) (off:Nat):(AV.v (.one (.ptr nm off))).af (b9 ρ nm {bR:=some w.heap.size})= .pointer (some ⟨w.heap.size,off,none⟩):=by
 simp [AV.af,A0.af,Cell.af,addrOf,b9]
theorem Z6 (hT:aW P ctx.tt) {t:TypeId} {i:TI} (ht:aJ ctx.tt t=some i):
  aS P ctx.X hp nm (fun _=>True) (fun _=>Instr.alloc t true (.tuple #[])) (fun ρ=>(AV.v (.one (.ptr nm 0))).af ρ) {val:= .v (.one (.ptr nm 0)),fresh:= [.cells (kj i.zero) t]} :=by
 refine B4 _ _ _ _ _ (fun _ _=>So _ _) (fun _=> .inr rfl) fun ρ w=> ?_
 rw [DC]
 simp [Instr.alloc,hT.z ht,newVar,newRow,kj,-List.map_map,Jk]
theorem agK {t:TypeId} {x:AV} {xs:List Cell} (hx:x.cells=some xs):
  aS P ctx.X hp nm (fun Kn=>x.ok Kn) (fun ρ=>Instr.box t (x.af ρ)) (fun ρ=>(AV.v (.one (.ptr nm 0))).af ρ) {val:= .v (.one (.ptr nm 0)),fresh:= [.cells xs t]} :=by
 refine B4 _ _ _ _ _ (fun Kn hk=>AV.CI hx hk) (fun _=> .inr rfl) fun ρ w=> ?_
 rw [DC]
 simp [Instr.box,newVar,newRow,AV.kS hx]
end
end Go.Ev
