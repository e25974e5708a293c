/- A region that draws its order: whatever order the edges allow comes to what the text's order comes to. -/
import Derived.Test.YtngdehlpoomaiaaGreatEvF
noncomputable section
set_option linter.unusedSectionVars false
set_option linter.unusedVariables false
set_option linter.unusedSimpArgs false
namespace Go.Ev
open Go.RowKit
def nk (all:Array Oper) (o:Oper) (st:AS) (b:Bool):Prop:=match o.guard with
 |none=>b=true
 |some (j,want)=> ∃d,xw all j=some d/\ ((∃x,bY st.tmps d=bG x/\ (x==want)=b)\/ (bY st.tmps d= .pT []/\ b=false))
def oG (o:Oper) (st:AS):Option Rec->AS
 |some r=>st.app o.dst r
 |none=> {st with tmps:=j8 st.tmps o.dst ck}
def LP (o:Oper) (st:AS):Option Rec->gD
 |some r=>P6 o.op (cE st.tmps) st.heap.length r
 |none=>nD st.heap.length
def pC:List Oper->AS->List (Option Rec)->AS
 |o::l,st,r::tr=>pC l (oG o st r) tr
 |_,st,_=>st
def mJ:List Oper->AS->List (Option Rec)->List gD
 |o::l,st,r::tr=>LP o st r::mJ l (oG o st r) tr
 |_,_,_=> []
section
variable {P:Program} {ctx:Ctx}
def abz (P:Program) (X:Addr->Value->Prop) (all:Array Oper) (o:Oper) (st:AS):Option Rec->Prop
 | some r=>nk all o st true/\ (∀x∈o.op.operands,cE st.tmps x≠ .dead)/\ bO P X o (cE st.tmps) (ai st.heap) st.heap.length r/\
   ∀n q,eH o.op (cE st.tmps) r.val=some (n,q)-> ∀Γ:HP,q.hit (Γ n)=true->bO P X o (cE st.tmps) Γ st.heap.length r
 |none=>nk all o st false
def FR (P:Program) (X:Addr->Value->Prop) (all:Array Oper):List Oper->AS->List (Option Rec)->Prop
 |o::l,st,r::tr=>abz P X all o st r/\ FR P X all l (oG o st r) tr
 |_,_,_=>True
theorem ajn {o:Oper} {ev:Operand->AV} {hp:HP} {nm:Nat} {k:Rec->Prop} (hT:di P ctx.tt) (hS:RX P ctx) (h:JY ctx o.op ev hp nm k):
  ∃r,bO P ctx.X o ev hp nm r/\ k r/\ ∀n q,eH o.op ev r.val=some (n,q)-> ∀Γ:HP,q.hit (Γ n)=true->bO P ctx.X o ev Γ nm r:=by
 have plain:(∀v,eH o.op ev v=none)-> ∃r,bO P ctx.X o ev hp nm r/\ k r/\ ∀n q,eH o.op ev r.val=some (n,q)-> ∀Γ:HP,q.hit (Γ n)=true->bO P ctx.X o ev Γ nm r:=fun hn=>by
  obtain ⟨r,h1,h2⟩:=JZ hT hS h
  exact ⟨r,h1,h2,fun n q hq=>by rw [hn] at hq;cases hq⟩
 have at_: ∀(r:Rec) (Γ:HP),JY ctx o.op ev Γ nm (fun r'=>r'=r)->bO P ctx.X o ev Γ nm r:=fun r Γ h=>by
  obtain ⟨r',h1,rfl⟩:=JZ hT hS h
  exact h1
 have Se: ∀ {q:Kl} {x:Option aD},q.hit x=true-> ∃cs e,x=some (.cells cs e)/\ ∀off m,q= .full off m->cs[off]? =some (.full m):=fun {q x} hq=>by
  unfold Kl.hit at hq
  split at hq
  ·exact ⟨_,_,rfl,fun _ _ e=>by cases e⟩
  ·split at hq
   ·rename_i hc
    refine ⟨_,_,rfl,fun off m e=> ?_⟩
    cases e
    rw [hc,Nat.eq_of_beq_eq_true hq]
   ·cases hq
  ·cases hq
 suffices H: ∀op,o.op=op-> ∃r,bO P ctx.X o ev hp nm r/\ k r/\ ∀n q,eH o.op ev r.val=some (n,q)-> ∀Γ:HP,q.hit (Γ n)=true->bO P ctx.X o ev Γ nm r from H _ rfl
 intro op hop
 cases op with
 |load t x=>
  cases ny:ev x with
  |v a=>cases a with
   |one c=>cases c with
    |ptr n off=>
     rw [hop] at h
     simp only [JY,ny] at h
     split at h
     rotate_left
     ·exact h.elim
     rename_i i hi
     simp only [rW] at h
     split at h
     rotate_left
     ·exact h.elim
     rename_i cs e hn
     unfold DD at h
     split at h
     ·rename_i ha
      split at h
      ·rename_i hl
       refine ⟨_,at_ _ hp ?_,h,fun n' q hq=> ?_⟩
       ·rw [hop];simp only [JY,ny,hi,Bool.false_eq_true,if_false,rW,hn,DD,ha,if_true,hl]
       ·simp only [hop,eH,ny] at hq;cases hq
      ·exact h.elim
     ·rename_i ha
      split at h
      rotate_left
      ·exact h.elim
      rename_i c hc
      refine ⟨_,at_ _ hp ?_,h,fun n' q hq Γ hh=> ?_⟩
      ·rw [hop];simp only [JY,ny,hi,Bool.false_eq_true,if_false,rW,hn,DD,ha,hc]
      ·simp only [hop,eH,ny] at hq
       split at hq
       ·rename_i he1 Pr
        cases he1
        cases Pr
        cases hq
        obtain ⟨cs',e',g1,g2⟩:=Se hh
        refine at_ _ Γ ?_
        rw [hop];simp only [JY,ny,hi,Bool.false_eq_true,if_false,rW,g1,DD,ha,g2 _ _ rfl]
       ·cases hq
    |_=>exact plain fun v=>by simp only [hop,eH,ny]
   |agg cs=>exact plain fun v=>by simp only [hop,eH,ny]
  |_=>exact plain fun v=>by simp only [hop,eH,ny]
 |fieldAddr t x f=>
  cases ny:ev x with
  |v a=>cases a with
   |one c=>cases c with
    |ptr n off=>
     rw [hop] at h
     simp only [JY,ny] at h
     split at h
     rotate_left
     ·exact h.elim
     rename_i i hi
     unfold mU at h
     split at h
     rotate_left
     ·exact h.elim
     rename_i fs hf
     split at h
     rotate_left
     ·exact h.elim
     rename_i fd hfd
     split at h
     rotate_left
     ·exact h.elim
     rename_i fi SL
     split at h
     ·exact h.elim
     rename_i hz
     simp only [dX] at h
     split at h
     rotate_left
     ·exact h.elim
     rename_i cs e hn
     refine ⟨_,at_ _ hp ?_,h,fun n' q hq Γ hh=> ?_⟩
     ·rw [hop];simp only [JY,ny,hi,mU,hf,hfd,SL,hz,if_false,dX,hn]
     ·simp only [hop,eH,ny,Option.some.injEq,Prod.mk.injEq] at hq
      obtain ⟨rfl,rfl⟩:=hq
      obtain ⟨cs',e',g1,_⟩:=Se hh
      refine at_ _ Γ ?_
      rw [hop];simp only [JY,ny,hi,mU,hf,hfd,SL,hz,if_false,dX,g1]
    |_=>exact plain fun v=>by simp only [hop,eH,ny]
   |agg cs=>exact plain fun v=>by simp only [hop,eH,ny]
  |_=>exact plain fun v=>by simp only [hop,eH,ny]
 |nilCheck x=>
  cases ny:ev x with
  |v a=>cases a with
   |one c=>cases c with
    |ptr n off=>
     rw [hop] at h
     simp only [JY,ny,dX] at h
     split at h
     rotate_left
     ·exact h.elim
     rename_i cs e hn
     refine ⟨_,at_ _ hp ?_,h,fun n' q hq Γ hh=> ?_⟩
     ·rw [hop];simp only [JY,ny,dX,hn]
     ·simp only [hop,eH,ny,Option.some.injEq,Prod.mk.injEq] at hq
      obtain ⟨rfl,rfl⟩:=hq
      obtain ⟨cs',e',g1,_⟩:=Se hh
      refine at_ _ Γ ?_
      rw [hop];simp only [JY,ny,dX,g1]
    |_=>exact plain fun v=>by simp only [hop,eH,ny]
   |agg cs=>exact plain fun v=>by simp only [hop,eH,ny]
  |_=>exact plain fun v=>by simp only [hop,eH,ny]
 |_=>exact plain fun v=>by simp only [hop,eH]
theorem vz (hT:di P ctx.tt) (hS:RX P ctx) (all:Array Oper): ∀(l:List Oper) (dec:List Nat) (st:AS) (lg:List gD) (K:AS->List gD->Prop),oM ctx all l dec st lg K->
  ∃tr:List (Option Rec),tr.length=l.length/\ FR P ctx.X all l st tr/\ K (pC l st tr) (lg++mJ l st tr)
 | [],dec,st,lg,K,h=>⟨[],rfl,trivial,by have h:K st lg:=h;simpa [pC,mJ] using h⟩
 |o::rest,dec,st,lg,K,h=>by
  have exec: ∀KX,nk all o st true->sG ctx o.op st (fun r=>oM ctx all rest KX (st.app o.dst r) (lg++ [P6 o.op (cE st.tmps) st.heap.length r]) K)->
    ∃tr:List (Option Rec),tr.length=(o::rest).length/\ FR P ctx.X all (o::rest) st tr/\ K (pC (o::rest) st tr) (lg++mJ (o::rest) st tr):=by
   intro KX hg h
   obtain ⟨ja,h⟩:=CM h
   obtain ⟨r,hl,hk,hlk⟩:=ajn hT hS h
   obtain ⟨tr,h1,h2,h3⟩:=vz hT hS all rest KX _ _ K hk
   exact ⟨some r::tr,by simp [h1],⟨⟨hg,ja,hl,hlk⟩,h2⟩,by simpa [pC,mJ,oG,LP] using h3⟩
  have skip: ∀KX,nk all o st false->oM ctx all rest KX {st with tmps:=j8 st.tmps o.dst ck} (lg++ [nD st.heap.length]) K->
    ∃tr:List (Option Rec),tr.length=(o::rest).length/\ FR P ctx.X all (o::rest) st tr/\ K (pC (o::rest) st tr) (lg++mJ (o::rest) st tr):=by
   intro KX hg h
   obtain ⟨tr,h1,h2,h3⟩:=vz hT hS all rest KX _ _ K h
   exact ⟨none::tr,by simp [h1],⟨hg,h2⟩,by simpa [pC,mJ,oG,LP] using h3⟩
  unfold oM at h
  split at h
  ·rename_i hg
   exact exec dec (by simp [nk,hg]) h
  ·rename_i j want hg
   split at h
   ·rename_i d hd
    split at h
    ·rename_i x hx
     have G: ∀b,(x==want)=b->nk all o st b:=fun b hb=>by simp only [nk,hg];exact ⟨d,hd,.inl ⟨x,hx,hb⟩⟩
     split at h
     ·split at h
      ·rename_i e;exact exec dec (G true (by simp [e])) h
      ·rename_i e;exact skip dec (G false (by simpa using e)) h
     ·cases want with
      |true=>
       dsimp only at h
       cases x with
       |true=>
        have h:sG ctx o.op {st with tmps:=st.tmps.set d (bG true)} _:=h
        rw [oE hx] at h
        exact exec _ (G true rfl) h
       |false=>
        have h:oM ctx all rest (d::dec) {st with tmps:=j8 (st.tmps.set d (bG false)) o.dst ck} (lg++ [nD st.heap.length]) K:=h
        rw [oE hx] at h
        exact skip _ (G false rfl) h
      |false=>
       dsimp only at h
       cases x with
       |false=>
        have h:sG ctx o.op {st with tmps:=st.tmps.set d (bG false)} _:=h
        rw [oE hx] at h
        exact exec _ (G true rfl) h
       |true=>
        have h:oM ctx all rest (d::dec) {st with tmps:=j8 (st.tmps.set d (bG true)) o.dst ck} (lg++ [nD st.heap.length]) K:=h
        rw [oE hx] at h
        exact skip _ (G false rfl) h
    ·rename_i hx
     exact skip dec (by simp only [nk,hg];exact ⟨d,hd,.inr ⟨hx,trivial⟩⟩) h
    ·exact h.elim
   ·exact h.elim
theorem Yj {X:Addr->Value->Prop} {all:Array Oper} : ∀(l:List Oper) (st:AS) (tr:List (Option Rec)) (i:Nat) (o:Oper) (r:Option Rec),FR P X all l st tr->l[i]? =some o->tr[i]? =some r->
  abz P X all o (pC (l.take i) st (tr.take i)) r/\ pC (l.take (i+1)) st (tr.take (i+1))=oG o (pC (l.take i) st (tr.take i)) r/\
  (mJ l st tr)[i]? =some (LP o (pC (l.take i) st (tr.take i)) r)
 |o'::l,st,r'::tr,0,o,r,h,ho,hr=>by
  simp at ho hr;subst ho;subst hr
  exact ⟨by simpa [pC] using h.1,by simp [pC],by simp [mJ,pC]⟩
 |o'::l,st,r'::tr,i+1,o,r,h,ho,hr=>by
  have:=Yj l (oG o' st r') tr i o r h.2 (by simpa using ho) (by simpa using hr)
  simpa [pC,mJ] using this
 | [],_,_,_,_,_,_,ho,_=>by simp at ho
 |_::_,_,[],_,_,_,_,_,hr=>by simp at hr
end
inductive Dep (ops:List Oper):Nat->Nat->Prop
 |edge {i j:Nat} {o:Oper} :ops[i]? =some o->j∈direct o->Dep ops i j
 |trans {i j k:Nat} {o:Oper} :ops[i]? =some o->k∈direct o->Dep ops k j->Dep ops i j
theorem Vw (acc:List Nat): ∀(ds:List Nat) (s j:Nat),(ds.foldl (fun s j=>s|||(2^j|||acc.getD j 0)) s).testBit j=true->s.testBit j=true\/ ∃k∈ds,j=k\/ (acc.getD k 0).testBit j=true
 | [],s,j,h=> .inl h
 |d::r,s,j,h=>by
  rcases Vw acc r _ j h with h1|⟨k,hk,h1⟩
  ·rw [Nat.testBit_or,Nat.testBit_or,Bool.or_eq_true,Bool.or_eq_true] at h1
   rcases h1 with h1|h1|h1
   ·exact .inl h1
   ·rw [Nat.testBit_two_pow] at h1
    exact .inr ⟨d,by simp,.inl (by simpa using (of_decide_eq_true h1).symm)⟩
   ·exact .inr ⟨d,by simp,.inr h1⟩
  ·exact .inr ⟨k,by simp [hk],h1⟩
theorem LV (ops:List Oper): ∀(l pre:List Oper) (acc:List Nat),ops=pre++l->acc.length=pre.length->(∀i j,(acc.getD i 0).testBit j=true->Dep ops i j)->
  ∀i j,((masks l acc).getD i 0).testBit j=true->Dep ops i j
 | [],pre,acc,_,_,h,i,j,hb=>h i j hb
 |o::l,pre,acc,he,hl,h,i,j,hb=>by
  refine LV ops l (pre++ [o]) _ (by simp [he]) (by simp [hl]) (fun i j hb=> ?_) i j hb
  simp only [List.getD,List.getElem?_append] at hb
  split at hb
  ·exact h i j hb
  ·rename_i hi
   by_cases e:i=pre.length
   ·subst e
    rw [hl,Nat.sub_self] at hb
    simp only [List.getElem?_cons_zero,Option.getD_some] at hb
    have ho:ops[pre.length]? =some o:=by rw [he];simp
    rcases Vw acc _ _ _ hb with h1|⟨k,hk,h1⟩
    ·simp at h1
    ·rcases h1 with rfl|h1
     ·exact .edge ho hk
     ·exact .trans ho hk (h k j h1)
   ·rw [List.getElem?_eq_none (by simp;omega)] at hb
    simp at hb
structure FS where
 T:Nat->AV
 G:HP
 Kn:Nat->Prop
theorem FS.ext' {a b:FS} (h1: ∀t,a.T t=b.T t) (h2: ∀m,a.G m=b.G m) (h3: ∀m,a.Kn m↔b.Kn m):a=b:=by
 obtain ⟨T,G,K⟩:=a
 obtain ⟨T',G',K'⟩:=b
 have e1:T=T':=funext h1
 have e2:G=G':=funext h2
 have e3:K=K':=funext fun m=>propext (h3 m)
 rw [e1,e2,e3]
def fR (st:AS):FS:=⟨bY st.tmps,ai st.heap,(· <st.heap.length)⟩
def Ox (N:Nat) (o:Oper) (nm:Nat):Option Rec->FS->FS
 |some r,s=>⟨fun t=>if o.dst=some t/\ t<N then r.val else s.T t,bV r nm s.G,oI s.Kn nm r⟩
 |none,s=>⟨fun t=>if o.dst=some t/\ t<N then ck else s.T t,s.G,s.Kn⟩
theorem aiQ (d t N:Nat) (v w:AV):(if d=t/\ t<N then v else w)=if t=d/\ d<N then v else w:=by
 by_cases e:d=t
 ·subst e;simp
 ·rw [if_neg (fun h=>e h.1),if_neg (fun h=>e h.1.symm)]
theorem ajo {N:Nat} {o:Oper} {st:AS} (hN:st.tmps.length=N): ∀(r:Option Rec),(∀q,r=some q-> ∀p∈q.writes,ai st.heap p.1≠none)->Ox N o st.heap.length r (fR st)=fR (oG o st r)
 |some r,h=>by
  refine FS.ext' (fun t=> ?_) (fun m=> ?_) (fun m=> ?_)
  ·simp only [Ox,fR,oG,AS.app,lq]
   cases o.dst with
   |none=>simp
   |some d=>simp only [Option.some.injEq,hN];exact aiQ d t N _ _
  ·simp only [Ox,fR,oG];rw [UT st o.dst r (h r rfl)]
  ·simp only [Ox,fR,oG,oI,oJ];omega
 |none,h=>by
  refine FS.ext' (fun t=> ?_) (fun m=>rfl) (fun m=>Iff.rfl)
  simp only [Ox,fR,oG,lq]
  cases o.dst with
  |none=>simp
  |some d=>simp only [Option.some.injEq,hN];exact aiQ d t N _ _
def covers (nm:Nat) (r:Option Rec) (m:Nat):Prop:=match r with
 |some r=>nm<=m/\ m<nm+r.fresh.length
 |none=>False
def wH:Option Rec->List Nat
 |some r=>r.writes.map (·.1)
 |none=> []
def J9:Option Rec->List Nat
 |some r=>r.aF
 |none=> []
theorem ZN {ws:List (Nat×aD)} {m:Nat} (h:m∉ws.map (·.1)):cm ws m=none:=by
 induction ws with
 |nil=>rfl
 |cons p r ih=>
  simp only [List.map_cons,List.mem_cons,not_or] at h
  simp only [cm,ih h.2]
  rw [if_neg (fun e=>h.1 e.symm)]
theorem asU {N nm:Nat} {o:Oper} {r:Option Rec} {s s':FS} {m:Nat} (h:s.G m=s'.G m):(Ox N o nm r s).G m=(Ox N o nm r s').G m:=by
 cases r with
 |none=>exact h
 |some r=>simp only [Ox,bV,h]
theorem afb {N nm:Nat} {o:Oper} {r:Option Rec} {s:FS} {m:Nat} (h1: ¬covers nm r m) (h2:m∉wH r):(Ox N o nm r s).G m=s.G m:=by
 cases r with
 |none=>rfl
 |some r=>
  have h1: ¬(nm<=m/\ m<nm+r.fresh.length):=h1
  have h2:m∉r.writes.map (·.1):=h2
  simp only [Ox,bV];rw [if_neg h1,ZN h2]
section
variable (N:Nat) (ops:List Oper) (tr:List (Option Rec)) (aZ:AS)
def wZ (i:Nat):AS:=pC (ops.take i) aZ (tr.take i)
def gK (i:Nat) (s:FS):FS:=match ops[i]?,tr[i]? with
 |some o,some r=>Ox N o (wZ ops tr aZ i).heap.length r s
 |_,_=>s
def part (L:Nat->Bool) (is:List Nat) (s:FS):FS:=is.foldl (fun s i=>if L i then gK N ops tr aZ i s else s) s
def Jh (i:Nat):Option Nat:=(ops[i]?).bind (·.dst)
def dJ (i:Nat):Option Rec:=(tr[i]?).join
def FO (i:Nat):Nat:=(wZ ops tr aZ i).heap.length
end
section
variable {N:Nat} {ops:List Oper} {tr:List (Option Rec)} {aZ:AS}
theorem akm {i t:Nat} {s s':FS} (h:s.T t=s'.T t):(gK N ops tr aZ i s).T t=(gK N ops tr aZ i s').T t:=by
 unfold gK;split
 ·rename_i o r _ _
  cases r<;>simp only [Ox,h]
 ·exact h
theorem uI {i t:Nat} {s:FS} (h:Jh ops i≠some t):(gK N ops tr aZ i s).T t=s.T t:=by
 unfold gK;split
 ·rename_i o r ho _
  have:o.dst≠some t:=by simpa [Jh,ho] using h
  cases r<;>simp only [Ox]<;>rw [if_neg (fun e=>this e.1)]
 ·rfl
theorem akl {i m:Nat} {s s':FS} (h:s.G m=s'.G m):(gK N ops tr aZ i s).G m=(gK N ops tr aZ i s').G m:=by
 unfold gK;split
 ·exact asU h
 ·exact h
theorem uH {i m:Nat} {s:FS} (h1: ¬covers (FO ops tr aZ i) (dJ tr i) m) (h2:m∉wH (dJ tr i)):(gK N ops tr aZ i s).G m=s.G m:=by
 unfold gK;split
 ·rename_i o r _ hr
  have e:dJ tr i=r:=by simp [dJ,hr]
  rw [e] at h1 h2
  exact afb h1 h2
 ·rfl
theorem Nz {i m:Nat} {s:FS} (hi:i<ops.length):(gK N ops tr aZ i s).Kn m↔s.Kn m\/ covers (FO ops tr aZ i) (dJ tr i) m:=by
 unfold gK;split
 ·rename_i o r _ hr
  have e:dJ tr i=r:=by simp [dJ,hr]
  rw [e]
  cases r with
  |none=>simp [Ox,covers]
  |some r=>exact Iff.rfl
 ·rename_i hh
  have:tr[i]? =none:=by
   cases hr:tr[i]? with
   |none=>rfl
   |some r=>exact (hh _ r (List.getElem?_eq_getElem hi) hr).elim
  simp [dJ,this,covers]
theorem L6 {L L':Nat->Bool} {t:Nat} : ∀(is:List Nat) (s s':FS),s.T t=s'.T t->(∀i∈is,Jh ops i=some t->L i=L' i)->(part N ops tr aZ L is s).T t=(part N ops tr aZ L' is s').T t
 | [],s,s',h,_=>h
 |i::r,s,s',h,hl=>by
  refine L6 r _ _ ?_ (fun j hj=>hl j (by simp [hj]))
  by_cases e:Jh ops i=some t
  ·dsimp only
   rw [hl i (by simp) e]
   split
   ·exact akm h
   ·exact h
  ·have h1: ∀(b:Bool) (s:FS),(if b then gK N ops tr aZ i s else s).T t=s.T t:=fun b s=>by
    cases b
    ·rfl
    ·exact uI e
   rw [h1,h1];exact h
theorem Tm {L L':Nat->Bool} {m:Nat} : ∀(is:List Nat) (s s':FS),s.G m=s'.G m->(∀i∈is,(covers (FO ops tr aZ i) (dJ tr i) m\/ m∈wH (dJ tr i))->L i=L' i)->(part N ops tr aZ L is s).G m=(part N ops tr aZ L' is s').G m
 | [],s,s',h,_=>h
 |i::r,s,s',h,hl=>by
  refine Tm r _ _ ?_ (fun j hj=>hl j (by simp [hj]))
  by_cases e:covers (FO ops tr aZ i) (dJ tr i) m\/ m∈wH (dJ tr i)
  ·dsimp only
   rw [hl i (by simp) e]
   split
   ·exact akl h
   ·exact h
  ·have h1: ∀(b:Bool) (s:FS),(if b then gK N ops tr aZ i s else s).G m=s.G m:=fun b s=>by
    cases b
    ·rfl
    ·exact uH (fun c=>e (.inl c)) (fun c=>e (.inr c))
   rw [h1,h1];exact h
theorem DR {L:Nat->Bool} {m:Nat} : ∀(is:List Nat) (s:FS),(∀i∈is,i<ops.length)->((part N ops tr aZ L is s).Kn m↔s.Kn m\/ ∃i∈is,L i=true/\ covers (FO ops tr aZ i) (dJ tr i) m)
 | [],s,_=>by simp [part]
 |i::r,s,hi=>by
  show (part N ops tr aZ L r _).Kn m↔_
  rw [DR r _ (fun j hj=>hi j (by simp [hj]))]
  dsimp only
  by_cases e:L i=true
  ·rw [if_pos e,Nz (hi i (by simp))]
   constructor
   ·rintro ((h|h)|⟨j,hj,h⟩)
    ·exact .inl h
    ·exact .inr ⟨i,by simp,e,h⟩
    ·exact .inr ⟨j,by simp [hj],h⟩
   ·rintro (h|⟨j,hj,h⟩)
    ·exact .inl (.inl h)
    ·rcases List.mem_cons.1 hj with rfl|hj
     ·exact .inl (.inr h.2)
     ·exact .inr ⟨j,hj,h⟩
  ·rw [if_neg e]
   constructor
   ·rintro (h|⟨j,hj,h⟩)
    ·exact .inl h
    ·exact .inr ⟨j,by simp [hj],h⟩
   ·rintro (h|⟨j,hj,h⟩)
    ·exact .inl h
    ·rcases List.mem_cons.1 hj with rfl|hj
     ·exact absurd h.1 e
     ·exact .inr ⟨j,hj,h⟩
structure agy (ops:List Oper) (tr:List (Option Rec)) (aZ:AS) (i j:Nat):Prop where
 dst: ∀d,Jh ops i=some d->Jh ops j≠some d
 wr: ∀m,m∈wH (dJ tr i)->m∉wH (dJ tr j)
 fr: ∀m,covers (FO ops tr aZ i) (dJ tr i) m-> ¬covers (FO ops tr aZ j) (dJ tr j) m
 wf: ∀m,m∈wH (dJ tr i)-> ¬covers (FO ops tr aZ j) (dJ tr j) m
 fw: ∀m,m∈wH (dJ tr j)-> ¬covers (FO ops tr aZ i) (dJ tr i) m
theorem akn {i j:Nat} (h:agy ops tr aZ i j) (hi:i<ops.length) (hj:j<ops.length) (s:FS):gK N ops tr aZ j (gK N ops tr aZ i s)=gK N ops tr aZ i (gK N ops tr aZ j s):=by
 refine FS.ext' (fun t=> ?_) (fun m=> ?_) (fun m=> ?_)
 ·by_cases e:Jh ops i=some t
  ·rw [uI (h.dst t e)]
   exact akm (uI (h.dst t e)).symm
  ·rw [uI (i:=i) e]
   exact akm (uI e)
 ·by_cases e:covers (FO ops tr aZ i) (dJ tr i) m∨m∈wH (dJ tr i)
  ·have e2: ¬covers (FO ops tr aZ j) (dJ tr j) m:=e.elim (h.fr m) (h.wf m)
   have e3:m∉wH (dJ tr j):=fun hm=>e.elim (h.fw m hm) (fun hi=>h.wr m hi hm)
   rw [uH e2 e3]
   exact akl (uH e2 e3).symm
  ·have e2: ¬covers (FO ops tr aZ i) (dJ tr i) m:=fun c=>e (.inl c)
   have e3:m∉wH (dJ tr i):=fun c=>e (.inr c)
   rw [uH (i:=i) e2 e3]
   exact akl (uH e2 e3)
 ·rw [Nz hj,Nz hi,Nz hi,Nz hj]
  constructor
  ·rintro ((h|h)|h)
   ·exact .inl (.inl h)
   ·exact .inr h
   ·exact .inl (.inr h)
  ·rintro ((h|h)|h)
   ·exact .inl (.inl h)
   ·exact .inr h
   ·exact .inl (.inr h)
theorem Qj {L:Nat->Bool} {i:Nat} (hi:i<ops.length): ∀(is:List Nat) (s:FS),(∀j∈is,j<ops.length)->(∀j∈is,L j=true->agy ops tr aZ i j)->part N ops tr aZ L is (gK N ops tr aZ i s)=gK N ops tr aZ i (part N ops tr aZ L is s)
 | [],s,_,_=>rfl
 |j::r,s,hlt,h=>by
  show part N ops tr aZ L r _=gK N ops tr aZ i (part N ops tr aZ L r _)
  rw [<- Qj hi r _ (fun k hk=>hlt k (by simp [hk])) (fun k hk=>h k (by simp [hk]))]
  congr 1
  dsimp only
  by_cases e:L j=true
  ·rw [if_pos e,if_pos e,akn (h j (by simp) e) hi (hlt j (by simp))]
  ·rw [if_neg e,if_neg e]
theorem ajr {L:Nat->Bool} {n i:Nat} (hn:n<=ops.length) (hi:i<n) (hL:L i=false) (h: ∀j,j<n->i<j->L j=true->agy ops tr aZ i j) (s:FS):
  part N ops tr aZ (fun j=>L j||j==i) (List.range n) s=gK N ops tr aZ i (part N ops tr aZ L (List.range n) s):=by
 have e:List.range n=List.range i++i::List.range' (i+1) (n- (i+1)):=by
  have e1:=List.range'_append_1 (s:=0) (m:=i) (n:=n- (i+1)+1)
  rw [List.range_eq_range',List.range_eq_range',<- List.range'_succ]
  rw [Nat.zero_add] at e1
  rw [e1];congr 1;omega
 have arX: ∀(L:Nat->Bool) (s:FS),part N ops tr aZ L (List.range n) s=part N ops tr aZ L (List.range' (i+1) (n- (i+1))) (if L i then gK N ops tr aZ i (part N ops tr aZ L (List.range i) s) else part N ops tr aZ L (List.range i) s):=by
  intro L s;rw [e];simp [part,List.foldl_append]
 rw [arX,arX]
 have hsame: ∀(is:List Nat) (s:FS),(∀j∈is,j≠i)->part N ops tr aZ (fun j=>L j||j==i) is s=part N ops tr aZ L is s:=by
  intro is
  induction is with
  |nil=>intro s _;rfl
  |cons j r ih=>
   intro s hj
   show part N ops tr aZ _ r _=part N ops tr aZ L r _
   have:(j==i)=false:=by simpa using hj j (by simp)
   simp only [this,Bool.or_false]
   exact ih _ (fun k hk=>hj k (by simp [hk]))
 rw [hsame _ _ (fun j hj=>by have:=List.mem_range'_1.1 hj;omega),hsame _ _ (fun j hj=>by have:=List.mem_range.1 hj;omega)]
 simp only [hL,Bool.false_or,beq_self_eq_true,if_true,Bool.false_eq_true,if_false]
 exact Qj (by omega) _ _ (fun j hj=>by have:=List.mem_range'_1.1 hj;omega) (fun j hj hl=>by have:=List.mem_range'_1.1 hj;exact h j (by omega) (by omega) hl)
end
section
variable {P:Program} {ctx:Ctx} {av:fG} {W:World} {df:List Deferred}
theorem Dep.closed {ops:List Oper} {L:Nat->Prop} (hL: ∀i o,L i->ops[i]? =some o-> ∀j∈direct o,L j) {i j:Nat} (h:Dep ops i j):L i->L j:=by
 induction h with
 |edge ho hj=>intro h;exact hL _ _ h ho _ hj
 |trans ho hk _ ih=>intro h;exact ih (hL _ _ h ho _ hk)
theorem Dep.ae8 {ops:List Oper} {L:Nat->Prop} (hL: ∀i o,L i->ops[i]? =some o-> ∀j∈direct o,L j) {i j:Nat} {o:Oper} (ho:ops[i]? =some o) (hd: ∀j∈direct o,L j) (h:Dep ops i j):L j:=by
 cases h with
 |edge FN hj=>rw [ho] at FN;cases FN;exact hd _ hj
 |trans FN hk h'=>rw [ho] at FN;cases FN;exact h'.closed hL (hd _ hk)
theorem af6 (o:Oper) (st:AS) (r:Option Rec):(oG o st r).tmps.length=st.tmps.length:=by
 cases r<;>simp [oG,AS.app,s9]
theorem aa9 (o:Oper) (st:AS) (r:Option Rec):(oG o st r).heap.length=st.heap.length+(match r with|some r=>r.fresh.length|none=>0):=by
 cases r<;>simp [oG,AS.app,dN]
theorem LW {x:Nat} : ∀ {l:List Nat},Ce x l=true↔x∈l
 | []=>by simp [Ce]
 |y::r=>by simp [Ce,LW (l:=r),Nat.beq_eq]
theorem Td {x:Nat} {l:List Nat} :Ce x l=l.contains x:=by
 rw [Bool.eq_iff_iff,LW];simp
theorem ads: ∀ {a b:List Nat},anC a b=a.all fun m=>b.contains m
 | [],_=>rfl
 |x::r,b=>by simp only [anC,List.all_cons,ads (a:=r),Td]
theorem abR: ∀ {a b:List Nat},ry a b=Pc a b
 | [],_=>rfl
 |x::r,b=>by
  have:=abR (a:=r) (b:=b)
  unfold Pc at this ⊢
  simp only [ry,List.all_cons,this,Td]
theorem P8: ∀(l:List Oper) (k:Nat) (acc:List Nat),acc.length=k->(Tb l k acc).reverse=masks l acc.reverse
 | [],k,acc,_=>rfl
 |o::l,k,acc,h=>by
  have h1:=P8 l (k+1) ((direct o).foldl (fun s j=>s|||(2^j|||(bif Nat.blt j k then acc.getD (k- 1- j) 0 else 0))) 0::acc) (by simp [h])
  have e:(fun (s j:Nat)=>s|||(2^j|||(bif Nat.blt j k then acc.getD (k- 1- j) 0 else 0)))=fun s j=>s|||(2^j|||acc.reverse.getD j 0):=by
   funext s j
   rcases Nat.lt_or_ge j k with hj|hj
   ·have hb:Nat.blt j k=true:=by simpa [Nat.blt_eq] using hj
    rw [hb,cond_true,List.getD_eq_getElem?_getD,List.getD_eq_getElem?_getD,List.getElem?_reverse (by omega),h]
   ·have hb:Nat.blt j k=false:=by
     rw [Bool.eq_false_iff];simp only [ne_eq,Nat.blt_eq];omega
    rw [hb,cond_false,List.getD_eq_getElem?_getD,List.getElem?_eq_none (by simp;omega)]
    rfl
  rw [Tb,h1,masks,List.reverse_cons,e]
theorem aqd (ops:Array Oper):msF ops=masks ops.toList []:=P8 _ 0 [] rfl
theorem P9: ∀(l:List Oper) (acc:List Nat),(masks l acc).length=acc.length+l.length
 | [],acc=>rfl
 |o::l,acc=>by rw [masks,P9 l];simp;omega
theorem Ti {all:Array Oper} : ∀(l:List Oper) (ms:List Nat) (i:Nat) (o:Oper) (m:Nat),l[i]? =some o->ms[i]? =some m->(oiL all l ms)[i]? =some ⟨o.dst,lQ all o,m⟩
 | [],_,i,o,m,h,_=>by simp at h
 |_::_,[],i,o,m,_,h=>by simp at h
 |p::l,q::ms,0,o,m,h,h'=>by
  simp only [List.getElem?_cons_zero,Option.some.injEq] at h h'
  subst h;subst h';rfl
 |p::l,q::ms,i+1,o,m,h,h'=>by
  simp only [List.getElem?_cons_succ] at h h'
  exact Ti l ms i o m h h'
theorem Fp {o:OI} : ∀(l:List OI) (j k:Nat),Fo o l j k=true-> ∀(t:Nat) (p:OI),t<k->l[t]? =some p->o.m.testBit (j+t)=true\/ adq o p=true
 | [],j,k,_,t,p,_,h=>by simp at h
 |q::l,j,0,_,t,p,ht,_=>by omega
 |q::l,j,k+1,h,t,p,ht,hp=>by
  simp only [Fo,Bool.and_eq_true,Bool.or_eq_true] at h
  match t,hp with
  |0,hp=>
   simp only [List.getElem?_cons_zero,Option.some.injEq] at hp
   subst hp
   exact h.1
  |t+1,hp=>
   have:=Fp l (j+1) k h.2 t p (by omega) (by simpa using hp)
   rwa [show j+1+t=j+(t+1) by omega] at this
theorem Fk {all:List OI} : ∀(l:List OI) (i:Nat),J6 all l i=true-> ∀(t:Nat) (o:OI),l[t]? =some o->Fo o all 0 (i+t)=true
 | [],i,_,t,o,h=>by simp at h
 |q::l,i,h,t,o,ho=>by
  simp only [J6,Bool.and_eq_true] at h
  match t,ho with
  |0,ho=>
   simp only [List.getElem?_cons_zero,Option.some.injEq] at ho
   subst ho
   exact h.1
  |t+1,ho=>
   have:=Fk l (i+1) h.2 t o (by simpa using ho)
   rwa [show i+1+t=i+(t+1) by omega] at this
theorem Hl: ∀(l:List Oper) (i:Nat),Sq l i=true-> ∀(t:Nat) (o:Oper),l[t]? =some o-> ∀j∈direct o,j<i+t
 | [],i,_,t,o,h=>by simp at h
 |q::l,i,h,t,o,ho=>by
  simp only [Sq,Bool.and_eq_true] at h
  match t,ho with
  |0,ho=>
   simp only [List.getElem?_cons_zero,Option.some.injEq] at ho
   subst ho
   intro j hj
   have:=List.all_eq_true.1 h.1 j hj
   rw [Nat.blt_eq] at this
   exact this
  |t+1,ho=>
   intro j hj
   have:=Hl l (i+1) h.2 t o (by simpa using ho) j hj
   omega
theorem K5: ∀(lg:List gD) (ms:List Nat) (k i:Nat) (l:gD) (m:Nat),lg[i]? =some l->ms[i]? =some m->(l.aF= []/\ l.wr= [])\/ DI.mk (k+i) m l.aF l.wr∈ad3 lg ms k
 | [],_,_,i,_,_,h,_=>by simp at h
 |_::_,[],_,i,_,_,_,h=>by simp at h
 |q::lg,n::ms,k,0,l,m,h,h'=>by
  simp only [List.getElem?_cons_zero,Option.some.injEq] at h h'
  subst h;subst h'
  simp only [ad3]
  split
  ·exact .inl ⟨by assumption,by assumption⟩
  ·exact .inr (by simp)
 |q::lg,n::ms,k,i+1,l,m,h,h'=>by
  simp only [List.getElem?_cons_succ] at h h'
  have:=K5 lg ms (k+1) i l m h h'
  rw [show k+1+i=k+(i+1) by omega] at this
  rcases this with h1|h1
  ·exact .inl h1
  ·refine .inr ?_
   simp only [ad3]
   split
   ·exact h1
   ·exact List.mem_cons_of_mem _ h1
theorem P7 (x:Nat): ∀(lg:List gD) (k:Nat),Ta x (mkL lg k)=(DH lg x).map (· +k)
 | [],k=>rfl
 |l::lg,k=>by
  have ih:=P7 x lg (k+1)
  have e: ∀(b:Bool),(l.nm<=x&&x<l.nm+l.cnt:Bool)=b->DH (l::lg) x=bif b then some 0 else (DH lg x).map (· +1):=fun b hb=>by
   unfold DH
   rw [List.findIdx?_cons]
   simp only [hb]
   cases b<;>rfl
  simp only [mkL]
  split
  ·rename_i hc
   rw [ih,e false (by rw [hc];simp)]
   simp only [cond_false,Option.map_map]
   congr 1
   funext y
   simp only [Function.comp_apply];omega
  ·rename_i c hc
   simp only [Ta]
   have hb:(Nat.ble l.nm x&&Nat.blt x (l.nm+l.cnt))=(l.nm<=x&&x<l.nm+l.cnt:Bool):=by
    rw [Bool.eq_iff_iff];simp [Nat.blt_eq]
   rw [hb,e _ rfl,ih]
   cases (l.nm<=x&&x<l.nm+l.cnt:Bool)
   ·simp only [cond_false,Option.map_map]
    congr 1
    funext y
    simp only [Function.comp_apply];omega
   ·simp
theorem aa8 {all:Array Oper} {o p:Oper} {m n:Nat} (h:adq ⟨o.dst,lQ all o,m⟩ ⟨p.dst,lQ all p,n⟩=true):
  ((match p.dst with|some d=>o.dst !=some d&& !(lQ all o).contains d|none=>true)&&(match o.dst with|some d=> !(lQ all p).contains d|none=>true))=true:=by
 simp only [adq,Bool.and_eq_true,Td] at h ⊢
 refine ⟨?_,?_⟩
 ·have h:=h.1
  cases hp:p.dst with
  |none=>rfl
  |some d=>
   rw [hp] at h
   simp only [Bool.and_eq_true] at h ⊢
   refine ⟨?_,h.2⟩
   have h:=h.1
   cases ho:o.dst with
   |none=>simp
   |some e=>
    rw [ho] at h
    simp only [Bool.not_eq_true',<- Bool.not_eq_true,Nat.beq_eq] at h
    simp [h]
 ·exact h.2
theorem force_eq {α:Type} (n:Nat) (k:Nat->α):force n k=k n:=by cases n<;>rfl
theorem Gb {α:Type} : ∀(l:List Nat) (k:List Nat->α),Lg l k=k l
 | [],_=>rfl
 |x::r,k=>by rw [Lg,force_eq,Gb r]
theorem Lf {α:Type} : ∀(l:List gD) (k:List gD->α),JG l k=k l
 | [],_=>rfl
 |e::r,k=>by rw [JG,force_eq,force_eq,Gb,Gb,Lf r]
theorem Uy: ∀(D:List DI) (o:DI),o∈D->o.w= []\/ o∈wsL D
 | [],_,h=>by cases h
 |p::r,o,h=>by
  rcases List.mem_cons.1 h with rfl|h
  ·cases hw:o.w with
   |nil=>exact .inl rfl
   |cons a l=>refine .inr ?_;rw [wsL,hw];exact List.mem_cons_self ..
  ·rcases Uy r o h with h1|h1
   ·exact .inl h1
   ·refine .inr ?_
    rw [wsL];split
    ·exact h1
    ·exact List.mem_cons_of_mem _ h1
theorem Vm {o p:DI} (ho:o.w= []) (hp:p.w= []):zN o p=true:=by
 simp [zN,ho,hp,ry]
theorem ad4 {D:List DI} {mk:List (Nat×Nat×Nat)} (h:aho D mk=true):(D.all fun o=>Y3 mk o&&D.all (zN o))=true:=by
 simp only [aho,Bool.and_eq_true] at h
 refine List.all_eq_true.2 fun o ho=> ?_
 simp only [Bool.and_eq_true]
 refine ⟨List.all_eq_true.1 h.1 o ho,List.all_eq_true.2 fun p hp=> ?_⟩
 rcases Uy D o ho with h1|h1
 ·rcases Uy D p hp with h2|h2
  ·exact Vm h1 h2
  ·have:=List.all_eq_true.1 (List.all_eq_true.1 h.2 p h2) o ho
   simp only [Bool.and_eq_true] at this
   exact this.1
 ·have:=List.all_eq_true.1 (List.all_eq_true.1 h.2 o h1) p hp
  simp only [Bool.and_eq_true] at this
  exact this.2
theorem Cg {ops:Array Oper} {lg:List gD} (h:vA ops lg=true):acI ops lg=true:=by
 simp only [vA,Lf,akq,Bool.and_eq_true] at h
 obtain ⟨⟨h1,h2,h3⟩,h4⟩:=h
 have h4:=ad4 h4
 have hlen:lg.length=ops.size:=Nat.eq_of_beq_eq_true h1
 rw [aqd] at h3 h4
 have hml:(masks ops.toList []).length=ops.size:=by rw [P9];simp
 simp only [acI,Bool.and_eq_true,beq_iff_eq]
 refine ⟨hlen,List.all_eq_true.2 fun i hi=> ?_⟩
 have hi:i<ops.size:=List.mem_range.1 hi
 obtain ⟨o,ho⟩: ∃o,ops.toList[i]? =some o:=⟨ops[i],by simp [hi]⟩
 have FN:ops[i]? =some o:=by simpa using ho
 obtain ⟨l,hl⟩: ∃l,lg[i]? =some l:=⟨_,List.getElem?_eq_getElem (by omega)⟩
 obtain ⟨m,hm⟩: ∃m,(masks ops.toList [])[i]? =some m:=⟨_,List.getElem?_eq_getElem (by omega)⟩
 have hmi:(masks ops.toList []).getD i 0=m:=by rw [List.getD_eq_getElem?_getD,hm];rfl
 generalize (masks ops.toList [])=ms at h3 h4 hml hm hmi ⊢
 unfold Z3
 rw [FN,hl]
 simp only [Bool.and_eq_true]
 have hd:=K5 lg ms 0 i l m hl hm
 rw [Nat.zero_add] at hd
 have hone:(l.wr.all fun m=>l.aF.contains m)=true/\ (l.aF.all fun x=>match DH lg x with|some j=>j==i||m.testBit j|none=>true)=true:=by
  rcases hd with ⟨e1,e2⟩|hd
  ·rw [e1,e2];exact ⟨rfl,rfl⟩
  ·have:=List.all_eq_true.1 h4 _ hd
   simp only [Bool.and_eq_true,Y3] at this
   obtain ⟨⟨g1,g2⟩,_⟩:=this
   rw [ads] at g1
   refine ⟨g1,List.all_eq_true.2 fun x hx=> ?_⟩
   have:=List.all_eq_true.1 g2 x hx
   rw [P7] at this
   cases hk:DH lg x with
   |none=>rfl
   |some j=>
    rw [hk] at this
    simp only [Option.map_some,Nat.add_zero,Bool.or_eq_true,Nat.beq_eq] at this
    simpa using this
 rw [hmi]
 refine ⟨⟨⟨?_,hone.1⟩,hone.2⟩,List.all_eq_true.2 fun j hj=> ?_⟩
 ·refine List.all_eq_true.2 fun j hj=> ?_
  have:=Hl _ _ h2 i o ho j hj
  simpa using this
 ·have hj:j<i:=List.mem_range.1 hj
  obtain ⟨oj,hoj⟩: ∃o,ops.toList[j]? =some o:=⟨ops[j]'(by omega),by simp [show j<ops.size by omega]⟩
  have auV:ops[j]? =some oj:=by simpa using hoj
  obtain ⟨lj,hlj⟩: ∃l,lg[j]? =some l:=⟨_,List.getElem?_eq_getElem (by omega)⟩
  obtain ⟨mj,hmj⟩: ∃m,ms[j]? =some m:=⟨_,List.getElem?_eq_getElem (by omega)⟩
  rw [auV,hlj]
  simp only [Bool.or_eq_true]
  rcases Bool.eq_false_or_eq_true (m.testBit j) with hb|hb
  ·exact .inl hb
  ·refine .inr ?_
   have hs:=Fp _ _ _ (Fk _ _ h3 i _ (Ti _ _ i o m ho hm)) j _ (by omega) (Ti _ _ j oj mj hoj hmj)
   rw [Nat.zero_add,hb] at hs
   have hs:=aa8 (hs.resolve_left (by simp))
   simp only [Bool.and_eq_true] at hs ⊢
   refine ⟨⟨?_,hs.1⟩,hs.2⟩
   have FM:=K5 lg ms 0 j lj mj hlj hmj
   rw [Nat.zero_add] at FM
   rcases hd with ⟨e1,e2⟩|hd
   ·rw [e1,e2]
    refine ⟨⟨rfl,?_⟩,rfl⟩
    exact List.all_eq_true.2 fun _ _=>rfl
   ·rcases FM with ⟨e1,e2⟩|FM
    ·rw [e1,e2]
     exact ⟨⟨List.all_eq_true.2 fun _ _=>rfl,rfl⟩,List.all_eq_true.2 fun _ _=>rfl⟩
    ·have:=List.all_eq_true.1 h4 _ hd
     simp only [Bool.and_eq_true] at this
     have:=List.all_eq_true.1 this.2 _ FM
     simp only [zN,Bool.or_eq_true,hb,abR,Bool.and_eq_true] at this
     rcases this with (h|h)|h
     ·rw [Nat.ble_eq] at h;omega
     ·cases h
     ·exact h
structure Good (P:Program) (X:Addr->Value->Prop) (ops:Array Oper) (aZ:AS) (tr:List (Option Rec)) (el:List gD):Prop where
 len:tr.length=ops.size
 trace:FR P X ops ops.toList aZ tr
 ord:acI ops el=true
 eff:el=mJ ops.toList aZ tr\/ el=alU aZ.heap (mJ ops.toList aZ tr)
def Uf (el:List gD) (i:Nat):List Nat:=match el[i]? with
 |some l=>l.aF
 |none=> []
variable {X:Addr->Value->Prop} {ops:Array Oper} {aZ:AS} {tr:List (Option Rec)} {el:List gD}
theorem Good.at_ (h:Good P X ops aZ tr el) {i:Nat} (hi:i<ops.size): ∃o r,ops[i]? =some o/\ ops.toList[i]? =some o/\ tr[i]? =some r/\ dJ tr i=r/\ abz P X ops o (wZ ops.toList tr aZ i) r/\
  wZ ops.toList tr aZ (i+1)=oG o (wZ ops.toList tr aZ i) r/\ (mJ ops.toList aZ tr)[i]? =some (LP o (wZ ops.toList tr aZ i) r):=by
 have ho:ops.toList[i]? =some ops[i]:=by simp [hi]
 have hr:tr[i]? =some (tr[i]'(by rw [h.len];exact hi)):=List.getElem?_eq_getElem _
 obtain ⟨h1,h2,h3⟩:=Yj ops.toList aZ tr i _ _ h.trace ho hr
 exact ⟨_,_,by simp [hi],ho,hr,by simp [dJ,hr],h1,h2,h3⟩
theorem Good.aqy (h:Good P X ops aZ tr el): ∀i,i<=ops.size->(wZ ops.toList tr aZ i).tmps.length=aZ.tmps.length
 |0,_=>by simp [wZ,pC]
 |i+1,hi=>by
  obtain ⟨o,r,_,_,_,_,_,hs,_⟩:=h.at_ (i:=i) (by omega)
  rw [hs,af6,h.aqy i (by omega)]
theorem Good.acC (h:Good P X ops aZ tr el) {i:Nat} (hi:i<ops.size):FO ops.toList tr aZ (i+1)=FO ops.toList tr aZ i+(match dJ tr i with|some r=>r.fresh.length|none=>0):=by
 obtain ⟨o,r,_,_,_,hr,_,hs,_⟩:=h.at_ hi
 simp only [FO,hs,aa9,hr]
theorem Good.JW (h:Good P X ops aZ tr el) {i:Nat} : ∀ {j:Nat},i<j->j<=ops.size->FO ops.toList tr aZ i+(match dJ tr i with|some r=>r.fresh.length|none=>0)<=FO ops.toList tr aZ j
 |0,hij,_=>by omega
 |j+1,hij,hj=>by
  by_cases e:i=j
  ·subst e;rw [h.acC (by omega)];exact Nat.le_refl _
  ·have h1:=h.JW (i:=i) (j:=j) (by omega) (by omega)
   have h2:=h.acC (i:=j) (by omega)
   rw [h2];omega
theorem Good.acD:FO ops.toList tr aZ 0=aZ.heap.length:=by simp [FO,wZ,pC]
theorem Good.aow (h:Good P X ops aZ tr el) {i:Nat} (hi:i<=ops.size):aZ.heap.length<=FO ops.toList tr aZ i:=by
 rcases Nat.eq_zero_or_pos i with rfl|h0
 ·rw [Good.acD];exact Nat.le_refl _
 ·have:=h.JW (i:=0) h0 hi;rw [Good.acD] at this;omega
theorem qv {nm:Nat} {r:Option Rec} {m:Nat} :covers nm r m↔nm<=m/\ m<nm+(match r with|some r=>r.fresh.length|none=>0):=by
 cases r with
 |none=>exact ⟨fun h=>h.elim,fun h=>by have h1:=h.1;have h2:=h.2;dsimp only at h2;omega⟩
 |some r=>exact Iff.rfl
theorem Good.xn (h:Good P X ops aZ tr el) {i j m:Nat} (hi:i<ops.size) (hj:j<ops.size) (h1:covers (FO ops.toList tr aZ i) (dJ tr i) m) (h2:covers (FO ops.toList tr aZ j) (dJ tr j) m):i=j:=by
 rw [qv] at h1 h2
 rcases Nat.lt_trichotomy i j with e|e|e
 ·have:=h.JW e (by omega);omega
 ·exact e
 ·have:=h.JW e (by omega);omega
def FW (ops:Array Oper) (i j:Nat):Bool:=((masks ops.toList []).getD i 0).testBit j
theorem rE {i j:Nat} (h:FW ops i j=true):Dep ops.toList i j:=
 LV ops.toList ops.toList [] [] rfl rfl (fun i j hb=>by simp at hb) i j h
theorem LQ (o:Oper) (st:AS) (r:Option Rec):(LP o st r).wr=wH r/\ (LP o st r).aF=J9 r/\ (LP o st r).nm=st.heap.length/\ (LP o st r).cnt=(match r with|some r=>r.fresh.length|none=>0):=by
 cases r<;>exact ⟨rfl,rfl,rfl,rfl⟩
theorem Y4 (h0:List aD) (all:List gD) (l:gD):Vo h0 all l=l\/ (∃n q m,l.look=some (n,q)/\ l.aF= [m]/\ l.wr= []/\ n<h0.length/\ q.hit (ai h0 n)=true/\ I7 n q all=true/\
  (Vo h0 all l).nm=l.nm/\ (Vo h0 all l).cnt=l.cnt/\ (Vo h0 all l).aF= []/\ (Vo h0 all l).wr= []):=by
 unfold Vo
 split
 ·rename_i n q m h1 h2 h3
  cases hb:(Nat.beq m n&&Nat.blt n h0.length&&q.hit (ai h0 n)&&I7 n q all) with
  |false=>exact .inl rfl
  |true=>
   simp only [Bool.and_eq_true,Nat.blt_eq] at hb
   exact .inr ⟨n,q,m,h1,h2,h3,hb.1.1.2,hb.1.2,hb.2,rfl,rfl,rfl,rfl⟩
 ·exact .inl rfl
theorem RV {n:Nat} {q:Kl} : ∀ {ws:List (Nat×aD)},ak4 n q ws=true-> ∀p∈ws,p.1=n->q.hit (live (some p.2))=true
 | [],_,p,hp,_=>by cases hp
 |x::r,h,p,hp,e=>by
  simp only [ak4,Bool.and_eq_true,Bool.or_eq_true,Bool.not_eq_true'] at h
  rcases List.mem_cons.1 hp with rfl|hp
  ·have h1:=h.1.resolve_left (by rw [e];simp)
   cases hx:p.2<;>rw [hx] at h1<;>first|exact h1|(cases q<;>cases h1)
  ·exact RV h.2 p hp e
theorem NS {n:Nat} {q:Kl} : ∀ {lg:List gD},I7 n q lg=true-> ∀l∈lg,ak4 n q l.ws=true
 | [],_,l,hl=>by cases hl
 |x::r,h,l,hl=>by
  simp only [I7,Bool.and_eq_true] at h
  rcases List.mem_cons.1 hl with rfl|hl
  ·exact h.1
  ·exact NS h.2 l hl
theorem Good.Vp (h:Good P X ops aZ tr el) {i:Nat} (hi:i<ops.size): ∃l,el[i]? =some l/\ l.wr=wH (dJ tr i)/\ l.nm=FO ops.toList tr aZ i/\ l.cnt=(match dJ tr i with|some r=>r.fresh.length|none=>0)/\
  (l.aF=J9 (dJ tr i)\/ (l.aF= []/\ ∃o r n q,ops[i]? =some o/\ dJ tr i=some r/\ eH o.op (cE (wZ ops.toList tr aZ i).tmps) r.val=some (n,q)/\ n<aZ.heap.length/\ q.hit (ai aZ.heap n)=true/\ I7 n q (mJ ops.toList aZ tr)=true)):=by
 obtain ⟨o,r,ho,_,_,hr,_,_,tY⟩:=h.at_ hi
 obtain ⟨f1,f2,f3,f4⟩:=LQ o (wZ ops.toList tr aZ i) r
 rw [hr]
 rcases h.eff with e|e
 ·rw [e]
  exact ⟨_,tY,f1,f3,f4,.inl f2⟩
 ·have hl:el[i]? =some (Vo aZ.heap (mJ ops.toList aZ tr) (LP o (wZ ops.toList tr aZ i) r)):=by rw [e,alU,List.getElem?_map,tY];rfl
  rcases Y4 aZ.heap (mJ ops.toList aZ tr) (LP o (wZ ops.toList tr aZ i) r) with e1|⟨n,q,m,g1,g2,g3,g4,g5,g6,g7,g8,g9,g10⟩
  ·exact ⟨_,hl,by rw [e1,f1],by rw [e1,f3];rfl,by rw [e1,f4],.inl (by rw [e1,f2])⟩
  ·refine ⟨_,hl,by rw [g10,←f1,g3],by rw [g7,f3];rfl,by rw [g8,f4],.inr ⟨g9,?_⟩⟩
   cases r with
   |none=>cases g1
   |some r=>exact ⟨o,r,n,q,ho,rfl,g1,g4,g5,g6⟩
theorem Ug {i:Nat} {l:gD} (h:el[i]? =some l):Uf el i=l.aF:=by unfold Uf;rw [h]
theorem BX {a b:List Nat} (h:Pc a b=true): ∀m∈a,m∉b:=by
 intro m hm hb
 have:=List.all_eq_true.1 h m hm
 simp [hb] at this
theorem Good.one (h:Good P X ops aZ tr el) {i:Nat} (hi:i<ops.size) {o:Oper} (ho:ops[i]? =some o):
  (∀j∈direct o,j<i)/\ (∀m∈wH (dJ tr i),m∈Uf el i)/\
  (∀m∈Uf el i,∀j,j<ops.size->covers (FO ops.toList tr aZ j) (dJ tr j) m->j=i\/ FW ops i j=true)/\
  ∀j p,j<i->ops[j]? =some p->FW ops i j=false->
   (∀m∈wH (dJ tr i),m∉Uf el j)/\ (∀m∈wH (dJ tr j),m∉Uf el i)/\ (∀m∈wH (dJ tr i),m∉wH (dJ tr j))/\
   (∀d,p.dst=some d->o.dst≠some d/\ d∉lQ ops o)/\ (∀d,o.dst=some d->d∉lQ ops p):=by
 have B6:=h.ord
 simp only [acI,Bool.and_eq_true] at B6
 have h1:=List.all_eq_true.1 B6.2 i (List.mem_range.2 hi)
 obtain ⟨l,tY,f1,f3,f4,_⟩:=h.Vp hi
 have f2:l.aF=Uf el i:=(Ug tY).symm
 unfold Z3 at h1
 rw [ho,tY] at h1
 simp only [Bool.and_eq_true] at h1
 obtain ⟨⟨⟨h1,h2⟩,h3⟩,h4⟩:=h1
 refine ⟨fun j hj=>by simpa using List.all_eq_true.1 h1 j hj,fun m hm=> ?_,fun m hm j hj hc=> ?_,fun j p hj hp hb=> ?_⟩
 ·have:=List.all_eq_true.1 h2 m (by rw [f1];exact hm)
  rw [f2] at this
  simpa using this
 ·have:=List.all_eq_true.1 h3 m (by rw [f2];exact hm)
  have hmk:DH el m=some j:=by
   unfold DH
   rw [List.findIdx?_eq_some_iff_getElem]
   obtain ⟨lj,hlj,_,g3,g4,_⟩:=h.Vp hj
   obtain ⟨hjl,hje⟩:=List.getElem?_eq_some_iff.1 hlj
   refine ⟨hjl,?_,fun k hk=> ?_⟩
   ·rw [hje,g3,g4]
    rw [qv] at hc
    simpa using hc
   ·obtain ⟨lk,hlk,_,k3,k4,_⟩:=h.Vp (i:=k) (by omega)
    obtain ⟨hkl,hke⟩:=List.getElem?_eq_some_iff.1 hlk
    rw [hke,k3,k4]
    intro auv
    have:covers (FO ops.toList tr aZ k) (dJ tr k) m:=by
     rw [qv];simpa using auv
    have:=h.xn (by omega) hj this hc
    omega
  rw [hmk] at this
  simp only [Bool.or_eq_true,beq_iff_eq] at this
  exact this
 ·have:=List.all_eq_true.1 h4 j (List.mem_range.2 hj)
  obtain ⟨lj,hlj,g1,_,_,_⟩:=h.Vp (i:=j) (by omega)
  have g2:lj.aF=Uf el j:=(Ug hlj).symm
  have hb':(((masks ops.toList []).getD i 0).testBit j)=false:=hb
  rw [hb',hp,hlj] at this
  simp only [Bool.false_or,Bool.and_eq_true,f1,f2,g1,g2] at this
  obtain ⟨⟨⟨⟨a1,a2⟩,a3⟩,a4⟩,a5⟩:=this
  refine ⟨BX a1,BX a2,BX a3,fun d hd=> ?_,fun d hd=> ?_⟩
  ·rw [hd] at a4
   simp only [Bool.and_eq_true,bne_iff_ne,ne_eq,Bool.not_eq_true',List.contains_eq_mem,decide_eq_false_iff_not] at a4
   exact a4
  ·rw [hd] at a5
   simpa using a5
structure agB (av:fG) (W:World) (df:List Deferred) (N:Nat) (F:FS) (ρ:Env) (a:Act) (w:World):Prop where
 tmps: ∀t,F.T t≠ .dead->a.tmps.getD t undef=(F.T t).ae ρ
 ok: ∀t,(F.T t).ok F.Kn
 size:a.tmps.size=N
 defers:a.defers=df
 st:St av W ρ F.Kn F.G w
theorem acQ {st:AS} {ρ:Env} {a:Act} {w:World} (h:mF av W df st ρ a w):agB av W df st.tmps.length (fR st) ρ a w:=⟨h.tmps,h.kn,h.size,h.defers,h.st⟩
theorem anp {st:AS} {N:Nat} {ρ:Env} {a:Act} {w:World} (h:agB av W df N (fR st) ρ a w) (hN:st.tmps.length=N):mF av W df st ρ a w:=⟨h.tmps,by rw [h.size,hN],h.defers,h.ok,h.st⟩
theorem aeT {o:Oper} {t:Nat} (h:Operand.tmp t∈o.op.operands):t∈lQ ops o:=
 List.mem_append_left _ (List.mem_filterMap.2 ⟨.tmp t,Array.mem_toList_iff.2 h,rfl⟩)
theorem afI {N i:Nat} {F:FS} {ρ:Env} {a:Act} {w:World} {ro:Option Nat} {n:Nat} {Q:Exit->Act->World->Prop} (hX:uR av W X) (hR:agB av W df N F ρ a w) {o:Oper} (ho:ops[i]? =some o) {S:AS} {r:Option Rec}
  (hf:abz P X ops o S r) (hT: ∀t∈lQ ops o,F.T t=bY S.tmps t) (hG:(∀m∈J9 r,F.G m=ai S.heap m)\/ ∃r' n q,r=some r'/\ eH o.op (cE S.tmps) r'.val=some (n,q)/\ q.hit (F.G n)=true) (hfr: ∀m,covers S.heap.length r m-> ¬F.Kn m):
  wpOpIn (fw ro) n P ops Q i (fun a' w'=> ∃ρ',agB av W df N (Ox N o S.heap.length r F) ρ' a' w') a w:=by
 have ny: ∀x∈o.op.operands,(cE S.tmps x≠ .dead->a.eval x=(cE S.tmps x).ae ρ)/\ (cE S.tmps x).ok F.Kn:=by
  intro x hx
  cases x with
  |tmp t=>
   have:=hT t (aeT hx)
   refine ⟨?_,?_⟩
   ·show bY S.tmps t≠ .dead→a.tmps.getD t undef=(bY S.tmps t).ae ρ
    rw [<- this];exact hR.tmps t
   ·show (bY S.tmps t).ok F.Kn
    rw [<- this];exact hR.ok t
  |const v=>exact ⟨fun _=>(qK v ρ).symm,ym _ _⟩
  |global g=>exact ⟨fun _=>rfl,trivial⟩
  |func f=>exact ⟨fun _=>rfl,fun r hr=>absurd hr (by simp)⟩
 have hgd: ∀b,nk ops o S b->Region.wanted o (yielded ops a.tmps)=b:=by
  intro b hb
  unfold nk at hb
  split at hb
  ·rename_i hg;rw [hb];simp [Region.wanted,hg]
  ·rename_i j want hg
   obtain ⟨d,hd,hb⟩:=hb
   have h1:=hR.tmps d
   have e1:(ops[j]?).bind (·.dst)=some d:=by
    unfold xw at hd;split at hd
    ·rename_i p hp;simp [hp,hd]
    ·cases hd
   rw [hT d (by unfold lQ;rw [hg];exact List.mem_append_right _ (by simp [hd]))] at h1
   rcases hb with ⟨x,hx,hxb⟩|⟨hx,hb⟩
   rotate_left
   ·have h1:=h1 (by rw [hx];simp)
    rw [hx] at h1
    rw [hb]
    rw [Array.getD_eq_getD_getElem?] at h1
    cases hq:a.tmps[d]? with
    |none=>simp [Region.wanted,hg,yielded,e1,hq]
    |some v=>
     rw [hq] at h1
     have e:v= .tuple #[]:=h1
     subst e
     simp [Region.wanted,hg,yielded,e1,hq]
   have ja:bY S.tmps d≠ .dead:=by rw [hx];simp [bG]
   have h1:=h1 ja
   rw [hx] at h1
   have e2:a.tmps[d]? =some (.bool x):=by
    rw [Array.getD_eq_getD_getElem?] at h1
    cases hq:a.tmps[d]? with
    |none=>rw [hq] at h1;cases h1
    |some v=>rw [hq] at h1;exact congrArg some h1
   simp only [Region.wanted,hg,yielded,e1,Option.bind_some,e2]
   rw [<- hxb];cases x<;>cases want<;>rfl
 unfold wpOpIn
 rw [ho]
 dsimp only
 cases r with
 |some r=>
  obtain ⟨hg,ja,hl,hlk⟩:=hf
  rw [if_pos (hgd true hg)]
  obtain ⟨H,hH,hHG⟩: ∃H:HP,bO P X o (cE S.tmps) H S.heap.length r/\ ∀m∈r.aF,F.G m=H m:=by
   rcases hG with hG|⟨r',n',q,e,h1,h2⟩
   ·exact ⟨_,hl,hG⟩
   ·cases e
    exact ⟨F.G,hlk n' q h1 F.G h2,fun _ _=>rfl⟩
  refine hH.2 ro n av W ρ F.Kn F.G w a _ Q hX (fun x hx=>(ny x hx).1 (ja x hx)) (fun x hx=>(ny x hx).2) hHG (fun k hk=>hfr _ ⟨by omega,by omega⟩) hR.st ?_
  intro ρ' w' sP Oa hst
  refine ⟨ρ',fun t=> ?_,fun t=> ?_,by rw [oz,hR.size],by rw [put_defers,hR.defers],hst⟩
  ·rw [jz,hR.size]
   simp only [Ox]
   have hold:F.T t≠ .dead->a.tmps.getD t undef=(F.T t).ae ρ':=fun hd=>by rw [hR.tmps t hd];exact (AV.bu sP _ (hR.ok t)).symm
   cases o.dst with
   |none=>simpa using hold
   |some d=>
    simp only [Option.some.injEq]
    by_cases e:d=t
    ·subst e
     by_cases e2:d<N
     ·simp [e2]
     ·simp only [e2,and_false,if_false];exact hold
    ·have n1: ¬(t=d∧d<N):=fun h=>e h.1.symm
     have n2: ¬(d=t/\ t<N):=fun h=>e h.1
     simp only [n1,n2,if_false];exact hold
  ·simp only [Ox]
   split
   ·exact Oa
   ·exact AV.aT (fun m hm=> .inl hm) _ (hR.ok t)
 |none=>
  rw [if_neg (by rw [hgd false hf];simp)]
  refine ⟨fun _ _=>trivial,ρ,fun t=> ?_,fun t=> ?_,by rw [oz,hR.size],by rw [put_defers,hR.defers],hR.st⟩
  ·rw [jz,hR.size]
   simp only [Ox]
   cases o.dst with
   |none=>simpa using hR.tmps t
   |some d=>
    simp only [Option.some.injEq]
    by_cases e:d=t
    ·subst e
     by_cases e2:d<N
     ·simp only [e2,and_self,if_true];intro _;rfl
     ·simp only [e2,and_false,if_false];exact hR.tmps d
    ·have n1: ¬(t=d∧d<N):=fun h=>e h.1.symm
     have n2: ¬(d=t/\ t<N):=fun h=>e h.1
     simp only [n1,n2,if_false];exact hR.tmps t
  ·simp only [Ox]
   split
   ·exact wF _
   ·exact hR.ok t
theorem Good.text (h:Good P X ops aZ tr el): ∀i,i<=ops.size->part aZ.tmps.length ops.toList tr aZ (fun _=>true) (List.range i) (fR aZ)=fR (wZ ops.toList tr aZ i)
 |0,_=>by simp [part,wZ,pC]
 |i+1,hi=>by
  obtain ⟨o,r,_,ho,hr,_,hf,hs,_⟩:=h.at_ (i:=i) (by omega)
  have ih:=h.text i (by omega)
  have e:part aZ.tmps.length ops.toList tr aZ (fun _=>true) (List.range (i+1)) (fR aZ)=gK aZ.tmps.length ops.toList tr aZ i (part aZ.tmps.length ops.toList tr aZ (fun _=>true) (List.range i) (fR aZ)):=by
   rw [List.range_succ];simp [part,List.foldl_append]
  rw [e,ih,hs]
  unfold gK
  rw [ho,hr]
  exact ajo (h.aqy i (by omega)) r fun q hq p hp=>by subst hq;exact hf.2.2.1.1 p hp
theorem anc {N:Nat} {ops:List Oper} {tr:List (Option Rec)} {aZ:AS} {n i:Nat} (hi:i<=n) (s:FS):part N ops tr aZ (fun j=>decide (j<i)) (List.range n) s=part N ops tr aZ (fun _=>true) (List.range i) s:=by
 have e:List.range n=List.range i++List.range' i (n- i):=by
  have e1:=List.range'_append_1 (s:=0) (m:=i) (n:=n- i)
  rw [Nat.zero_add] at e1
  rw [List.range_eq_range',List.range_eq_range',e1];congr 1;omega
 have h1: ∀(is:List Nat) (s:FS),(∀j∈is,j<i)->part N ops tr aZ (fun j=>decide (j<i)) is s=part N ops tr aZ (fun _=>true) is s:=by
  intro is
  induction is with
  |nil=>intro s _;rfl
  |cons j r ih=>
   intro s hj
   show part N ops tr aZ _ r _=part N ops tr aZ _ r _
   simp only [hj j (by simp),decide_true,if_true]
   exact ih _ (fun k hk=>hj k (by simp [hk]))
 have h2: ∀(is:List Nat) (s:FS),(∀j∈is,i<=j)->part N ops tr aZ (fun j=>decide (j<i)) is s=s:=by
  intro is
  induction is with
  |nil=>intro s _;rfl
  |cons j r ih=>
   intro s hj
   show part N ops tr aZ _ r _=s
   have:decide (j<i)=false:=by have:=hj j (by simp);simpa using this
   simp only [this,Bool.false_eq_true,if_false]
   exact ih _ (fun k hk=>hj k (by simp [hk]))
 rw [e]
 show List.foldl _ s (_++_)=_
 rw [List.foldl_append]
 show part N ops tr aZ _ _ (part N ops tr aZ _ _ s)=_
 rw [h1 _ _ (fun j hj=>List.mem_range.1 hj),h2 _ _ (fun j hj=>(List.mem_range'_1.1 hj).1)]
theorem Good.ahk (h:Good P X ops aZ tr el) {i j:Nat} (hd:Dep ops.toList i j):j<i:=by
 induction hd with
 | @edge i' j' o' FN hj'=>
  have hi':i'<ops.size:=by have:=(List.getElem?_eq_some_iff.1 FN).1;simpa using this
  exact (h.one hi' (by rw [<- Array.getElem?_toList];exact FN)).1 _ hj'
 | @trans i' j' k' o' FN hk' _ ih=>
  have hi':i'<ops.size:=by have:=(List.getElem?_eq_some_iff.1 FN).1;simpa using this
  have:=(h.one hi' (by rw [<- Array.getElem?_toList];exact FN)).1 _ hk'
  omega
theorem count_set: ∀(l:List Bool) (i:Nat),l[i]? =some false->(l.set i true).countP (!·)+1=l.countP (!·)
 | [],_,h=>by simp at h
 |b::r,0,h=>by simp at h;subst h;simp
 |b::r,i+1,h=>by
  have:=count_set r i (by simpa using h)
  simp only [List.set_cons_succ,List.countP_cons];omega
theorem ZM {ws:List (Nat×aD)} {m:Nat} {o:aD} (h:cm ws m=some o):(m,o)∈ws:=by
 induction ws with
 |nil=>cases h
 |cons p r ih=>
  simp only [cm] at h
  split at h
  ·rename_i o' ho
   cases h
   exact List.mem_cons_of_mem _ (ih ho)
  ·split at h
   ·rename_i e
    cases h
    rw [<- e]
    exact List.mem_cons_self ..
   ·cases h
theorem Wt (h:Good P X ops aZ tr el) {N n:Nat} {q:Kl} {L:Nat->Bool} (hn:n<aZ.heap.length) (hv:I7 n q (mJ ops.toList aZ tr)=true): ∀(is:List Nat) (s:FS),q.hit (s.G n)=true->q.hit ((part N ops.toList tr aZ L is s).G n)=true
 | [],s,hs=>hs
 |i::r,s,hs=>by
  refine Wt h hn hv r _ ?_
  dsimp only
  split
  rotate_left
  ·exact hs
  unfold gK
  split
  rotate_left
  ·exact hs
  rename_i o x ho hx
  cases x with
  |none=>exact hs
  |some x=>
   have hi:i<ops.size:=by have:=(List.getElem?_eq_some_iff.1 ho).1;simpa using this
   obtain ⟨o',r',_,hol,htr,_,_,_,tY⟩:=h.at_ hi
   rw [htr] at hx
   cases hx
   have hw:=NS hv _ (List.mem_of_getElem? tY)
   have hnm:=h.aow (i:=i) (by omega)
   simp only [Ox,bV]
   rw [if_neg (by intro hc;have:=hc.1;simp only [FO] at hnm;omega)]
   split
   ·rename_i o2 ho2
    exact RV hw _ (ZM ho2) rfl
   ·exact hs
def YJ (av:fG) (W:World) (df:List Deferred) (ops:Array Oper) (tr:List (Option Rec)) (aZ:AS) (L:Array Bool) (a:Act) (w:World):Prop:=L.size=ops.size/\ (∀i o,L.getD i false=true->ops.toList[i]? =some o-> ∀j∈direct o,L.getD j false=true)/\
  ∃ρ,agB av W df aZ.tmps.length (part aZ.tmps.length ops.toList tr aZ (fun i=>L.getD i false) (List.range ops.size) (fR aZ)) ρ a w
theorem tM (hX:uR av W X) (h:Good P X ops aZ tr el) (ro:Option Nat) (n:Nat) (Q:Exit->Act->World->Prop):
    ∀L a w i,YJ av W df ops tr aZ L a w->i∈Region.ready .any ops L->wpOpIn (fw ro) n P ops Q i (fun a' w'=>YJ av W df ops tr aZ (L.setIfInBounds i true) a' w') a w/\ i<ops.size/\ L[i]? =some false/\ ∀j,Dep ops.toList i j->L.getD j false=true:=by
  let N:=aZ.tmps.length
  have hsz:ops.toList.length=ops.size:=by simp
  rintro L a w i ⟨hL,hdc,ρ,hR⟩ hi
  simp only [Region.ready,List.mem_filter,List.mem_range,Bool.and_eq_true,Bool.not_eq_true'] at hi
  obtain ⟨hin,hnl,Zs⟩:=hi
  have hLi:L[i]? =some false:=by
    rw [Array.getElem?_eq_getElem (by omega)]
    rw [Array.getD_eq_getD_getElem?,Array.getElem?_eq_getElem (by omega)] at hnl
    simpa using hnl
  have hLf:L.getD i false=false:=by rw [Array.getD_eq_getD_getElem?,hLi];rfl
  obtain ⟨o,r,ho,hol,htr,hri,hf,hs,_⟩:=h.at_ hin
  have arY: ∀j∈direct o,L.getD j false=true:=by
    intro j hj
    simp only [direct,List.mem_map,List.mem_filter] at hj
    obtain ⟨e,⟨he,hb⟩,rfl⟩:=hj
    rw [ho] at Zs
    simp only [Option.map_some,Option.getD_some] at Zs
    have:=Array.all_eq_true_iff_forall_mem.1 Zs e (Array.mem_toList_iff.1 he)
    simpa [hb] using this
  have aeo: ∀j,Dep ops.toList i j->L.getD j false=true:=fun j hd=>hd.ae8 (L:=fun j=>L.getD j false=true) hdc hol arY
  have ah0: ∀j,L.getD j false=true-> ¬Dep ops.toList j i:=fun j hj hd=>by
    have:=hd.closed (L:=fun j=>L.getD j false=true) hdc hj
    rw [hLf] at this;cases this
  obtain ⟨_,hwt,htm,aol⟩:=h.one hin ho
  have B6: ∀j,j<ops.size->j≠i->(L.getD j false=decide (j<i))\/ ((j<i/\ FW ops i j=false)\/ (i<j/\ FW ops j i=false)):=by
    intro j hj hne
    rcases Nat.lt_or_gt_of_ne hne with hlt|hlt
    · cases hb:FW ops i j with
      |true=>left;rw [aeo j (rE hb)];simp [hlt]
      |false=>exact .inr (.inl ⟨hlt,rfl⟩)
    · cases hb:FW ops j i with
      | true=>
        left
        cases hLj:L.getD j false with
        |true=>exact absurd (rE hb) (ah0 j hLj)
        |false=>simp;omega
      |false=>exact .inr (.inr ⟨hlt,rfl⟩)
  have hsi:fR (wZ ops.toList tr aZ i)=part N ops.toList tr aZ (fun j=>decide (j<i)) (List.range ops.size) (fR aZ):=by
    rw [anc (by omega),h.text i (by omega)]
  have hT: ∀t∈lQ ops o,(part N ops.toList tr aZ (fun i=>L.getD i false) (List.range ops.size) (fR aZ)).T t=bY (wZ ops.toList tr aZ i).tmps t:=by
    intro t ht
    show _=(fR (wZ ops.toList tr aZ i)).T t
    rw [hsi]
    refine L6 _ _ _ rfl fun j hj hd=> ?_
    have hj:=List.mem_range.1 hj
    by_cases hne:j=i
    · subst hne;rw [hLf];simp
    · obtain ⟨p,_,hp,Aa,_⟩:=h.at_ hj
      have hpd:p.dst=some t:=by simpa [Jh,Aa] using hd
      rcases B6 j hj hne with e|⟨hlt,hb⟩|⟨hlt,hb⟩
      · exact e
      · exact absurd ht ((aol j p hlt hp hb).2.2.2.1 t hpd).2
      · exact absurd ht ((h.one hj hp).2.2.2 i o hlt ho hb|>.2.2.2.2 t hpd)
  have hG0: ∀m∈Uf el i,(part N ops.toList tr aZ (fun i=>L.getD i false) (List.range ops.size) (fR aZ)).G m=ai (wZ ops.toList tr aZ i).heap m:=by
    intro m hm'
    show _=(fR (wZ ops.toList tr aZ i)).G m
    rw [hsi]
    refine Tm _ _ _ rfl fun j hj hd=> ?_
    have hj:=List.mem_range.1 hj
    by_cases hne:j=i
    · subst hne;rw [hLf];simp
    · obtain ⟨p,_,hp,Aa,_⟩:=h.at_ hj
      rcases hd with hc|hwj
      · rcases htm m hm' j hj hc with e|e
        · exact absurd e hne
        · have hji:j<i:=by
            rcases B6 j hj hne with _|_
            all_goals
              rcases Nat.lt_or_gt_of_ne hne with h1|h1
              · exact h1
              · exfalso
                have:=h.ahk (rE e)
                omega
          rw [aeo j (rE e)];simp [hji]
      · rcases B6 j hj hne with e|⟨hlt,hb⟩|⟨hlt,hb⟩
        · exact e
        · exact absurd hm' ((aol j p hlt hp hb).2.1 m hwj)
        · exact absurd hm' (((h.one hj hp).2.2.2 i o hlt ho hb).1 m hwj)
  have hG:(∀m∈J9 r,(part N ops.toList tr aZ (fun i=>L.getD i false) (List.range ops.size) (fR aZ)).G m=ai (wZ ops.toList tr aZ i).heap m)\/ ∃r' n q,r=some r'/\ eH o.op (cE (wZ ops.toList tr aZ i).tmps) r'.val=some (n,q)/\ q.hit ((part N ops.toList tr aZ (fun i=>L.getD i false) (List.range ops.size) (fR aZ)).G n)=true:=by
    obtain ⟨l,tY,_,_,_,ht|⟨_,o',r',n',q,FN,hr',h1,h2,h3,h4⟩⟩:=h.Vp hin
    · left
      rw [Ug tY,ht,hri] at hG0
      exact hG0
    · right
      rw [ho] at FN;cases FN
      rw [hri] at hr'
      refine ⟨r',n',q,hr',h1, ?_⟩
      exact Wt h h2 h4 (List.range ops.size) _ h3
  have hfr: ∀m,covers (wZ ops.toList tr aZ i).heap.length r m-> ¬(part N ops.toList tr aZ (fun i=>L.getD i false) (List.range ops.size) (fR aZ)).Kn m:=by
    intro m hc hk
    have Jj:covers (FO ops.toList tr aZ i) (dJ tr i) m:=by rw [hri];exact hc
    rw [DR _ _ (fun j hj=>by rw [hsz];exact List.mem_range.1 hj)] at hk
    rcases hk with hk|⟨j,hj,hLj,hcj⟩
    · have h1:=h.aow (i:=i) (by omega)
      rw [qv] at Jj
      have:m<aZ.heap.length:=hk
      omega
    · have:=h.xn (List.mem_range.1 hj) hin hcj Jj
      subst this;rw [hLf] at hLj;cases hLj
  refine ⟨?_,hin,hLi,aeo⟩
  refine wpOpIn_mono ?_ (afI hX hR ho hf hT hG hfr)
  rintro a' w' ⟨ρ',hR'⟩
  have On: ∀j,(L.setIfInBounds i true).getD j false=(L.getD j false||j==i):=by
    intro j
    simp only [Array.getD_eq_getD_getElem?,Array.getElem?_setIfInBounds]
    by_cases e:i=j
    · subst e;simp [hL,hin]
    · simp [e,Ne.symm e]
  refine ⟨by simp [hL],fun j p hj hp k hk=> ?_,ρ', ?_⟩
  · rw [On] at hj ⊢
    rw [Bool.or_eq_true] at hj ⊢
    rcases hj with hj|hj
    · exact .inl (hdc j p hj hp k hk)
    · have:j=i:=by simpa using hj
      subst this
      rw [hol] at hp;cases hp
      exact .inl (arY k hk)
  · have Oj:=ajr (N:=N) (ops:=ops.toList) (tr:=tr) (aZ:=aZ) (L:=fun i=>L.getD i false) (n:=ops.size) (i:=i) (by omega) hin hLf (fun j hj hij hLj=>by
        obtain ⟨p,_,hp,Aa,_⟩:=h.at_ hj
        have hb:FW ops j i=false:=by
          cases hb:FW ops j i with
          |true=>exact absurd (rE hb) (ah0 j hLj)
          |false=>rfl
        have hbi:FW ops i j=false:=by
          cases hb:FW ops i j with
          | true=>
            exfalso
            have:=h.ahk (rE hb)
            omega
          |false=>rfl
        obtain ⟨_,avc,ava,hpj⟩:=h.one hj hp
        have hp1:=hpj i o hij ho hb
        refine ⟨fun d hd JJ=> ?_,fun m Lx hm2=>hp1.2.2.1 m hm2 Lx,fun m h1 h2=> ?_,fun m h1 h2=> ?_,fun m h1 h2=> ?_⟩
        · have e1:o.dst=some d:=by simpa [Jh,hol] using hd
          have e2:p.dst=some d:=by simpa [Jh,Aa] using JJ
          exact (hp1.2.2.2.1 d e1).1 e2
        · have:=h.xn hin hj h1 h2;omega
        · rcases htm m (hwt m h1) j hj h2 with e|e
          · omega
          · rw [hbi] at e;cases e
        · rcases ava m (avc m h1) i hin h2 with e|e
          · omega
          · rw [hb] at e;cases e) (fR aZ)
    have e1:(fun j=>(L.setIfInBounds i true).getD j false)=(fun j=>L.getD j false||j==i):=funext On
    rw [e1,Oj]
    have e2:gK N ops.toList tr aZ i (part N ops.toList tr aZ (fun i=>L.getD i false) (List.range ops.size) (fR aZ))=Ox N o (wZ ops.toList tr aZ i).heap.length r (part N ops.toList tr aZ (fun i=>L.getD i false) (List.range ops.size) (fR aZ)):=by
      conv=>lhs;unfold gK
      rw [hol,htr]
    rw [e2];exact hR'
theorem Vk (h:Good P X ops aZ tr el) {L:Array Bool} {a:Act} {w:World} (hI:YJ av W df ops tr aZ L a w) (hr:Region.ready .any ops L= []): ∀i,i<ops.size->L.getD i false=true:=by
 obtain ⟨hL,hdc,ρ,hR⟩:=hI
 intro i
 induction i using Nat.strongRecOn with
 |_ i ih=>
  intro hi
  cases hLi:L.getD i false with
  |true=>rfl
  |false=>
   exfalso
   obtain ⟨o,r,ho,hol,_⟩:=h.at_ hi
   have:i∈Region.ready .any ops L:=by
    simp only [Region.ready,List.mem_filter,List.mem_range,Bool.and_eq_true,Bool.not_eq_true']
    refine ⟨hi,?_,?_⟩
    ·rw [Array.getD_eq_getD_getElem?,Array.getElem?_eq_getElem (by omega)] at hLi ⊢
     simpa using hLi
    ·rw [ho]
     simp only [Option.map_some,Option.getD_some]
     refine Array.all_eq_true_iff_forall_mem.2 fun e he=> ?_
     cases hb:Region.binds .any e with
     |false=>simp
     |true=>
      have hmem:e.on∈direct o:=List.mem_map.2 ⟨e,List.mem_filter.2 ⟨Array.mem_toList_iff.2 he,hb⟩,rfl⟩
      have hlt:=(h.one hi ho).1 _ hmem
      simp [ih e.on hlt (by omega)]
   rw [hr] at this;cases this
theorem Xf (hm:P.follows .mixedOrders=true) (hX:uR av W X) (h:Good P X ops aZ tr el) (ro:Option Nat) (n id:Nat) {Q:Exit->Act->World->Prop} {ρ:Env} {a:Act} {w:World} (aQ:mF av W df aZ ρ a w)
  (hQ: ∀ρ' a' w',mF av W df (wZ ops.toList tr aZ ops.size) ρ' a' w'->Q .normal a' w'):(Code.region id ops true).wpIn (fw ro) n P Q a w:=by
 refine wpIn_region_any hm ?_
 let N:=aZ.tmps.length
 let Inv:=YJ av W df ops tr aZ
 have hsz:ops.toList.length=ops.size:=by simp
 have hstep: ∀L a w i,Inv L a w->i∈Region.ready .any ops L->wpOpIn (fw ro) n P ops Q i (fun a' w'=>Inv (L.setIfInBounds i true) a' w') a w/\ i<ops.size/\ L[i]? =some false:=fun L a w i hI hi=>
  ⟨(tM hX h ro n Q L a w i hI hi).1,(tM hX h ro n Q L a w i hI hi).2.1,(tM hX h ro n Q L a w i hI hi).2.2.1⟩
 have hend: ∀L a w,Inv L a w->Region.ready .any ops L= []->Q .normal a w:=by
  intro L a w hI hr
  have hall:=Vk h hI hr
  obtain ⟨hL,hdc,ρ,hR⟩:=hI
  have e:part N ops.toList tr aZ (fun i=>L.getD i false) (List.range ops.size) (fR aZ)=fR (wZ ops.toList tr aZ ops.size):=by
   rw [<- h.text ops.size (Nat.le_refl _)]
   refine FS.ext' (fun t=>L6 _ _ _ rfl fun i hi _=>by rw [hall i (List.mem_range.1 hi)]) (fun m=>Tm _ _ _ rfl fun i hi _=>by rw [hall i (List.mem_range.1 hi)]) (fun m=> ?_)
   rw [DR _ _ (fun j hj=>by rw [hsz];exact List.mem_range.1 hj),DR _ _ (fun j hj=>by rw [hsz];exact List.mem_range.1 hj)]
   constructor
   ·rintro (h1|⟨i,hi,_,hc⟩)
    ·exact .inl h1
    ·exact .inr ⟨i,hi,rfl,hc⟩
   ·rintro (h1|⟨i,hi,_,hc⟩)
    ·exact .inl h1
    ·exact .inr ⟨i,hi,hall i (List.mem_range.1 hi),hc⟩
  rw [e] at hR
  exact hQ ρ a w (anp hR (h.aqy ops.size (Nat.le_refl _)))
 have main: ∀fuel L a w,L.toList.countP (!·)<=fuel->Inv L a w->wpAnyIn (fw ro) n P .any ops Q fuel L a w:=by
  intro fuel
  induction fuel with
  |zero=>
   intro L a w hc hI
   have hr:Region.ready .any ops L= []:=by
    rcases hq:Region.ready .any ops L with _|⟨i,r⟩
    ·rfl
    ·exfalso
     obtain ⟨_,_,hf⟩:=hstep L a w i hI (by rw [hq];simp)
     have:=count_set L.toList i (by simpa using hf)
     omega
   exact ⟨hr,hend L a w hI hr⟩
  |succ fuel ih=>
   intro L a w hc hI
   refine ⟨hend L a w hI,fun i hi=> ?_⟩
   obtain ⟨h1,_,hf⟩:=hstep L a w i hI hi
   refine wpOpIn_mono (fun a' w' hI'=>ih _ a' w' ?_ hI') h1
   have:=count_set L.toList i (by simpa using hf)
   rw [Array.toList_setIfInBounds];omega
 refine main _ _ _ _ (by have:=List.countP_le_length (p:=(!·)) (l:=(Array.replicate ops.size false).toList);simpa using this) ⟨by simp,fun i o hi=> ?_,ρ,?_⟩
 ·rw [Array.getD_eq_getD_getElem?,Array.getElem?_replicate] at hi
  split at hi<;>simp at hi
 ·have e:part N ops.toList tr aZ (fun i=>(Array.replicate ops.size false).getD i false) (List.range ops.size) (fR aZ)=fR aZ:=by
   have:(fun i=>(Array.replicate ops.size false).getD i false)=fun _=>false:=by
    funext i;rw [Array.getD_eq_getD_getElem?,Array.getElem?_replicate];split<;>rfl
   rw [this]
   generalize List.range ops.size=is
   induction is with
   |nil=>rfl
   |cons j r ih=>exact ih
  rw [e]
  exact acQ (aQ.drawn _ (by first|exact Nat.le_succ _|exact Nat.le_add_right _ _|omega))
theorem abU (hT:di P ctx.tt) (hS:aj P ctx.specs) (hm:P.follows .mixedOrders=true) (hX:uR av W ctx.X) (ro:Option Nat) (n id:Nat) (ops:Array Oper) (st:AS) (K:AS->Prop) (h:jW ctx ops true st K):
  ∀ρ a w,mF av W df st ρ a w->(Code.region id ops true).wpIn (fw ro) n P (fun e a w=> ∃st ρ,(e= .normal/\ K st)/\ mF av W df st ρ a w) a w:=by
 intro ρ a w aQ
 have h:oM {ctx with ys:= [],its:= []} ops ops.toList [] st [] fun st' lg=>if vA ops lg then K st' else if vA ops (alU st.heap lg) then K st' else False:=h
 obtain ⟨tr,h1,h2,h3⟩:=vz (ctx:= {ctx with ys:= [],its:= []}) hT ⟨hS,rfl,rfl⟩ ops _ _ _ _ _ h
 simp only [List.nil_append] at h3
 have fin: ∀el,Good P ctx.X ops st tr el->K (pC ops.toList st tr)->(Code.region id ops true).wpIn (fw ro) n P (fun e a w=> ∃st ρ,(e= .normal/\ K st)/\ mF av W df st ρ a w) a w:=fun el hg h3=>by
  refine Xf hm hX hg ro n id aQ fun ρ' a' w' dr=> ?_
  have e:wZ ops.toList tr st ops.size=pC ops.toList st tr:=by
   unfold wZ
   rw [List.take_of_length_le (by simp),List.take_of_length_le (by rw [h1];simp)]
  rw [e] at dr
  exact ⟨_,ρ',⟨rfl,h3⟩,dr⟩
 split at h3
 ·rename_i B6
  exact fin _ ⟨by simpa using h1,h2,Cg B6,.inl rfl⟩ h3
 ·split at h3
  ·rename_i B6
   exact fin _ ⟨by simpa using h1,h2,Cg B6,.inr rfl⟩ h3
  ·exact h3.elim
end
end Go.Ev
