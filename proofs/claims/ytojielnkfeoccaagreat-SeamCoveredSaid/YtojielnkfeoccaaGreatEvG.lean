/- A region that draws its order: whatever order the edges allow comes to what the text's order comes to. -/
import Derived.Test.YtojielnkfeoccaaGreatEvF
noncomputable section
set_option linter.unusedSectionVars false
set_option linter.unusedVariables false
set_option linter.unusedSimpArgs false
namespace Go.Ev
open Go.RowKit
def kW (all:Array Oper) (o:Oper) (st:AS) (b:Bool):Prop:=match o.guard with
 |none=>b=true
 |some (j,want)=> ∃d,Ai all j=some d/\ ((∃x,dP st.tmps d=bH x/\ (x==want)=b)\/ (dP st.tmps d= .lZ []/\ b=false))
def lY (o:Oper) (st:AS):Option Rec->AS
 |some r=>st.app o.dst r
 |none=> {st with tmps:=jb st.tmps o.dst aT}
def Dh (o:Oper) (st:AS):Option Rec->gC
 |some r=>FF o.op (fM st.tmps) st.heap.length r
 |none=>lz st.heap.length
def oW:List Oper->AS->List (Option Rec)->AS
 |o::l,st,r::tr=>oW l (lY o st r) tr
 |_,st,_=>st
def lS:List Oper->AS->List (Option Rec)->List gC
 |o::l,st,r::tr=>Dh o st r::lS l (lY o st r) tr
 |_,_,_=> []
section
variable {P:Program} {ctx:Ctx}
def NH (P:Program) (X:Addr->Value->Prop) (all:Array Oper) (o:Oper) (st:AS):Option Rec->Prop
 | some r=>kW all o st true/\ (∀x∈o.op.operands,fM st.tmps x≠ .dead)/\ bL P X o (fM st.tmps) (av st.heap) st.heap.length r/\
   ∀n q,eV o.op (fM st.tmps) r.val=some (n,q)-> ∀Γ:HP,q.hit (Γ n)=true->bL P X o (fM st.tmps) Γ st.heap.length r
 |none=>kW all o st false
def yR (P:Program) (X:Addr->Value->Prop) (all:Array Oper):List Oper->AS->List (Option Rec)->Prop
 |o::l,st,r::tr=>NH P X all o st r/\ yR P X all l (lY o st r) tr
 |_,_,_=>True
theorem T5 {o:Oper} {ev:Operand->AV} {hp:HP} {nm:Nat} {k:Rec->Prop} (hT:aX P ctx.tt) (hS:G2 P ctx) (h:zz ctx o.op ev hp nm k):
  ∃r,bL P ctx.X o ev hp nm r/\ k r/\ ∀n q,eV o.op ev r.val=some (n,q)-> ∀Γ:HP,q.hit (Γ n)=true->bL P ctx.X o ev Γ nm r:=by
 have plain:(∀v,eV o.op ev v=none)-> ∃r,bL P ctx.X o ev hp nm r/\ k r/\ ∀n q,eV o.op ev r.val=some (n,q)-> ∀Γ:HP,q.hit (Γ n)=true->bL P ctx.X o ev Γ nm r:=fun hn=>by
  obtain ⟨r,h1,h2⟩:=Ih hT hS h
  exact ⟨r,h1,h2,fun n q hq=>by rw [hn] at hq;cases hq⟩
 have at_: ∀(r:Rec) (Γ:HP),zz ctx o.op ev Γ nm (fun r'=>r'=r)->bL P ctx.X o ev Γ nm r:=fun r Γ h=>by
  obtain ⟨r',h1,rfl⟩:=Ih hT hS h
  exact h1
 have Hh: ∀ {q:Cf} {x:Option aQ},q.hit x=true-> ∃cs e,x=some (.cells cs e)/\ ∀off m,q= .full off m->cs[off]? =some (.full m):=fun {q x} hq=>by
  unfold Cf.hit at hq
  split at hq
  ·exact ⟨_,_,rfl,fun _ _ e=>by cases e⟩
  ·split at hq
   ·rename_i hc
    refine ⟨_,_,rfl,fun off m e=> ?_⟩
    cases e
    rw [hc,Nat.eq_of_beq_eq_true hq]
   ·cases hq
  ·cases hq
 suffices H: ∀op,o.op=op-> ∃r,bL P ctx.X o ev hp nm r/\ k r/\ ∀n q,eV o.op ev r.val=some (n,q)-> ∀Γ:HP,q.hit (Γ n)=true->bL P ctx.X o ev Γ nm r from H _ rfl
 intro op hop
 cases op with
 |load t x=>
  cases nk:ev x with
  |v a=>cases a with
   |one c=>cases c with
    |ptr n off=>
     rw [hop] at h
     simp only [zz,nk] at h
     split at h
     rotate_left
     ·exact h.elim
     rename_i i hi
     have hd: ∀Γ,Tb Γ (.v (.one (.ptr n off)))=false:=fun _=>rfl
     rw [hd] at h
     simp only [Bool.false_eq_true,if_false,oF] at h
     split at h
     rotate_left
     ·exact h.elim
     rename_i cs e hn
     unfold xn at h
     split at h
     ·rename_i ha
      split at h
      ·rename_i hl
       refine ⟨_,at_ _ hp ?_,h,fun n' q hq=> ?_⟩
       ·rw [hop];simp only [zz,nk,hi,hd,Bool.false_eq_true,if_false,oF,hn,xn,ha,if_true,hl]
       ·simp only [hop,eV,nk] at hq;cases hq
      ·exact h.elim
     ·rename_i ha
      split at h
      rotate_left
      ·exact h.elim
      rename_i c hc
      refine ⟨_,at_ _ hp ?_,h,fun n' q hq Γ hh=> ?_⟩
      ·rw [hop];simp only [zz,nk,hi,hd,Bool.false_eq_true,if_false,oF,hn,xn,ha,hc]
      ·simp only [hop,eV,nk] at hq
       split at hq
       ·rename_i BR vg
        cases BR
        cases vg
        cases hq
        obtain ⟨cs',e',g1,g2⟩:=Hh hh
        refine at_ _ Γ ?_
        rw [hop];simp only [zz,nk,hi,hd,Bool.false_eq_true,if_false,oF,g1,xn,ha,g2 _ _ rfl]
       ·cases hq
    |_=>exact plain fun v=>by simp only [hop,eV,nk]
   |agg cs=>exact plain fun v=>by simp only [hop,eV,nk]
  |_=>exact plain fun v=>by simp only [hop,eV,nk]
 |fieldAddr t x f=>
  cases nk:ev x with
  |v a=>cases a with
   |one c=>cases c with
    |ptr n off=>
     rw [hop] at h
     simp only [zz,nk] at h
     split at h
     rotate_left
     ·exact h.elim
     rename_i i hi
     unfold kG at h
     split at h
     rotate_left
     ·exact h.elim
     rename_i fs hf
     split at h
     rotate_left
     ·exact h.elim
     rename_i fd Va
     split at h
     rotate_left
     ·exact h.elim
     rename_i fi Et
     split at h
     ·exact h.elim
     rename_i hz
     simp only [eC] at h
     split at h
     rotate_left
     ·exact h.elim
     rename_i cs e hn
     refine ⟨_,at_ _ hp ?_,h,fun n' q hq Γ hh=> ?_⟩
     ·rw [hop];simp only [zz,nk,hi,kG,hf,Va,Et,hz,if_false,eC,hn]
     ·simp only [hop,eV,nk,Option.some.injEq,Prod.mk.injEq] at hq
      obtain ⟨rfl,rfl⟩:=hq
      obtain ⟨cs',e',g1,_⟩:=Hh hh
      refine at_ _ Γ ?_
      rw [hop];simp only [zz,nk,hi,kG,hf,Va,Et,hz,if_false,eC,g1]
    |_=>exact plain fun v=>by simp only [hop,eV,nk]
   |agg cs=>exact plain fun v=>by simp only [hop,eV,nk]
  |_=>exact plain fun v=>by simp only [hop,eV,nk]
 |nilCheck x=>
  cases nk:ev x with
  |v a=>cases a with
   |one c=>cases c with
    |ptr n off=>
     rw [hop] at h
     simp only [zz,nk,eC] at h
     split at h
     rotate_left
     ·exact h.elim
     rename_i cs e hn
     refine ⟨_,at_ _ hp ?_,h,fun n' q hq Γ hh=> ?_⟩
     ·rw [hop];simp only [zz,nk,eC,hn]
     ·simp only [hop,eV,nk,Option.some.injEq,Prod.mk.injEq] at hq
      obtain ⟨rfl,rfl⟩:=hq
      obtain ⟨cs',e',g1,_⟩:=Hh hh
      refine at_ _ Γ ?_
      rw [hop];simp only [zz,nk,eC,g1]
    |_=>exact plain fun v=>by simp only [hop,eV,nk]
   |agg cs=>exact plain fun v=>by simp only [hop,eV,nk]
  |_=>exact plain fun v=>by simp only [hop,eV,nk]
 |_=>exact plain fun v=>by simp only [hop,eV]
theorem vu (hT:aX P ctx.tt) (hS:G2 P ctx) (all:Array Oper): ∀(l:List Oper) (dec:List Nat) (st:AS) (lg:List gC) (K:AS->List gC->Prop),nE ctx all l dec st lg K->
  ∃tr:List (Option Rec),tr.length=l.length/\ yR P ctx.X all l st tr/\ K (oW l st tr) (lg++lS l st tr)
 | [],dec,st,lg,K,h=>⟨[],rfl,trivial,by have h:K st lg:=h;simpa [oW,lS] using h⟩
 |o::rest,dec,st,lg,K,h=>by
  have exec: ∀Cy,kW all o st true->p8 ctx o.op st (fun r=>nE ctx all rest Cy (st.app o.dst r) (lg++ [FF o.op (fM st.tmps) st.heap.length r]) K)->
    ∃tr:List (Option Rec),tr.length=(o::rest).length/\ yR P ctx.X all (o::rest) st tr/\ K (oW (o::rest) st tr) (lg++lS (o::rest) st tr):=by
   intro Cy hg h
   obtain ⟨ur,h⟩:=Ea h
   obtain ⟨r,hl,hk,hlk⟩:=T5 hT hS h
   obtain ⟨tr,h1,h2,h3⟩:=vu hT hS all rest Cy _ _ K hk
   exact ⟨some r::tr,by simp [h1],⟨⟨hg,ur,hl,hlk⟩,h2⟩,by simpa [oW,lS,lY,Dh] using h3⟩
  have skip: ∀Cy,kW all o st false->nE ctx all rest Cy {st with tmps:=jb st.tmps o.dst aT} (lg++ [lz st.heap.length]) K->
    ∃tr:List (Option Rec),tr.length=(o::rest).length/\ yR P ctx.X all (o::rest) st tr/\ K (oW (o::rest) st tr) (lg++lS (o::rest) st tr):=by
   intro Cy hg h
   obtain ⟨tr,h1,h2,h3⟩:=vu hT hS all rest Cy _ _ K h
   exact ⟨none::tr,by simp [h1],⟨hg,h2⟩,by simpa [oW,lS,lY,Dh] using h3⟩
  unfold nE at h
  split at h
  ·rename_i hg
   exact exec dec (by simp [kW,hg]) h
  ·rename_i j want hg
   split at h
   ·rename_i d hd
    split at h
    ·rename_i x hx
     have G: ∀b,(x==want)=b->kW all o st b:=fun b hb=>by simp only [kW,hg];exact ⟨d,hd,.inl ⟨x,hx,hb⟩⟩
     split at h
     ·split at h
      ·rename_i e;exact exec dec (G true (by simp [e])) h
      ·rename_i e;exact skip dec (G false (by simpa using e)) h
     ·cases want with
      |true=>
       dsimp only at h
       cases x with
       |true=>
        have h:p8 ctx o.op {st with tmps:=st.tmps.set d (bH true)} _:=h
        rw [lX hx] at h
        exact exec _ (G true rfl) h
       |false=>
        have h:nE ctx all rest (d::dec) {st with tmps:=jb (st.tmps.set d (bH false)) o.dst aT} (lg++ [lz st.heap.length]) K:=h
        rw [lX hx] at h
        exact skip _ (G false rfl) h
      |false=>
       dsimp only at h
       cases x with
       |false=>
        have h:p8 ctx o.op {st with tmps:=st.tmps.set d (bH false)} _:=h
        rw [lX hx] at h
        exact exec _ (G true rfl) h
       |true=>
        have h:nE ctx all rest (d::dec) {st with tmps:=jb (st.tmps.set d (bH true)) o.dst aT} (lg++ [lz st.heap.length]) K:=h
        rw [lX hx] at h
        exact skip _ (G false rfl) h
    ·rename_i hx
     exact skip dec (by simp only [kW,hg];exact ⟨d,hd,.inr ⟨hx,trivial⟩⟩) h
    ·exact h.elim
   ·exact h.elim
theorem K9 {X:Addr->Value->Prop} {all:Array Oper} : ∀(l:List Oper) (st:AS) (tr:List (Option Rec)) (i:Nat) (o:Oper) (r:Option Rec),yR P X all l st tr->l[i]? =some o->tr[i]? =some r->
  NH P X all o (oW (l.take i) st (tr.take i)) r/\ oW (l.take (i+1)) st (tr.take (i+1))=lY o (oW (l.take i) st (tr.take i)) r/\
  (lS l st tr)[i]? =some (Dh o (oW (l.take i) st (tr.take i)) r)
 |o'::l,st,r'::tr,0,o,r,h,ho,hr=>by
  simp at ho hr;subst ho;subst hr
  exact ⟨by simpa [oW] using h.1,by simp [oW],by simp [lS,oW]⟩
 |o'::l,st,r'::tr,i+1,o,r,h,ho,hr=>by
  have:=K9 l (lY o' st r') tr i o r h.2 (by simpa using ho) (by simpa using hr)
  simpa [oW,lS] using this
 | [],_,_,_,_,_,_,ho,_=>by simp at ho
 |_::_,_,[],_,_,_,_,_,hr=>by simp at hr
end
inductive Pj (ops:List Oper):Nat->Nat->Prop
 |edge {i j:Nat} {o:Oper} :ops[i]? =some o->j∈direct o->Pj ops i j
 |trans {i j k:Nat} {o:Oper} :ops[i]? =some o->k∈direct o->Pj ops k j->Pj ops i j
theorem JE (acc:List Nat): ∀(ds:List Nat) (s j:Nat),(ds.foldl (fun s j=>s|||(2^j|||acc.getD j 0)) s).testBit j=true->s.testBit j=true\/ ∃k∈ds,j=k\/ (acc.getD k 0).testBit j=true
 | [],s,j,h=> .inl h
 |d::r,s,j,h=>by
  rcases JE acc r _ j h with h1|⟨k,hk,h1⟩
  ·rw [Nat.testBit_or,Nat.testBit_or,Bool.or_eq_true,Bool.or_eq_true] at h1
   rcases h1 with h1|h1|h1
   ·exact .inl h1
   ·rw [Nat.testBit_two_pow] at h1
    exact .inr ⟨d,by simp,.inl (by simpa using (of_decide_eq_true h1).symm)⟩
   ·exact .inr ⟨d,by simp,.inr h1⟩
  ·exact .inr ⟨k,by simp [hk],h1⟩
theorem Dl (ops:List Oper): ∀(l pre:List Oper) (acc:List Nat),ops=pre++l->acc.length=pre.length->(∀i j,(acc.getD i 0).testBit j=true->Pj ops i j)->
  ∀i j,((oH l acc).getD i 0).testBit j=true->Pj ops i j
 | [],pre,acc,_,_,h,i,j,hb=>h i j hb
 |o::l,pre,acc,he,hl,h,i,j,hb=>by
  refine Dl ops l (pre++ [o]) _ (by simp [he]) (by simp [hl]) (fun i j hb=> ?_) i j hb
  simp only [List.getD,List.getElem?_append] at hb
  split at hb
  ·exact h i j hb
  ·rename_i hi
   by_cases e:i=pre.length
   ·subst e
    rw [hl,Nat.sub_self] at hb
    simp only [List.getElem?_cons_zero,Option.getD_some] at hb
    have ho:ops[pre.length]? =some o:=by rw [he];simp
    rcases JE acc _ _ _ hb with h1|⟨k,hk,h1⟩
    ·simp at h1
    ·rcases h1 with rfl|h1
     ·exact .edge ho hk
     ·exact .trans ho hk (h k j h1)
   ·rw [List.getElem?_eq_none (by simp;omega)] at hb
    simp at hb
structure FS where
 T:Nat->AV
 G:HP
 Kn:Nat->Prop
theorem FS.ext' {a b:FS} (h1: ∀t,a.T t=b.T t) (h2: ∀m,a.G m=b.G m) (h3: ∀m,a.Kn m↔b.Kn m):a=b:=by
 obtain ⟨T,G,K⟩:=a
 obtain ⟨T',G',K'⟩:=b
 have e1:T=T':=funext h1
 have e2:G=G':=funext h2
 have e3:K=K':=funext fun m=>propext (h3 m)
 rw [e1,e2,e3]
def jY (st:AS):FS:=⟨dP st.tmps,av st.heap,(· <st.heap.length)⟩
def EJ (N:Nat) (o:Oper) (nm:Nat):Option Rec->FS->FS
 |some r,s=>⟨fun t=>if o.dst=some t/\ t<N then r.val else s.T t,cq r nm s.G,iK s.Kn nm r⟩
 |none,s=>⟨fun t=>if o.dst=some t/\ t<N then aT else s.T t,s.G,s.Kn⟩
theorem Ti (d t N:Nat) (v w:AV):(if d=t/\ t<N then v else w)=if t=d/\ d<N then v else w:=by
 by_cases e:d=t
 ·subst e;simp
 ·rw [if_neg (fun h=>e h.1),if_neg (fun h=>e h.1.symm)]
theorem T6 {N:Nat} {o:Oper} {st:AS} (hN:st.tmps.length=N): ∀(r:Option Rec),(∀q,r=some q-> ∀p∈q.writes,av st.heap p.1≠none)->EJ N o st.heap.length r (jY st)=jY (lY o st r)
 |some r,h=>by
  refine FS.ext' (fun t=> ?_) (fun m=> ?_) (fun m=> ?_)
  ·simp only [EJ,jY,lY,AS.app,jF]
   cases o.dst with
   |none=>simp
   |some d=>simp only [Option.some.injEq,hN];exact Ti d t N _ _
  ·simp only [EJ,jY,lY];rw [I7 st o.dst r (h r rfl)]
  ·simp only [EJ,jY,lY,iK,l8];omega
 |none,h=>by
  refine FS.ext' (fun t=> ?_) (fun m=>rfl) (fun m=>Iff.rfl)
  simp only [EJ,jY,lY,jF]
  cases o.dst with
  |none=>simp
  |some d=>simp only [Option.some.injEq,hN];exact Ti d t N _ _
def covers (nm:Nat) (r:Option Rec) (m:Nat):Prop:=match r with
 |some r=>nm<=m/\ m<nm+r.fresh.length
 |none=>False
def rz:Option Rec->List Nat
 |some r=>r.writes.map (·.1)
 |none=> []
def Cb:Option Rec->List Nat
 |some r=>r.aB
 |none=> []
theorem MG {ws:List (Nat×aQ)} {m:Nat} (h:m∉ws.map (·.1)):ct ws m=none:=by
 induction ws with
 |nil=>rfl
 |cons p r ih=>
  simp only [List.map_cons,List.mem_cons,not_or] at h
  simp only [ct,ih h.2]
  rw [if_neg (fun e=>h.1 e.symm)]
theorem abB {N nm:Nat} {o:Oper} {r:Option Rec} {s s':FS} {m:Nat} (h:s.G m=s'.G m):(EJ N o nm r s).G m=(EJ N o nm r s').G m:=by
 cases r with
 |none=>exact h
 |some r=>simp only [EJ,cq,h]
theorem QT {N nm:Nat} {o:Oper} {r:Option Rec} {s:FS} {m:Nat} (h1: ¬covers nm r m) (h2:m∉rz r):(EJ N o nm r s).G m=s.G m:=by
 cases r with
 |none=>rfl
 |some r=>
  have h1: ¬(nm<=m/\ m<nm+r.fresh.length):=h1
  have h2:m∉r.writes.map (·.1):=h2
  simp only [EJ,cq];rw [if_neg h1,MG h2]
section
variable (N:Nat) (ops:List Oper) (tr:List (Option Rec)) (bT:AS)
def yQ (i:Nat):AS:=oW (ops.take i) bT (tr.take i)
def yE (i:Nat) (s:FS):FS:=match ops[i]?,tr[i]? with
 |some o,some r=>EJ N o (yQ ops tr bT i).heap.length r s
 |_,_=>s
def part (L:Nat->Bool) (is:List Nat) (s:FS):FS:=is.foldl (fun s i=>if L i then yE N ops tr bT i s else s) s
def EA (i:Nat):Option Nat:=(ops[i]?).bind (·.dst)
def fk (i:Nat):Option Rec:=(tr[i]?).join
def zw (i:Nat):Nat:=(yQ ops tr bT i).heap.length
end
section
variable {N:Nat} {ops:List Oper} {tr:List (Option Rec)} {bT:AS}
theorem UM {i t:Nat} {s s':FS} (h:s.T t=s'.T t):(yE N ops tr bT i s).T t=(yE N ops tr bT i s').T t:=by
 unfold yE;split
 ·rename_i o r _ _
  cases r<;>simp only [EJ,h]
 ·exact h
theorem p7 {i t:Nat} {s:FS} (h:EA ops i≠some t):(yE N ops tr bT i s).T t=s.T t:=by
 unfold yE;split
 ·rename_i o r ho _
  have:o.dst≠some t:=by simpa [EA,ho] using h
  cases r<;>simp only [EJ]<;>rw [if_neg (fun e=>this e.1)]
 ·rfl
theorem UL {i m:Nat} {s s':FS} (h:s.G m=s'.G m):(yE N ops tr bT i s).G m=(yE N ops tr bT i s').G m:=by
 unfold yE;split
 ·exact abB h
 ·exact h
theorem pZ {i m:Nat} {s:FS} (h1: ¬covers (zw ops tr bT i) (fk tr i) m) (h2:m∉rz (fk tr i)):(yE N ops tr bT i s).G m=s.G m:=by
 unfold yE;split
 ·rename_i o r _ hr
  have e:fk tr i=r:=by simp [fk,hr]
  rw [e] at h1 h2
  exact QT h1 h2
 ·rfl
theorem D9 {i m:Nat} {s:FS} (hi:i<ops.length):(yE N ops tr bT i s).Kn m↔s.Kn m\/ covers (zw ops tr bT i) (fk tr i) m:=by
 unfold yE;split
 ·rename_i o r _ hr
  have e:fk tr i=r:=by simp [fk,hr]
  rw [e]
  cases r with
  |none=>simp [EJ,covers]
  |some r=>exact Iff.rfl
 ·rename_i hh
  have:tr[i]? =none:=by
   cases hr:tr[i]? with
   |none=>rfl
   |some r=>exact (hh _ r (List.getElem?_eq_getElem hi) hr).elim
  simp [fk,this,covers]
theorem MY {L L':Nat->Bool} {t:Nat} : ∀(is:List Nat) (s s':FS),s.T t=s'.T t->(∀i∈is,EA ops i=some t->L i=L' i)->(part N ops tr bT L is s).T t=(part N ops tr bT L' is s').T t
 | [],s,s',h,_=>h
 |i::r,s,s',h,hl=>by
  refine MY r _ _ ?_ (fun j hj=>hl j (by simp [hj]))
  by_cases e:EA ops i=some t
  ·dsimp only
   rw [hl i (by simp) e]
   split
   ·exact UM h
   ·exact h
  ·have h1: ∀(b:Bool) (s:FS),(if b then yE N ops tr bT i s else s).T t=s.T t:=fun b s=>by
    cases b
    ·rfl
    ·exact p7 e
   rw [h1,h1];exact h
theorem MX {L L':Nat->Bool} {m:Nat} : ∀(is:List Nat) (s s':FS),s.G m=s'.G m->(∀i∈is,(covers (zw ops tr bT i) (fk tr i) m\/ m∈rz (fk tr i))->L i=L' i)->(part N ops tr bT L is s).G m=(part N ops tr bT L' is s').G m
 | [],s,s',h,_=>h
 |i::r,s,s',h,hl=>by
  refine MX r _ _ ?_ (fun j hj=>hl j (by simp [hj]))
  by_cases e:covers (zw ops tr bT i) (fk tr i) m\/ m∈rz (fk tr i)
  ·dsimp only
   rw [hl i (by simp) e]
   split
   ·exact UL h
   ·exact h
  ·have h1: ∀(b:Bool) (s:FS),(if b then yE N ops tr bT i s else s).G m=s.G m:=fun b s=>by
    cases b
    ·rfl
    ·exact pZ (fun c=>e (.inl c)) (fun c=>e (.inr c))
   rw [h1,h1];exact h
theorem B6 {L:Nat->Bool} {m:Nat} : ∀(is:List Nat) (s:FS),(∀i∈is,i<ops.length)->((part N ops tr bT L is s).Kn m↔s.Kn m\/ ∃i∈is,L i=true/\ covers (zw ops tr bT i) (fk tr i) m)
 | [],s,_=>by simp [part]
 |i::r,s,hi=>by
  show (part N ops tr bT L r _).Kn m↔_
  rw [B6 r _ (fun j hj=>hi j (by simp [hj]))]
  dsimp only
  by_cases e:L i=true
  ·rw [if_pos e,D9 (hi i (by simp))]
   constructor
   ·rintro ((h|h)|⟨j,hj,h⟩)
    ·exact .inl h
    ·exact .inr ⟨i,by simp,e,h⟩
    ·exact .inr ⟨j,by simp [hj],h⟩
   ·rintro (h|⟨j,hj,h⟩)
    ·exact .inl (.inl h)
    ·rcases List.mem_cons.1 hj with rfl|hj
     ·exact .inl (.inr h.2)
     ·exact .inr ⟨j,hj,h⟩
  ·rw [if_neg e]
   constructor
   ·rintro (h|⟨j,hj,h⟩)
    ·exact .inl h
    ·exact .inr ⟨j,by simp [hj],h⟩
   ·rintro (h|⟨j,hj,h⟩)
    ·exact .inl h
    ·rcases List.mem_cons.1 hj with rfl|hj
     ·exact absurd h.1 e
     ·exact .inr ⟨j,hj,h⟩
structure Rx (ops:List Oper) (tr:List (Option Rec)) (bT:AS) (i j:Nat):Prop where
 dst: ∀d,EA ops i=some d->EA ops j≠some d
 wr: ∀m,m∈rz (fk tr i)->m∉rz (fk tr j)
 fr: ∀m,covers (zw ops tr bT i) (fk tr i) m-> ¬covers (zw ops tr bT j) (fk tr j) m
 wf: ∀m,m∈rz (fk tr i)-> ¬covers (zw ops tr bT j) (fk tr j) m
 fw: ∀m,m∈rz (fk tr j)-> ¬covers (zw ops tr bT i) (fk tr i) m
theorem UN {i j:Nat} (h:Rx ops tr bT i j) (hi:i<ops.length) (hj:j<ops.length) (s:FS):yE N ops tr bT j (yE N ops tr bT i s)=yE N ops tr bT i (yE N ops tr bT j s):=by
 refine FS.ext' (fun t=> ?_) (fun m=> ?_) (fun m=> ?_)
 ·by_cases e:EA ops i=some t
  ·rw [p7 (h.dst t e)]
   exact UM (p7 (h.dst t e)).symm
  ·rw [p7 (i:=i) e]
   exact UM (p7 e)
 ·by_cases e:covers (zw ops tr bT i) (fk tr i) m∨m∈rz (fk tr i)
  ·have e2: ¬covers (zw ops tr bT j) (fk tr j) m:=e.elim (h.fr m) (h.wf m)
   have e3:m∉rz (fk tr j):=fun hm=>e.elim (h.fw m hm) (fun hi=>h.wr m hi hm)
   rw [pZ e2 e3]
   exact UL (pZ e2 e3).symm
  ·have e2: ¬covers (zw ops tr bT i) (fk tr i) m:=fun c=>e (.inl c)
   have e3:m∉rz (fk tr i):=fun c=>e (.inr c)
   rw [pZ (i:=i) e2 e3]
   exact UL (pZ e2 e3)
 ·rw [D9 hj,D9 hi,D9 hi,D9 hj]
  constructor
  ·rintro ((h|h)|h)
   ·exact .inl (.inl h)
   ·exact .inr h
   ·exact .inl (.inr h)
  ·rintro ((h|h)|h)
   ·exact .inl (.inl h)
   ·exact .inr h
   ·exact .inl (.inr h)
theorem F1 {L:Nat->Bool} {i:Nat} (hi:i<ops.length): ∀(is:List Nat) (s:FS),(∀j∈is,j<ops.length)->(∀j∈is,L j=true->Rx ops tr bT i j)->part N ops tr bT L is (yE N ops tr bT i s)=yE N ops tr bT i (part N ops tr bT L is s)
 | [],s,_,_=>rfl
 |j::r,s,hlt,h=>by
  show part N ops tr bT L r _=yE N ops tr bT i (part N ops tr bT L r _)
  rw [<- F1 hi r _ (fun k hk=>hlt k (by simp [hk])) (fun k hk=>h k (by simp [hk]))]
  congr 1
  dsimp only
  by_cases e:L j=true
  ·rw [if_pos e,if_pos e,UN (h j (by simp) e) hi (hlt j (by simp))]
  ·rw [if_neg e,if_neg e]
theorem Ua {L:Nat->Bool} {n i:Nat} (hn:n<=ops.length) (hi:i<n) (hL:L i=false) (h: ∀j,j<n->i<j->L j=true->Rx ops tr bT i j) (s:FS):
  part N ops tr bT (fun j=>L j||j==i) (List.range n) s=yE N ops tr bT i (part N ops tr bT L (List.range n) s):=by
 have e:List.range n=List.range i++i::List.range' (i+1) (n- (i+1)):=by
  have e1:=List.range'_append_1 (s:=0) (m:=i) (n:=n- (i+1)+1)
  rw [List.range_eq_range',List.range_eq_range',<- List.range'_succ]
  rw [Nat.zero_add] at e1
  rw [e1];congr 1;omega
 have aaA: ∀(L:Nat->Bool) (s:FS),part N ops tr bT L (List.range n) s=part N ops tr bT L (List.range' (i+1) (n- (i+1))) (if L i then yE N ops tr bT i (part N ops tr bT L (List.range i) s) else part N ops tr bT L (List.range i) s):=by
  intro L s;rw [e];simp [part,List.foldl_append]
 rw [aaA,aaA]
 have hsame: ∀(is:List Nat) (s:FS),(∀j∈is,j≠i)->part N ops tr bT (fun j=>L j||j==i) is s=part N ops tr bT L is s:=by
  intro is
  induction is with
  |nil=>intro s _;rfl
  |cons j r ih=>
   intro s hj
   show part N ops tr bT _ r _=part N ops tr bT L r _
   have:(j==i)=false:=by simpa using hj j (by simp)
   simp only [this,Bool.or_false]
   exact ih _ (fun k hk=>hj k (by simp [hk]))
 rw [hsame _ _ (fun j hj=>by have:=List.mem_range'_1.1 hj;omega),hsame _ _ (fun j hj=>by have:=List.mem_range.1 hj;omega)]
 simp only [hL,Bool.false_or,beq_self_eq_true,if_true,Bool.false_eq_true,if_false]
 exact F1 (by omega) _ _ (fun j hj=>by have:=List.mem_range'_1.1 hj;omega) (fun j hj hl=>by have:=List.mem_range'_1.1 hj;exact h j (by omega) (by omega) hl)
end
section
variable {P:Program} {ctx:Ctx} {ax:jh} {W:World} {df:List Deferred}
theorem Pj.closed {ops:List Oper} {L:Nat->Prop} (hL: ∀i o,L i->ops[i]? =some o-> ∀j∈direct o,L j) {i j:Nat} (h:Pj ops i j):L i->L j:=by
 induction h with
 |edge ho hj=>intro h;exact hL _ _ h ho _ hj
 |trans ho hk _ ih=>intro h;exact ih (hL _ _ h ho _ hk)
theorem Pj.QN {ops:List Oper} {L:Nat->Prop} (hL: ∀i o,L i->ops[i]? =some o-> ∀j∈direct o,L j) {i j:Nat} {o:Oper} (ho:ops[i]? =some o) (hd: ∀j∈direct o,L j) (h:Pj ops i j):L j:=by
 cases h with
 |edge tY hj=>rw [ho] at tY;cases tY;exact hd _ hj
 |trans tY hk h'=>rw [ho] at tY;cases tY;exact h'.closed hL (hd _ hk)
theorem Rf (o:Oper) (st:AS) (r:Option Rec):(lY o st r).tmps.length=st.tmps.length:=by
 cases r<;>simp [lY,AS.app,pB]
theorem Nv (o:Oper) (st:AS) (r:Option Rec):(lY o st r).heap.length=st.heap.length+(match r with|some r=>r.fresh.length|none=>0):=by
 cases r<;>simp [lY,AS.app,ef]
theorem J8 {x:Nat} : ∀ {l:List Nat},Bm x l=true↔x∈l
 | []=>by simp [Bm]
 |y::r=>by simp [Bm,J8 (l:=r),Nat.beq_eq]
theorem H6 {x:Nat} {l:List Nat} :Bm x l=l.contains x:=by
 rw [Bool.eq_iff_iff,J8];simp
theorem Pa: ∀ {a b:List Nat},WZ a b=a.all fun m=>b.contains m
 | [],_=>rfl
 |x::r,b=>by simp only [WZ,List.all_cons,Pa (a:=r),H6]
theorem NS: ∀ {a b:List Nat},LM a b=Fc a b
 | [],_=>rfl
 |x::r,b=>by
  have:=NS (a:=r) (b:=b)
  unfold Fc at this ⊢
  simp only [LM,List.all_cons,this,H6]
theorem FL: ∀(l:List Oper) (k:Nat) (acc:List Nat),acc.length=k->(HZ l k acc).reverse=oH l acc.reverse
 | [],k,acc,_=>rfl
 |o::l,k,acc,h=>by
  have h1:=FL l (k+1) ((direct o).foldl (fun s j=>s|||(2^j|||(bif Nat.blt j k then acc.getD (k- 1- j) 0 else 0))) 0::acc) (by simp [h])
  have e:(fun (s j:Nat)=>s|||(2^j|||(bif Nat.blt j k then acc.getD (k- 1- j) 0 else 0)))=fun s j=>s|||(2^j|||acc.reverse.getD j 0):=by
   funext s j
   rcases Nat.lt_or_ge j k with hj|hj
   ·have hb:Nat.blt j k=true:=by simpa [Nat.blt_eq] using hj
    rw [hb,cond_true,List.getD_eq_getElem?_getD,List.getD_eq_getElem?_getD,List.getElem?_reverse (by omega),h]
   ·have hb:Nat.blt j k=false:=by
     rw [Bool.eq_false_iff];simp only [ne_eq,Nat.blt_eq];omega
    rw [hb,cond_false,List.getD_eq_getElem?_getD,List.getElem?_eq_none (by simp;omega)]
    rfl
  rw [HZ,h1,oH,List.reverse_cons,e]
theorem YZ (ops:Array Oper):msF ops=oH ops.toList []:=FL _ 0 [] rfl
theorem FM: ∀(l:List Oper) (acc:List Nat),(oH l acc).length=acc.length+l.length
 | [],acc=>rfl
 |o::l,acc=>by rw [oH,FM l];simp;omega
theorem Ig {all:Array Oper} : ∀(l:List Oper) (ms:List Nat) (i:Nat) (o:Oper) (m:Nat),l[i]? =some o->ms[i]? =some m->(oiL all l ms)[i]? =some ⟨o.dst,j5 all o,m⟩
 | [],_,i,o,m,h,_=>by simp at h
 |_::_,[],i,o,m,_,h=>by simp at h
 |p::l,q::ms,0,o,m,h,h'=>by
  simp only [List.getElem?_cons_zero,Option.some.injEq] at h h'
  subst h;subst h';rfl
 |p::l,q::ms,i+1,o,m,h,h'=>by
  simp only [List.getElem?_cons_succ] at h h'
  exact Ig l ms i o m h h'
theorem yH {o:OI} : ∀(l:List OI) (j k:Nat),yG o l j k=true-> ∀(t:Nat) (p:OI),t<k->l[t]? =some p->o.m.testBit (j+t)=true\/ O8 o p=true
 | [],j,k,_,t,p,_,h=>by simp at h
 |q::l,j,0,_,t,p,ht,_=>by omega
 |q::l,j,k+1,h,t,p,ht,hp=>by
  simp only [yG,Bool.and_eq_true,Bool.or_eq_true] at h
  match t,hp with
  |0,hp=>
   simp only [List.getElem?_cons_zero,Option.some.injEq] at hp
   subst hp
   exact h.1
  |t+1,hp=>
   have:=yH l (j+1) k h.2 t p (by omega) (by simpa using hp)
   rwa [show j+1+t=j+(t+1) by omega] at this
theorem yF {all:List OI} : ∀(l:List OI) (i:Nat),B9 all l i=true-> ∀(t:Nat) (o:OI),l[t]? =some o->yG o all 0 (i+t)=true
 | [],i,_,t,o,h=>by simp at h
 |q::l,i,h,t,o,ho=>by
  simp only [B9,Bool.and_eq_true] at h
  match t,ho with
  |0,ho=>
   simp only [List.getElem?_cons_zero,Option.some.injEq] at ho
   subst ho
   exact h.1
  |t+1,ho=>
   have:=yF l (i+1) h.2 t o (by simpa using ho)
   rwa [show i+1+t=i+(t+1) by omega] at this
theorem Ah: ∀(l:List Oper) (i:Nat),Ht l i=true-> ∀(t:Nat) (o:Oper),l[t]? =some o-> ∀j∈direct o,j<i+t
 | [],i,_,t,o,h=>by simp at h
 |q::l,i,h,t,o,ho=>by
  simp only [Ht,Bool.and_eq_true] at h
  match t,ho with
  |0,ho=>
   simp only [List.getElem?_cons_zero,Option.some.injEq] at ho
   subst ho
   intro j hj
   have:=List.all_eq_true.1 h.1 j hj
   rw [Nat.blt_eq] at this
   exact this
  |t+1,ho=>
   intro j hj
   have:=Ah l (i+1) h.2 t o (by simpa using ho) j hj
   omega
theorem CH: ∀(lg:List gC) (ms:List Nat) (k i:Nat) (l:gC) (m:Nat),lg[i]? =some l->ms[i]? =some m->(l.aB= []/\ l.wr= [])\/ DI.mk (k+i) m l.aB l.wr∈PY lg ms k
 | [],_,_,i,_,_,h,_=>by simp at h
 |_::_,[],_,i,_,_,_,h=>by simp at h
 |q::lg,n::ms,k,0,l,m,h,h'=>by
  simp only [List.getElem?_cons_zero,Option.some.injEq] at h h'
  subst h;subst h'
  simp only [PY]
  split
  ·exact .inl ⟨by assumption,by assumption⟩
  ·exact .inr (by simp)
 |q::lg,n::ms,k,i+1,l,m,h,h'=>by
  simp only [List.getElem?_cons_succ] at h h'
  have:=CH lg ms (k+1) i l m h h'
  rw [show k+1+i=k+(i+1) by omega] at this
  rcases this with h1|h1
  ·exact .inl h1
  ·refine .inr ?_
   simp only [PY]
   split
   ·exact h1
   ·exact List.mem_cons_of_mem _ h1
theorem FH (x:Nat): ∀(lg:List gC) (k:Nat),HX x (mkL lg k)=(xo lg x).map (· +k)
 | [],k=>rfl
 |l::lg,k=>by
  have ih:=FH x lg (k+1)
  have e: ∀(b:Bool),(l.nm<=x&&x<l.nm+l.cnt:Bool)=b->xo (l::lg) x=bif b then some 0 else (xo lg x).map (· +1):=fun b hb=>by
   unfold xo
   rw [List.findIdx?_cons]
   simp only [hb]
   cases b<;>rfl
  simp only [mkL]
  split
  ·rename_i hc
   rw [ih,e false (by rw [hc];simp)]
   simp only [cond_false,Option.map_map]
   congr 1
   funext y
   simp only [Function.comp_apply];omega
  ·rename_i c hc
   simp only [HX]
   have hb:(Nat.ble l.nm x&&Nat.blt x (l.nm+l.cnt))=(l.nm<=x&&x<l.nm+l.cnt:Bool):=by
    rw [Bool.eq_iff_iff];simp [Nat.blt_eq]
   rw [hb,e _ rfl,ih]
   cases (l.nm<=x&&x<l.nm+l.cnt:Bool)
   ·simp only [cond_false,Option.map_map]
    congr 1
    funext y
    simp only [Function.comp_apply];omega
   ·simp
theorem Nu {all:Array Oper} {o p:Oper} {m n:Nat} (h:O8 ⟨o.dst,j5 all o,m⟩ ⟨p.dst,j5 all p,n⟩=true):
  ((match p.dst with|some d=>o.dst !=some d&& !(j5 all o).contains d|none=>true)&&(match o.dst with|some d=> !(j5 all p).contains d|none=>true))=true:=by
 simp only [O8,Bool.and_eq_true,H6] at h ⊢
 refine ⟨?_,?_⟩
 ·have h:=h.1
  cases hp:p.dst with
  |none=>rfl
  |some d=>
   rw [hp] at h
   simp only [Bool.and_eq_true] at h ⊢
   refine ⟨?_,h.2⟩
   have h:=h.1
   cases ho:o.dst with
   |none=>simp
   |some e=>
    rw [ho] at h
    simp only [Bool.not_eq_true',<- Bool.not_eq_true,Nat.beq_eq] at h
    simp [h]
 ·exact h.2
theorem force_eq {α:Type} (n:Nat) (k:Nat->α):force n k=k n:=by cases n<;>rfl
theorem zl {α:Type} : ∀(l:List Nat) (k:List Nat->α),CT l k=k l
 | [],_=>rfl
 |x::r,k=>by rw [CT,force_eq,zl r]
theorem CS {α:Type} : ∀(l:List gC) (k:List gC->α),BQ l k=k l
 | [],_=>rfl
 |e::r,k=>by rw [BQ,force_eq,force_eq,zl,zl,CS r]
theorem IK: ∀(D:List DI) (o:DI),o∈D->o.w= []\/ o∈ZN D
 | [],_,h=>by cases h
 |p::r,o,h=>by
  rcases List.mem_cons.1 h with rfl|h
  ·cases hw:o.w with
   |nil=>exact .inl rfl
   |cons a l=>refine .inr ?_;rw [ZN,hw];exact List.mem_cons_self ..
  ·rcases IK r o h with h1|h1
   ·exact .inl h1
   ·refine .inr ?_
    rw [ZN];split
    ·exact h1
    ·exact List.mem_cons_of_mem _ h1
theorem Jr {o p:DI} (ho:o.w= []) (hp:p.w= []):tg o p=true:=by
 simp [tg,ho,hp,LM]
theorem PZ {D:List DI} {mk:List (Nat×Nat×Nat)} (h:R8 D mk=true):(D.all fun o=>LN mk o&&D.all (tg o))=true:=by
 simp only [R8,Bool.and_eq_true] at h
 refine List.all_eq_true.2 fun o ho=> ?_
 simp only [Bool.and_eq_true]
 refine ⟨List.all_eq_true.1 h.1 o ho,List.all_eq_true.2 fun p hp=> ?_⟩
 rcases IK D o ho with h1|h1
 ·rcases IK D p hp with h2|h2
  ·exact Jr h1 h2
  ·have:=List.all_eq_true.1 (List.all_eq_true.1 h.2 p h2) o ho
   simp only [Bool.and_eq_true] at this
   exact this.1
 ·have:=List.all_eq_true.1 (List.all_eq_true.1 h.2 o h1) p hp
  simp only [Bool.and_eq_true] at this
  exact this.2
theorem Dx {ops:Array Oper} {lg:List gC} (h:tP ops lg=true):Oz ops lg=true:=by
 simp only [tP,CS,UO,Bool.and_eq_true] at h
 obtain ⟨⟨h1,h2,h3⟩,h4⟩:=h
 have h4:=PZ h4
 have hlen:lg.length=ops.size:=Nat.eq_of_beq_eq_true h1
 rw [YZ] at h3 h4
 have hml:(oH ops.toList []).length=ops.size:=by rw [FM];simp
 simp only [Oz,Bool.and_eq_true,beq_iff_eq]
 refine ⟨hlen,List.all_eq_true.2 fun i hi=> ?_⟩
 have hi:i<ops.size:=List.mem_range.1 hi
 obtain ⟨o,ho⟩: ∃o,ops.toList[i]? =some o:=⟨ops[i],by simp [hi]⟩
 have tY:ops[i]? =some o:=by simpa using ho
 obtain ⟨l,hl⟩: ∃l,lg[i]? =some l:=⟨_,List.getElem?_eq_getElem (by omega)⟩
 obtain ⟨m,hm⟩: ∃m,(oH ops.toList [])[i]? =some m:=⟨_,List.getElem?_eq_getElem (by omega)⟩
 have hmi:(oH ops.toList []).getD i 0=m:=by rw [List.getD_eq_getElem?_getD,hm];rfl
 generalize (oH ops.toList [])=ms at h3 h4 hml hm hmi ⊢
 unfold MV
 rw [tY,hl]
 simp only [Bool.and_eq_true]
 have hd:=CH lg ms 0 i l m hl hm
 rw [Nat.zero_add] at hd
 have hone:(l.wr.all fun m=>l.aB.contains m)=true/\ (l.aB.all fun x=>match xo lg x with|some j=>j==i||m.testBit j|none=>true)=true:=by
  rcases hd with ⟨e1,e2⟩|hd
  ·rw [e1,e2];exact ⟨rfl,rfl⟩
  ·have:=List.all_eq_true.1 h4 _ hd
   simp only [Bool.and_eq_true,LN] at this
   obtain ⟨⟨g1,g2⟩,_⟩:=this
   rw [Pa] at g1
   refine ⟨g1,List.all_eq_true.2 fun x hx=> ?_⟩
   have:=List.all_eq_true.1 g2 x hx
   rw [FH] at this
   cases hk:xo lg x with
   |none=>rfl
   |some j=>
    rw [hk] at this
    simp only [Option.map_some,Nat.add_zero,Bool.or_eq_true,Nat.beq_eq] at this
    simpa using this
 rw [hmi]
 refine ⟨⟨⟨?_,hone.1⟩,hone.2⟩,List.all_eq_true.2 fun j hj=> ?_⟩
 ·refine List.all_eq_true.2 fun j hj=> ?_
  have:=Ah _ _ h2 i o ho j hj
  simpa using this
 ·have hj:j<i:=List.mem_range.1 hj
  obtain ⟨oj,hoj⟩: ∃o,ops.toList[j]? =some o:=⟨ops[j]'(by omega),by simp [show j<ops.size by omega]⟩
  have ado:ops[j]? =some oj:=by simpa using hoj
  obtain ⟨lj,Yu⟩: ∃l,lg[j]? =some l:=⟨_,List.getElem?_eq_getElem (by omega)⟩
  obtain ⟨mj,hmj⟩: ∃m,ms[j]? =some m:=⟨_,List.getElem?_eq_getElem (by omega)⟩
  rw [ado,Yu]
  simp only [Bool.or_eq_true]
  rcases Bool.eq_false_or_eq_true (m.testBit j) with hb|hb
  ·exact .inl hb
  ·refine .inr ?_
   have hs:=yH _ _ _ (yF _ _ h3 i _ (Ig _ _ i o m ho hm)) j _ (by omega) (Ig _ _ j oj mj hoj hmj)
   rw [Nat.zero_add,hb] at hs
   have hs:=Nu (hs.resolve_left (by simp))
   simp only [Bool.and_eq_true] at hs ⊢
   refine ⟨⟨?_,hs.1⟩,hs.2⟩
   have hdj:=CH lg ms 0 j lj mj Yu hmj
   rw [Nat.zero_add] at hdj
   rcases hd with ⟨e1,e2⟩|hd
   ·rw [e1,e2]
    refine ⟨⟨rfl,?_⟩,rfl⟩
    exact List.all_eq_true.2 fun _ _=>rfl
   ·rcases hdj with ⟨e1,e2⟩|hdj
    ·rw [e1,e2]
     exact ⟨⟨List.all_eq_true.2 fun _ _=>rfl,rfl⟩,List.all_eq_true.2 fun _ _=>rfl⟩
    ·have:=List.all_eq_true.1 h4 _ hd
     simp only [Bool.and_eq_true] at this
     have:=List.all_eq_true.1 this.2 _ hdj
     simp only [tg,Bool.or_eq_true,hb,NS,Bool.and_eq_true] at this
     rcases this with (h|h)|h
     ·rw [Nat.ble_eq] at h;omega
     ·cases h
     ·exact h
structure Good (P:Program) (X:Addr->Value->Prop) (ops:Array Oper) (bT:AS) (tr:List (Option Rec)) (el:List gC):Prop where
 len:tr.length=ops.size
 trace:yR P X ops ops.toList bT tr
 ord:Oz ops el=true
 eff:el=lS ops.toList bT tr\/ el=VN bT.heap (lS ops.toList bT tr)
def IB (el:List gC) (i:Nat):List Nat:=match el[i]? with
 |some l=>l.aB
 |none=> []
variable {X:Addr->Value->Prop} {ops:Array Oper} {bT:AS} {tr:List (Option Rec)} {el:List gC}
theorem Good.at_ (h:Good P X ops bT tr el) {i:Nat} (hi:i<ops.size): ∃o r,ops[i]? =some o/\ ops.toList[i]? =some o/\ tr[i]? =some r/\ fk tr i=r/\ NH P X ops o (yQ ops.toList tr bT i) r/\
  yQ ops.toList tr bT (i+1)=lY o (yQ ops.toList tr bT i) r/\ (lS ops.toList bT tr)[i]? =some (Dh o (yQ ops.toList tr bT i) r):=by
 have ho:ops.toList[i]? =some ops[i]:=by simp [hi]
 have hr:tr[i]? =some (tr[i]'(by rw [h.len];exact hi)):=List.getElem?_eq_getElem _
 obtain ⟨h1,h2,h3⟩:=K9 ops.toList bT tr i _ _ h.trace ho hr
 exact ⟨_,_,by simp [hi],ho,hr,by simp [fk,hr],h1,h2,h3⟩
theorem Good.Zr (h:Good P X ops bT tr el): ∀i,i<=ops.size->(yQ ops.toList tr bT i).tmps.length=bT.tmps.length
 |0,_=>by simp [yQ,oW]
 |i+1,hi=>by
  obtain ⟨o,r,_,_,_,_,_,hs,_⟩:=h.at_ (i:=i) (by omega)
  rw [hs,Rf,h.Zr i (by omega)]
theorem Good.Oo (h:Good P X ops bT tr el) {i:Nat} (hi:i<ops.size):zw ops.toList tr bT (i+1)=zw ops.toList tr bT i+(match fk tr i with|some r=>r.fresh.length|none=>0):=by
 obtain ⟨o,r,_,_,_,hr,_,hs,_⟩:=h.at_ hi
 simp only [zw,hs,Nv,hr]
theorem Good.B3 (h:Good P X ops bT tr el) {i:Nat} : ∀ {j:Nat},i<j->j<=ops.size->zw ops.toList tr bT i+(match fk tr i with|some r=>r.fresh.length|none=>0)<=zw ops.toList tr bT j
 |0,hij,_=>by omega
 |j+1,hij,hj=>by
  by_cases e:i=j
  ·subst e;rw [h.Oo (by omega)];exact Nat.le_refl _
  ·have h1:=h.B3 (i:=i) (j:=j) (by omega) (by omega)
   have h2:=h.Oo (i:=j) (by omega)
   rw [h2];omega
theorem Good.Oq:zw ops.toList tr bT 0=bT.heap.length:=by simp [zw,yQ,oW]
theorem Good.XF (h:Good P X ops bT tr el) {i:Nat} (hi:i<=ops.size):bT.heap.length<=zw ops.toList tr bT i:=by
 rcases Nat.eq_zero_or_pos i with rfl|h0
 ·rw [Good.Oq];exact Nat.le_refl _
 ·have:=h.B3 (i:=0) h0 hi;rw [Good.Oq] at this;omega
theorem qi {nm:Nat} {r:Option Rec} {m:Nat} :covers nm r m↔nm<=m/\ m<nm+(match r with|some r=>r.fresh.length|none=>0):=by
 cases r with
 |none=>exact ⟨fun h=>h.elim,fun h=>by have h1:=h.1;have h2:=h.2;dsimp only at h2;omega⟩
 |some r=>exact Iff.rfl
theorem Good.rR (h:Good P X ops bT tr el) {i j m:Nat} (hi:i<ops.size) (hj:j<ops.size) (h1:covers (zw ops.toList tr bT i) (fk tr i) m) (h2:covers (zw ops.toList tr bT j) (fk tr j) m):i=j:=by
 rw [qi] at h1 h2
 rcases Nat.lt_trichotomy i j with e|e|e
 ·have:=h.B3 e (by omega);omega
 ·exact e
 ·have:=h.B3 e (by omega);omega
def Cr (ops:Array Oper) (i j:Nat):Bool:=((oH ops.toList []).getD i 0).testBit j
theorem td {i j:Nat} (h:Cr ops i j=true):Pj ops.toList i j:=
 Dl ops.toList ops.toList [] [] rfl rfl (fun i j hb=>by simp at hb) i j h
theorem MK (o:Oper) (st:AS) (r:Option Rec):(Dh o st r).wr=rz r/\ (Dh o st r).aB=Cb r/\ (Dh o st r).nm=st.heap.length/\ (Dh o st r).cnt=(match r with|some r=>r.fresh.length|none=>0):=by
 cases r<;>exact ⟨rfl,rfl,rfl,rfl⟩
theorem LU (h0:List aQ) (all:List gC) (l:gC):Ju h0 all l=l\/ (∃n q m,l.look=some (n,q)/\ l.aB= [m]/\ l.wr= []/\ n<h0.length/\ q.hit (av h0 n)=true/\ A8 n q all=true/\
  (Ju h0 all l).nm=l.nm/\ (Ju h0 all l).cnt=l.cnt/\ (Ju h0 all l).aB= []/\ (Ju h0 all l).wr= []):=by
 unfold Ju
 split
 ·rename_i n q m h1 h2 h3
  cases hb:(Nat.beq m n&&Nat.blt n h0.length&&q.hit (av h0 n)&&A8 n q all) with
  |false=>exact .inl rfl
  |true=>
   simp only [Bool.and_eq_true,Nat.blt_eq] at hb
   exact .inr ⟨n,q,m,h1,h2,h3,hb.1.1.2,hb.1.2,hb.2,rfl,rfl,rfl,rfl⟩
 ·exact .inl rfl
theorem GZ {n:Nat} {q:Cf} : ∀ {ws:List (Nat×aQ)},U1 n q ws=true-> ∀p∈ws,p.1=n->q.hit (live (some p.2))=true
 | [],_,p,hp,_=>by cases hp
 |x::r,h,p,hp,e=>by
  simp only [U1,Bool.and_eq_true,Bool.or_eq_true,Bool.not_eq_true'] at h
  rcases List.mem_cons.1 hp with rfl|hp
  ·have h1:=h.1.resolve_left (by rw [e];simp)
   cases hx:p.2<;>rw [hx] at h1<;>first|exact h1|(cases q<;>cases h1)
  ·exact GZ h.2 p hp e
theorem Ek {n:Nat} {q:Cf} : ∀ {lg:List gC},A8 n q lg=true-> ∀l∈lg,U1 n q l.ws=true
 | [],_,l,hl=>by cases hl
 |x::r,h,l,hl=>by
  simp only [A8,Bool.and_eq_true] at h
  rcases List.mem_cons.1 hl with rfl|hl
  ·exact h.1
  ·exact Ek h.2 l hl
theorem Good.Jw (h:Good P X ops bT tr el) {i:Nat} (hi:i<ops.size): ∃l,el[i]? =some l/\ l.wr=rz (fk tr i)/\ l.nm=zw ops.toList tr bT i/\ l.cnt=(match fk tr i with|some r=>r.fresh.length|none=>0)/\
  (l.aB=Cb (fk tr i)\/ (l.aB= []/\ ∃o r n q,ops[i]? =some o/\ fk tr i=some r/\ eV o.op (fM (yQ ops.toList tr bT i).tmps) r.val=some (n,q)/\ n<bT.heap.length/\ q.hit (av bT.heap n)=true/\ A8 n q (lS ops.toList bT tr)=true)):=by
 obtain ⟨o,r,ho,_,_,hr,_,_,V5⟩:=h.at_ hi
 obtain ⟨f1,f2,f3,f4⟩:=MK o (yQ ops.toList tr bT i) r
 rw [hr]
 rcases h.eff with e|e
 ·rw [e]
  exact ⟨_,V5,f1,f3,f4,.inl f2⟩
 ·have hl:el[i]? =some (Ju bT.heap (lS ops.toList bT tr) (Dh o (yQ ops.toList tr bT i) r)):=by rw [e,VN,List.getElem?_map,V5];rfl
  rcases LU bT.heap (lS ops.toList bT tr) (Dh o (yQ ops.toList tr bT i) r) with e1|⟨n,q,m,g1,g2,g3,g4,g5,g6,g7,g8,g9,g10⟩
  ·exact ⟨_,hl,by rw [e1,f1],by rw [e1,f3];rfl,by rw [e1,f4],.inl (by rw [e1,f2])⟩
  ·refine ⟨_,hl,by rw [g10,←f1,g3],by rw [g7,f3];rfl,by rw [g8,f4],.inr ⟨g9,?_⟩⟩
   cases r with
   |none=>cases g1
   |some r=>exact ⟨o,r,n,q,ho,rfl,g1,g4,g5,g6⟩
theorem IC {i:Nat} {l:gC} (h:el[i]? =some l):IB el i=l.aB:=by unfold IB;rw [h]
theorem u5 {a b:List Nat} (h:Fc a b=true): ∀m∈a,m∉b:=by
 intro m hm hb
 have:=List.all_eq_true.1 h m hm
 simp [hb] at this
theorem Good.one (h:Good P X ops bT tr el) {i:Nat} (hi:i<ops.size) {o:Oper} (ho:ops[i]? =some o):
  (∀j∈direct o,j<i)/\ (∀m∈rz (fk tr i),m∈IB el i)/\
  (∀m∈IB el i,∀j,j<ops.size->covers (zw ops.toList tr bT j) (fk tr j) m->j=i\/ Cr ops i j=true)/\
  ∀j p,j<i->ops[j]? =some p->Cr ops i j=false->
   (∀m∈rz (fk tr i),m∉IB el j)/\ (∀m∈rz (fk tr j),m∉IB el i)/\ (∀m∈rz (fk tr i),m∉rz (fk tr j))/\
   (∀d,p.dst=some d->o.dst≠some d/\ d∉j5 ops o)/\ (∀d,o.dst=some d->d∉j5 ops p):=by
 have ED:=h.ord
 simp only [Oz,Bool.and_eq_true] at ED
 have h1:=List.all_eq_true.1 ED.2 i (List.mem_range.2 hi)
 obtain ⟨l,V5,f1,f3,f4,_⟩:=h.Jw hi
 have f2:l.aB=IB el i:=(IC V5).symm
 unfold MV at h1
 rw [ho,V5] at h1
 simp only [Bool.and_eq_true] at h1
 obtain ⟨⟨⟨h1,h2⟩,h3⟩,h4⟩:=h1
 refine ⟨fun j hj=>by simpa using List.all_eq_true.1 h1 j hj,fun m hm=> ?_,fun m hm j hj hc=> ?_,fun j p hj hp hb=> ?_⟩
 ·have:=List.all_eq_true.1 h2 m (by rw [f1];exact hm)
  rw [f2] at this
  simpa using this
 ·have:=List.all_eq_true.1 h3 m (by rw [f2];exact hm)
  have hmk:xo el m=some j:=by
   unfold xo
   rw [List.findIdx?_eq_some_iff_getElem]
   obtain ⟨lj,Yu,_,g3,g4,_⟩:=h.Jw hj
   obtain ⟨Rp,hje⟩:=List.getElem?_eq_some_iff.1 Yu
   refine ⟨Rp,?_,fun k hk=> ?_⟩
   ·rw [hje,g3,g4]
    rw [qi] at hc
    simpa using hc
   ·obtain ⟨lk,hlk,_,k3,k4,_⟩:=h.Jw (i:=k) (by omega)
    obtain ⟨hkl,hke⟩:=List.getElem?_eq_some_iff.1 hlk
    rw [hke,k3,k4]
    intro acY
    have:covers (zw ops.toList tr bT k) (fk tr k) m:=by
     rw [qi];simpa using acY
    have:=h.rR (by omega) hj this hc
    omega
  rw [hmk] at this
  simp only [Bool.or_eq_true,beq_iff_eq] at this
  exact this
 ·have:=List.all_eq_true.1 h4 j (List.mem_range.2 hj)
  obtain ⟨lj,Yu,g1,_,_,_⟩:=h.Jw (i:=j) (by omega)
  have g2:lj.aB=IB el j:=(IC Yu).symm
  have hb':(((oH ops.toList []).getD i 0).testBit j)=false:=hb
  rw [hb',hp,Yu] at this
  simp only [Bool.false_or,Bool.and_eq_true,f1,f2,g1,g2] at this
  obtain ⟨⟨⟨⟨a1,a2⟩,a3⟩,a4⟩,a5⟩:=this
  refine ⟨u5 a1,u5 a2,u5 a3,fun d hd=> ?_,fun d hd=> ?_⟩
  ·rw [hd] at a4
   simp only [Bool.and_eq_true,bne_iff_ne,ne_eq,Bool.not_eq_true',List.contains_eq_mem,decide_eq_false_iff_not] at a4
   exact a4
  ·rw [hd] at a5
   simpa using a5
structure RA (ax:jh) (W:World) (df:List Deferred) (N:Nat) (F:FS) (ρ:Env) (a:Act) (w:World):Prop where
 tmps: ∀t,F.T t≠ .dead->a.tmps.getD t undef=(F.T t).ae ρ
 ok: ∀t,(F.T t).ok F.Kn
 size:a.tmps.size=N
 defers:a.defers=df
 st:St ax W ρ F.Kn F.G w
theorem WL {st:AS} {ρ:Env} {a:Act} {w:World} (h:nT ax W df st ρ a w):RA ax W df st.tmps.length (jY st) ρ a w:=⟨h.tmps,h.kn,h.size,h.defers,h.st⟩
theorem WM {st:AS} {N:Nat} {ρ:Env} {a:Act} {w:World} (h:RA ax W df N (jY st) ρ a w) (hN:st.tmps.length=N):nT ax W df st ρ a w:=⟨h.tmps,by rw [h.size,hN],h.defers,h.ok,h.st⟩
theorem QB {o:Oper} {t:Nat} (h:Operand.tmp t∈o.op.operands):t∈j5 ops o:=
 List.mem_append_left _ (List.mem_filterMap.2 ⟨.tmp t,Array.mem_toList_iff.2 h,rfl⟩)
theorem QY {N i:Nat} {F:FS} {ρ:Env} {a:Act} {w:World} {ro:Option Nat} {n:Nat} {Q:Exit->Act->World->Prop} (hX:Ac ax W X) (hR:RA ax W df N F ρ a w) {o:Oper} (ho:ops[i]? =some o) {S:AS} {r:Option Rec}
  (hf:NH P X ops o S r) (hT: ∀t∈j5 ops o,F.T t=dP S.tmps t) (hG:(∀m∈Cb r,F.G m=av S.heap m)\/ ∃r' n q,r=some r'/\ eV o.op (fM S.tmps) r'.val=some (n,q)/\ q.hit (F.G n)=true) (hfr: ∀m,covers S.heap.length r m-> ¬F.Kn m):
  wpOpIn (fw ro) n P ops Q i (fun a' w'=> ∃ρ',RA ax W df N (EJ N o S.heap.length r F) ρ' a' w') a w:=by
 have nk: ∀x∈o.op.operands,(fM S.tmps x≠ .dead->a.eval x=(fM S.tmps x).ae ρ)/\ (fM S.tmps x).ok F.Kn:=by
  intro x hx
  cases x with
  |tmp t=>
   have:=hT t (QB hx)
   refine ⟨?_,?_⟩
   ·show dP S.tmps t≠ .dead→a.tmps.getD t undef=(dP S.tmps t).ae ρ
    rw [<- this];exact hR.tmps t
   ·show (dP S.tmps t).ok F.Kn
    rw [<- this];exact hR.ok t
  |const v=>exact ⟨fun _=>(sI v ρ).symm,zy _ _⟩
  |global g=>exact ⟨fun _=>rfl,trivial⟩
  |func f=>exact ⟨fun _=>rfl,fun r hr=>absurd hr (by simp)⟩
 have hgd: ∀b,kW ops o S b->Region.wanted o (yielded ops a.tmps)=b:=by
  intro b hb
  unfold kW at hb
  split at hb
  ·rename_i hg;rw [hb];simp [Region.wanted,hg]
  ·rename_i j want hg
   obtain ⟨d,hd,hb⟩:=hb
   have h1:=hR.tmps d
   have e1:(ops[j]?).bind (·.dst)=some d:=by
    unfold Ai at hd;split at hd
    ·rename_i p hp;simp [hp,hd]
    ·cases hd
   rw [hT d (by unfold j5;rw [hg];exact List.mem_append_right _ (by simp [hd]))] at h1
   rcases hb with ⟨x,hx,hxb⟩|⟨hx,hb⟩
   rotate_left
   ·have h1:=h1 (by rw [hx];simp)
    rw [hx] at h1
    rw [hb]
    rw [Array.getD_eq_getD_getElem?] at h1
    cases hq:a.tmps[d]? with
    |none=>simp [Region.wanted,hg,yielded,e1,hq]
    |some v=>
     rw [hq] at h1
     have e:v= .tuple #[]:=h1
     subst e
     simp [Region.wanted,hg,yielded,e1,hq]
   have ur:dP S.tmps d≠ .dead:=by rw [hx];simp [bH]
   have h1:=h1 ur
   rw [hx] at h1
   have e2:a.tmps[d]? =some (.bool x):=by
    rw [Array.getD_eq_getD_getElem?] at h1
    cases hq:a.tmps[d]? with
    |none=>rw [hq] at h1;cases h1
    |some v=>rw [hq] at h1;exact congrArg some h1
   simp only [Region.wanted,hg,yielded,e1,Option.bind_some,e2]
   rw [<- hxb];cases x<;>cases want<;>rfl
 unfold wpOpIn
 rw [ho]
 dsimp only
 cases r with
 |some r=>
  obtain ⟨hg,ur,hl,hlk⟩:=hf
  rw [if_pos (hgd true hg)]
  obtain ⟨H,hH,hHG⟩: ∃H:HP,bL P X o (fM S.tmps) H S.heap.length r/\ ∀m∈r.aB,F.G m=H m:=by
   rcases hG with hG|⟨r',n',q,e,h1,h2⟩
   ·exact ⟨_,hl,hG⟩
   ·cases e
    exact ⟨F.G,hlk n' q h1 F.G h2,fun _ _=>rfl⟩
  refine hH.2 ro n ax W ρ F.Kn F.G w a _ Q hX (fun x hx=>(nk x hx).1 (ur x hx)) (fun x hx=>(nk x hx).2) hHG (fun k hk=>hfr _ ⟨by omega,by omega⟩) hR.st ?_
  intro ρ' w' l5 IU hst
  refine ⟨ρ',fun t=> ?_,fun t=> ?_,by rw [xK,hR.size],by rw [put_defers,hR.defers],hst⟩
  ·rw [xJ,hR.size]
   simp only [EJ]
   have hold:F.T t≠ .dead->a.tmps.getD t undef=(F.T t).ae ρ':=fun hd=>by rw [hR.tmps t hd];exact (AV.bX l5 _ (hR.ok t)).symm
   cases o.dst with
   |none=>simpa using hold
   |some d=>
    simp only [Option.some.injEq]
    by_cases e:d=t
    ·subst e
     by_cases e2:d<N
     ·simp [e2]
     ·simp only [e2,and_false,if_false];exact hold
    ·have n1: ¬(t=d∧d<N):=fun h=>e h.1.symm
     have n2: ¬(d=t/\ t<N):=fun h=>e h.1
     simp only [n1,n2,if_false];exact hold
  ·simp only [EJ]
   split
   ·exact IU
   ·exact AV.bC (fun m hm=> .inl hm) _ (hR.ok t)
 |none=>
  rw [if_neg (by rw [hgd false hf];simp)]
  refine ⟨fun _ _=>trivial,ρ,fun t=> ?_,fun t=> ?_,by rw [xK,hR.size],by rw [put_defers,hR.defers],hR.st⟩
  ·rw [xJ,hR.size]
   simp only [EJ]
   cases o.dst with
   |none=>simpa using hR.tmps t
   |some d=>
    simp only [Option.some.injEq]
    by_cases e:d=t
    ·subst e
     by_cases e2:d<N
     ·simp only [e2,and_self,if_true];intro _;rfl
     ·simp only [e2,and_false,if_false];exact hR.tmps d
    ·have n1: ¬(t=d∧d<N):=fun h=>e h.1.symm
     have n2: ¬(d=t/\ t<N):=fun h=>e h.1
     simp only [n1,n2,if_false];exact hR.tmps t
  ·simp only [EJ]
   split
   ·exact nQ _
   ·exact hR.ok t
theorem Good.text (h:Good P X ops bT tr el): ∀i,i<=ops.size->part bT.tmps.length ops.toList tr bT (fun _=>true) (List.range i) (jY bT)=jY (yQ ops.toList tr bT i)
 |0,_=>by simp [part,yQ,oW]
 |i+1,hi=>by
  obtain ⟨o,r,_,ho,hr,_,hf,hs,_⟩:=h.at_ (i:=i) (by omega)
  have ih:=h.text i (by omega)
  have e:part bT.tmps.length ops.toList tr bT (fun _=>true) (List.range (i+1)) (jY bT)=yE bT.tmps.length ops.toList tr bT i (part bT.tmps.length ops.toList tr bT (fun _=>true) (List.range i) (jY bT)):=by
   rw [List.range_succ];simp [part,List.foldl_append]
  rw [e,ih,hs]
  unfold yE
  rw [ho,hr]
  exact T6 (h.Zr i (by omega)) r fun q hq p hp=>by subst hq;exact hf.2.2.1.1 p hp
theorem Wz {N:Nat} {ops:List Oper} {tr:List (Option Rec)} {bT:AS} {n i:Nat} (hi:i<=n) (s:FS):part N ops tr bT (fun j=>decide (j<i)) (List.range n) s=part N ops tr bT (fun _=>true) (List.range i) s:=by
 have e:List.range n=List.range i++List.range' i (n- i):=by
  have e1:=List.range'_append_1 (s:=0) (m:=i) (n:=n- i)
  rw [Nat.zero_add] at e1
  rw [List.range_eq_range',List.range_eq_range',e1];congr 1;omega
 have h1: ∀(is:List Nat) (s:FS),(∀j∈is,j<i)->part N ops tr bT (fun j=>decide (j<i)) is s=part N ops tr bT (fun _=>true) is s:=by
  intro is
  induction is with
  |nil=>intro s _;rfl
  |cons j r ih=>
   intro s hj
   show part N ops tr bT _ r _=part N ops tr bT _ r _
   simp only [hj j (by simp),decide_true,if_true]
   exact ih _ (fun k hk=>hj k (by simp [hk]))
 have h2: ∀(is:List Nat) (s:FS),(∀j∈is,i<=j)->part N ops tr bT (fun j=>decide (j<i)) is s=s:=by
  intro is
  induction is with
  |nil=>intro s _;rfl
  |cons j r ih=>
   intro s hj
   show part N ops tr bT _ r _=s
   have:decide (j<i)=false:=by have:=hj j (by simp);simpa using this
   simp only [this,Bool.false_eq_true,if_false]
   exact ih _ (fun k hk=>hj k (by simp [hk]))
 rw [e]
 show List.foldl _ s (_++_)=_
 rw [List.foldl_append]
 show part N ops tr bT _ _ (part N ops tr bT _ _ s)=_
 rw [h1 _ _ (fun j hj=>List.mem_range.1 hj),h2 _ _ (fun j hj=>(List.mem_range'_1.1 hj).1)]
theorem Good.R5 (h:Good P X ops bT tr el) {i j:Nat} (hd:Pj ops.toList i j):j<i:=by
 induction hd with
 | @edge i' j' o' tY hj'=>
  have hi':i'<ops.size:=by have:=(List.getElem?_eq_some_iff.1 tY).1;simpa using this
  exact (h.one hi' (by rw [<- Array.getElem?_toList];exact tY)).1 _ hj'
 | @trans i' j' k' o' tY hk' _ ih=>
  have hi':i'<ops.size:=by have:=(List.getElem?_eq_some_iff.1 tY).1;simpa using this
  have:=(h.one hi' (by rw [<- Array.getElem?_toList];exact tY)).1 _ hk'
  omega
theorem count_set: ∀(l:List Bool) (i:Nat),l[i]? =some false->(l.set i true).countP (!·)+1=l.countP (!·)
 | [],_,h=>by simp at h
 |b::r,0,h=>by simp at h;subst h;simp
 |b::r,i+1,h=>by
  have:=count_set r i (by simpa using h)
  simp only [List.set_cons_succ,List.countP_cons];omega
theorem MF {ws:List (Nat×aQ)} {m:Nat} {o:aQ} (h:ct ws m=some o):(m,o)∈ws:=by
 induction ws with
 |nil=>cases h
 |cons p r ih=>
  simp only [ct] at h
  split at h
  ·rename_i o' ho
   cases h
   exact List.mem_cons_of_mem _ (ih ho)
  ·split at h
   ·rename_i e
    cases h
    rw [<- e]
    exact List.mem_cons_self ..
   ·cases h
theorem Kl (h:Good P X ops bT tr el) {N n:Nat} {q:Cf} {L:Nat->Bool} (hn:n<bT.heap.length) (hv:A8 n q (lS ops.toList bT tr)=true): ∀(is:List Nat) (s:FS),q.hit (s.G n)=true->q.hit ((part N ops.toList tr bT L is s).G n)=true
 | [],s,hs=>hs
 |i::r,s,hs=>by
  refine Kl h hn hv r _ ?_
  dsimp only
  split
  rotate_left
  ·exact hs
  unfold yE
  split
  rotate_left
  ·exact hs
  rename_i o x ho hx
  cases x with
  |none=>exact hs
  |some x=>
   have hi:i<ops.size:=by have:=(List.getElem?_eq_some_iff.1 ho).1;simpa using this
   obtain ⟨o',r',_,Yx,htr,_,_,_,V5⟩:=h.at_ hi
   rw [htr] at hx
   cases hx
   have hw:=Ek hv _ (List.mem_of_getElem? V5)
   have hnm:=h.XF (i:=i) (by omega)
   simp only [EJ,cq]
   rw [if_neg (by intro hc;have:=hc.1;simp only [zw] at hnm;omega)]
   split
   ·rename_i o2 ho2
    exact GZ hw _ (MF ho2) rfl
   ·exact hs
theorem Ku (hm:P.follows .mixedOrders=true) (hX:Ac ax W X) (h:Good P X ops bT tr el) (ro:Option Nat) (n id:Nat) {Q:Exit->Act->World->Prop} {ρ:Env} {a:Act} {w:World} (bD:nT ax W df bT ρ a w)
    (hQ: ∀ρ' a' w',nT ax W df (yQ ops.toList tr bT ops.size) ρ' a' w'->Q .normal a' w'):(Code.region id ops true).wpIn (fw ro) n P Q a w:=by
  refine wpIn_region_any hm ?_
  let N:=bT.tmps.length
  let Inv:Array Bool->Act->World->Prop:=fun L a w=>L.size=ops.size/\ (∀i o,L.getD i false=true->ops.toList[i]? =some o-> ∀j∈direct o,L.getD j false=true)/\
    ∃ρ,RA ax W df N (part N ops.toList tr bT (fun i=>L.getD i false) (List.range ops.size) (jY bT)) ρ a w
  have hsz:ops.toList.length=ops.size:=by simp
  have hstep: ∀L a w i,Inv L a w->i∈Region.ready .any ops L->wpOpIn (fw ro) n P ops Q i (fun a' w'=>Inv (L.setIfInBounds i true) a' w') a w/\ i<ops.size/\ L[i]? =some false:=by
    rintro L a w i ⟨hL,hdc,ρ,hR⟩ hi
    simp only [Region.ready,List.mem_filter,List.mem_range,Bool.and_eq_true,Bool.not_eq_true'] at hi
    obtain ⟨hin,hnl,Me⟩:=hi
    have hLi:L[i]? =some false:=by
      rw [Array.getElem?_eq_getElem (by omega)]
      rw [Array.getD_eq_getD_getElem?,Array.getElem?_eq_getElem (by omega)] at hnl
      simpa using hnl
    have hLf:L.getD i false=false:=by rw [Array.getD_eq_getD_getElem?,hLi];rfl
    obtain ⟨o,r,ho,Yx,htr,hri,hf,hs,_⟩:=h.at_ hin
    have aaD: ∀j∈direct o,L.getD j false=true:=by
      intro j hj
      simp only [direct,List.mem_map,List.mem_filter] at hj
      obtain ⟨e,⟨he,hb⟩,rfl⟩:=hj
      rw [ho] at Me
      simp only [Option.map_some,Option.getD_some] at Me
      have:=Array.all_eq_true_iff_forall_mem.1 Me e (Array.mem_toList_iff.1 he)
      simpa [hb] using this
    have aaC: ∀j,Pj ops.toList i j->L.getD j false=true:=fun j hd=>hd.QN (L:=fun j=>L.getD j false=true) hdc Yx aaD
    have SC: ∀j,L.getD j false=true-> ¬Pj ops.toList j i:=fun j hj hd=>by
      have:=hd.closed (L:=fun j=>L.getD j false=true) hdc hj
      rw [hLf] at this;cases this
    obtain ⟨_,hwt,htm,Xs⟩:=h.one hin ho
    have ED: ∀j,j<ops.size->j≠i->(L.getD j false=decide (j<i))\/ ((j<i/\ Cr ops i j=false)\/ (i<j/\ Cr ops j i=false)):=by
      intro j hj hne
      rcases Nat.lt_or_gt_of_ne hne with hlt|hlt
      · cases hb:Cr ops i j with
        |true=>left;rw [aaC j (td hb)];simp [hlt]
        |false=>exact .inr (.inl ⟨hlt,rfl⟩)
      · cases hb:Cr ops j i with
        | true=>
          left
          cases ZC:L.getD j false with
          |true=>exact absurd (td hb) (SC j ZC)
          |false=>simp;omega
        |false=>exact .inr (.inr ⟨hlt,rfl⟩)
    have hsi:jY (yQ ops.toList tr bT i)=part N ops.toList tr bT (fun j=>decide (j<i)) (List.range ops.size) (jY bT):=by
      rw [Wz (by omega),h.text i (by omega)]
    have hT: ∀t∈j5 ops o,(part N ops.toList tr bT (fun i=>L.getD i false) (List.range ops.size) (jY bT)).T t=dP (yQ ops.toList tr bT i).tmps t:=by
      intro t ht
      show _=(jY (yQ ops.toList tr bT i)).T t
      rw [hsi]
      refine MY _ _ _ rfl fun j hj hd=> ?_
      have hj:=List.mem_range.1 hj
      by_cases hne:j=i
      · subst hne;rw [hLf];simp
      · obtain ⟨p,_,hp,Bl,_⟩:=h.at_ hj
        have hpd:p.dst=some t:=by simpa [EA,Bl] using hd
        rcases ED j hj hne with e|⟨hlt,hb⟩|⟨hlt,hb⟩
        · exact e
        · exact absurd ht ((Xs j p hlt hp hb).2.2.2.1 t hpd).2
        · exact absurd ht ((h.one hj hp).2.2.2 i o hlt ho hb|>.2.2.2.2 t hpd)
    have hG0: ∀m∈IB el i,(part N ops.toList tr bT (fun i=>L.getD i false) (List.range ops.size) (jY bT)).G m=av (yQ ops.toList tr bT i).heap m:=by
      intro m hm'
      show _=(jY (yQ ops.toList tr bT i)).G m
      rw [hsi]
      refine MX _ _ _ rfl fun j hj hd=> ?_
      have hj:=List.mem_range.1 hj
      by_cases hne:j=i
      · subst hne;rw [hLf];simp
      · obtain ⟨p,_,hp,Bl,_⟩:=h.at_ hj
        rcases hd with hc|hwj
        · rcases htm m hm' j hj hc with e|e
          · exact absurd e hne
          · have Yt:j<i:=by
              rcases ED j hj hne with _|_
              all_goals
                rcases Nat.lt_or_gt_of_ne hne with h1|h1
                · exact h1
                · exfalso
                  have:=h.R5 (td e)
                  omega
            rw [aaC j (td e)];simp [Yt]
        · rcases ED j hj hne with e|⟨hlt,hb⟩|⟨hlt,hb⟩
          · exact e
          · exact absurd hm' ((Xs j p hlt hp hb).2.1 m hwj)
          · exact absurd hm' (((h.one hj hp).2.2.2 i o hlt ho hb).1 m hwj)
    have hG:(∀m∈Cb r,(part N ops.toList tr bT (fun i=>L.getD i false) (List.range ops.size) (jY bT)).G m=av (yQ ops.toList tr bT i).heap m)\/ ∃r' n q,r=some r'/\ eV o.op (fM (yQ ops.toList tr bT i).tmps) r'.val=some (n,q)/\ q.hit ((part N ops.toList tr bT (fun i=>L.getD i false) (List.range ops.size) (jY bT)).G n)=true:=by
      obtain ⟨l,V5,_,_,_,ht|⟨_,o',r',n',q,tY,hr',h1,h2,h3,h4⟩⟩:=h.Jw hin
      · left
        rw [IC V5,ht,hri] at hG0
        exact hG0
      · right
        rw [ho] at tY;cases tY
        rw [hri] at hr'
        refine ⟨r',n',q,hr',h1, ?_⟩
        exact Kl h h2 h4 (List.range ops.size) _ h3
    have hfr: ∀m,covers (yQ ops.toList tr bT i).heap.length r m-> ¬(part N ops.toList tr bT (fun i=>L.getD i false) (List.range ops.size) (jY bT)).Kn m:=by
      intro m hc hk
      have V0:covers (zw ops.toList tr bT i) (fk tr i) m:=by rw [hri];exact hc
      rw [B6 _ _ (fun j hj=>by rw [hsz];exact List.mem_range.1 hj)] at hk
      rcases hk with hk|⟨j,hj,ZC,hcj⟩
      · have h1:=h.XF (i:=i) (by omega)
        rw [qi] at V0
        have:m<bT.heap.length:=hk
        omega
      · have:=h.rR (List.mem_range.1 hj) hin hcj V0
        subst this;rw [hLf] at ZC;cases ZC
    refine ⟨?_,hin,hLi⟩
    refine wpOpIn_mono ?_ (QY hX hR ho hf hT hG hfr)
    rintro a' w' ⟨ρ',hR'⟩
    have ri: ∀j,(L.setIfInBounds i true).getD j false=(L.getD j false||j==i):=by
      intro j
      simp only [Array.getD_eq_getD_getElem?,Array.getElem?_setIfInBounds]
      by_cases e:i=j
      · subst e;simp [hL,hin]
      · simp [e,Ne.symm e]
    refine ⟨by simp [hL],fun j p hj hp k hk=> ?_,ρ', ?_⟩
    · rw [ri] at hj ⊢
      rw [Bool.or_eq_true] at hj ⊢
      rcases hj with hj|hj
      · exact .inl (hdc j p hj hp k hk)
      · have:j=i:=by simpa using hj
        subst this
        rw [Yx] at hp;cases hp
        exact .inl (aaD k hk)
    · have JH:=Ua (N:=N) (ops:=ops.toList) (tr:=tr) (bT:=bT) (L:=fun i=>L.getD i false) (n:=ops.size) (i:=i) (by omega) hin hLf (fun j hj hij ZC=>by
          obtain ⟨p,_,hp,Bl,_⟩:=h.at_ hj
          have hb:Cr ops j i=false:=by
            cases hb:Cr ops j i with
            |true=>exact absurd (td hb) (SC j ZC)
            |false=>rfl
          have hbi:Cr ops i j=false:=by
            cases hb:Cr ops i j with
            | true=>
              exfalso
              have:=h.R5 (td hb)
              omega
            |false=>rfl
          obtain ⟨_,adH,adF,hpj⟩:=h.one hj hp
          have hp1:=hpj i o hij ho hb
          refine ⟨fun d hd hd2=> ?_,fun m Rq V6=>hp1.2.2.1 m V6 Rq,fun m h1 h2=> ?_,fun m h1 h2=> ?_,fun m h1 h2=> ?_⟩
          · have e1:o.dst=some d:=by simpa [EA,Yx] using hd
            have e2:p.dst=some d:=by simpa [EA,Bl] using hd2
            exact (hp1.2.2.2.1 d e1).1 e2
          · have:=h.rR hin hj h1 h2;omega
          · rcases htm m (hwt m h1) j hj h2 with e|e
            · omega
            · rw [hbi] at e;cases e
          · rcases adF m (adH m h1) i hin h2 with e|e
            · omega
            · rw [hb] at e;cases e) (jY bT)
      have e1:(fun j=>(L.setIfInBounds i true).getD j false)=(fun j=>L.getD j false||j==i):=funext ri
      rw [e1,JH]
      have e2:yE N ops.toList tr bT i (part N ops.toList tr bT (fun i=>L.getD i false) (List.range ops.size) (jY bT))=EJ N o (yQ ops.toList tr bT i).heap.length r (part N ops.toList tr bT (fun i=>L.getD i false) (List.range ops.size) (jY bT)):=by
        conv=>lhs;unfold yE
        rw [Yx,htr]
      rw [e2];exact hR'
  have hend: ∀L a w,Inv L a w->Region.ready .any ops L= []->Q .normal a w:=by
    rintro L a w ⟨hL,hdc,ρ,hR⟩ hr
    have hall: ∀i,i<ops.size->L.getD i false=true:=by
      intro i
      induction i using Nat.strongRecOn with
      | _ i ih=>
        intro hi
        cases hLi:L.getD i false with
        |true=>rfl
        | false=>
          exfalso
          obtain ⟨o,r,ho,Yx,_⟩:=h.at_ hi
          have:i∈Region.ready .any ops L:=by
            simp only [Region.ready,List.mem_filter,List.mem_range,Bool.and_eq_true,Bool.not_eq_true']
            refine ⟨hi, ?_, ?_⟩
            · rw [Array.getD_eq_getD_getElem?,Array.getElem?_eq_getElem (by omega)] at hLi ⊢
              simpa using hLi
            · rw [ho]
              simp only [Option.map_some,Option.getD_some]
              refine Array.all_eq_true_iff_forall_mem.2 fun e he=> ?_
              cases hb:Region.binds .any e with
              |false=>simp
              | true=>
                have hmem:e.on∈direct o:=List.mem_map.2 ⟨e,List.mem_filter.2 ⟨Array.mem_toList_iff.2 he,hb⟩,rfl⟩
                have hlt:=(h.one hi ho).1 _ hmem
                simp [ih e.on hlt (by omega)]
          rw [hr] at this;cases this
    have e:part N ops.toList tr bT (fun i=>L.getD i false) (List.range ops.size) (jY bT)=jY (yQ ops.toList tr bT ops.size):=by
      rw [<- h.text ops.size (Nat.le_refl _)]
      refine FS.ext' (fun t=>MY _ _ _ rfl fun i hi _=>by rw [hall i (List.mem_range.1 hi)]) (fun m=>MX _ _ _ rfl fun i hi _=>by rw [hall i (List.mem_range.1 hi)]) (fun m=> ?_)
      rw [B6 _ _ (fun j hj=>by rw [hsz];exact List.mem_range.1 hj),B6 _ _ (fun j hj=>by rw [hsz];exact List.mem_range.1 hj)]
      constructor
      · rintro (h1|⟨i,hi,_,hc⟩)
        · exact .inl h1
        · exact .inr ⟨i,hi,rfl,hc⟩
      · rintro (h1|⟨i,hi,_,hc⟩)
        · exact .inl h1
        · exact .inr ⟨i,hi,hall i (List.mem_range.1 hi),hc⟩
    rw [e] at hR
    exact hQ ρ a w (WM hR (h.Zr ops.size (Nat.le_refl _)))
  have main: ∀fuel L a w,L.toList.countP (!·)<=fuel->Inv L a w->wpAnyIn (fw ro) n P .any ops Q fuel L a w:=by
    intro fuel
    induction fuel with
    | zero=>
      intro L a w hc hI
      have hr:Region.ready .any ops L= []:=by
        rcases hq:Region.ready .any ops L with _|⟨i,r⟩
        · rfl
        · exfalso
          obtain ⟨_,_,hf⟩:=hstep L a w i hI (by rw [hq];simp)
          have:=count_set L.toList i (by simpa using hf)
          omega
      exact ⟨hr,hend L a w hI hr⟩
    | succ fuel ih=>
      intro L a w hc hI
      refine ⟨hend L a w hI,fun i hi=> ?_⟩
      obtain ⟨h1,_,hf⟩:=hstep L a w i hI hi
      refine wpOpIn_mono (fun a' w' hI'=>ih _ a' w' ?_ hI') h1
      have:=count_set L.toList i (by simpa using hf)
      rw [Array.toList_setIfInBounds];omega
  refine main _ _ _ _ (by have:=List.countP_le_length (p:=(!·)) (l:=(Array.replicate ops.size false).toList);simpa using this) ⟨by simp,fun i o hi=> ?_,ρ, ?_⟩
  · rw [Array.getD_eq_getD_getElem?,Array.getElem?_replicate] at hi
    split at hi<;>simp at hi
  · have e:part N ops.toList tr bT (fun i=>(Array.replicate ops.size false).getD i false) (List.range ops.size) (jY bT)=jY bT:=by
      have:(fun i=>(Array.replicate ops.size false).getD i false)=fun _=>false:=by
        funext i;rw [Array.getD_eq_getD_getElem?,Array.getElem?_replicate];split<;>rfl
      rw [this]
      generalize List.range ops.size=is
      induction is with
      |nil=>rfl
      |cons j r ih=>exact ih
    rw [e]
    exact WL (bD.drawn _ (by first|exact Nat.le_succ _|exact Nat.le_add_right _ _|omega))
theorem VI (hT:aX P ctx.tt) (hS:af P ctx.specs) (hm:P.follows .mixedOrders=true) (hX:Ac ax W ctx.X) (ro:Option Nat) (n id:Nat) (ops:Array Oper) (st:AS) (K:AS->Prop) (h:OL ctx ops true st K):
  ∀ρ a w,nT ax W df st ρ a w->(Code.region id ops true).wpIn (fw ro) n P (fun e a w=> ∃st ρ,(e= .normal/\ K st)/\ nT ax W df st ρ a w) a w:=by
 intro ρ a w bD
 have h:nE {ctx with ys:= [],its:= []} ops ops.toList [] st [] fun st' lg=>if tP ops lg then K st' else if tP ops (VN st.heap lg) then K st' else False:=h
 obtain ⟨tr,h1,h2,h3⟩:=vu (ctx:= {ctx with ys:= [],its:= []}) hT ⟨hS,rfl,rfl⟩ ops _ _ _ _ _ h
 simp only [List.nil_append] at h3
 have fin: ∀el,Good P ctx.X ops st tr el->K (oW ops.toList st tr)->(Code.region id ops true).wpIn (fw ro) n P (fun e a w=> ∃st ρ,(e= .normal/\ K st)/\ nT ax W df st ρ a w) a w:=fun el hg h3=>by
  refine Ku hm hX hg ro n id bD fun ρ' a' w' kD=> ?_
  have e:yQ ops.toList tr st ops.size=oW ops.toList st tr:=by
   unfold yQ
   rw [List.take_of_length_le (by simp),List.take_of_length_le (by rw [h1];simp)]
  rw [e] at kD
  exact ⟨_,ρ',⟨rfl,h3⟩,kD⟩
 split at h3
 ·rename_i ED
  exact fin _ ⟨by simpa using h1,h2,Dx ED,.inl rfl⟩ h3
 ·split at h3
  ·rename_i ED
   exact fin _ ⟨by simpa using h1,h2,Dx ED,.inr rfl⟩ h3
  ·exact h3.elim
end
end Go.Ev
