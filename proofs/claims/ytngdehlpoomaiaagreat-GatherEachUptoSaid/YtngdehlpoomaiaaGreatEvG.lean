/- A region that draws its order: whatever order the edges allow comes to what the text's order comes to. -/
import Derived.Test.YtngdehlpoomaiaaGreatEvF
noncomputable section
set_option linter.unusedSectionVars false
set_option linter.unusedVariables false
set_option linter.unusedSimpArgs false
namespace Go.Ev
open Go.RowKit
def lH (all:Array Oper) (o:Oper) (st:AS) (b:Bool):Prop:=match o.guard with
 |none=>b=true
 |some (j,want)=> ∃d,tZ all j=some d/\ ((∃x,bP st.tmps d=bD x/\ (x==want)=b)\/ (bP st.tmps d= .nC []/\ b=false))
def mE (o:Oper) (st:AS):Option Rec->AS
 |some r=>st.app o.dst r
 |none=> {st with tmps:=jb st.tmps o.dst bU}
def F3 (o:Oper) (st:AS):Option Rec->fD
 |some r=>JU o.op (cr st.tmps) st.heap.length r
 |none=>lQ st.heap.length
def m7:List Oper->AS->List (Option Rec)->AS
 |o::l,st,r::tr=>m7 l (mE o st r) tr
 |_,st,_=>st
def kN:List Oper->AS->List (Option Rec)->List fD
 |o::l,st,r::tr=>F3 o st r::kN l (mE o st r) tr
 |_,_,_=> []
section
variable {P:Program} {ctx:Ctx}
def Tg (P:Program) (X:Addr->Value->Prop) (all:Array Oper) (o:Oper) (st:AS):Option Rec->Prop
 | some r=>lH all o st true/\ (∀x∈o.op.operands,cr st.tmps x≠ .dead)/\ bJ P X o (cr st.tmps) (aj st.heap) st.heap.length r/\
   ∀n q,dP o.op (cr st.tmps) r.val=some (n,q)-> ∀Γ:HP,q.hit (Γ n)=true->bJ P X o (cr st.tmps) Γ st.heap.length r
 |none=>lH all o st false
def Bo (P:Program) (X:Addr->Value->Prop) (all:Array Oper):List Oper->AS->List (Option Rec)->Prop
 |o::l,st,r::tr=>Tg P X all o st r/\ Bo P X all l (mE o st r) tr
 |_,_,_=>True
theorem aaY {o:Oper} {ev:Operand->AV} {hp:HP} {nm:Nat} {k:Rec->Prop} (hT:cP P ctx.tt) (hS:Lp P ctx) (h:Ed ctx o.op ev hp nm k):
  ∃r,bJ P ctx.X o ev hp nm r/\ k r/\ ∀n q,dP o.op ev r.val=some (n,q)-> ∀Γ:HP,q.hit (Γ n)=true->bJ P ctx.X o ev Γ nm r:=by
 have plain:(∀v,dP o.op ev v=none)-> ∃r,bJ P ctx.X o ev hp nm r/\ k r/\ ∀n q,dP o.op ev r.val=some (n,q)-> ∀Γ:HP,q.hit (Γ n)=true->bJ P ctx.X o ev Γ nm r:=fun hn=>by
  obtain ⟨r,h1,h2⟩:=Ee hT hS h
  exact ⟨r,h1,h2,fun n q hq=>by rw [hn] at hq;cases hq⟩
 have at_: ∀(r:Rec) (Γ:HP),Ed ctx o.op ev Γ nm (fun r'=>r'=r)->bJ P ctx.X o ev Γ nm r:=fun r Γ h=>by
  obtain ⟨r',h1,rfl⟩:=Ee hT hS h
  exact h1
 have LI: ∀ {q:Ey} {x:Option aG},q.hit x=true-> ∃cs e,x=some (.cells cs e)/\ ∀off m,q= .full off m->cs[off]? =some (.full m):=fun {q x} hq=>by
  unfold Ey.hit at hq
  split at hq
  ·exact ⟨_,_,rfl,fun _ _ e=>by cases e⟩
  ·split at hq
   ·rename_i hc
    refine ⟨_,_,rfl,fun off m e=> ?_⟩
    cases e
    rw [hc,Nat.eq_of_beq_eq_true hq]
   ·cases hq
  ·cases hq
 suffices H: ∀op,o.op=op-> ∃r,bJ P ctx.X o ev hp nm r/\ k r/\ ∀n q,dP o.op ev r.val=some (n,q)-> ∀Γ:HP,q.hit (Γ n)=true->bJ P ctx.X o ev Γ nm r from H _ rfl
 intro op hop
 cases op with
 |load t x=>
  cases lO:ev x with
  |v a=>cases a with
   |one c=>cases c with
    |ptr n off=>
     rw [hop] at h
     simp only [Ed,lO] at h
     split at h
     rotate_left
     ·exact h.elim
     rename_i i hi
     simp only [pT] at h
     split at h
     rotate_left
     ·exact h.elim
     rename_i cs e hn
     unfold zP at h
     split at h
     ·rename_i ha
      split at h
      ·rename_i hl
       refine ⟨_,at_ _ hp ?_,h,fun n' q hq=> ?_⟩
       ·rw [hop];simp only [Ed,lO,hi,Bool.false_eq_true,if_false,pT,hn,zP,ha,if_true,hl]
       ·simp only [hop,dP,lO] at hq;cases hq
      ·exact h.elim
     ·rename_i ha
      split at h
      rotate_left
      ·exact h.elim
      rename_i c hc
      refine ⟨_,at_ _ hp ?_,h,fun n' q hq Γ hh=> ?_⟩
      ·rw [hop];simp only [Ed,lO,hi,Bool.false_eq_true,if_false,pT,hn,zP,ha,hc]
      ·simp only [hop,dP,lO] at hq
       split at hq
       ·rename_i he1 Jr
        cases he1
        cases Jr
        cases hq
        obtain ⟨cs',e',g1,g2⟩:=LI hh
        refine at_ _ Γ ?_
        rw [hop];simp only [Ed,lO,hi,Bool.false_eq_true,if_false,pT,g1,zP,ha,g2 _ _ rfl]
       ·cases hq
    |_=>exact plain fun v=>by simp only [hop,dP,lO]
   |agg cs=>exact plain fun v=>by simp only [hop,dP,lO]
  |_=>exact plain fun v=>by simp only [hop,dP,lO]
 |fieldAddr t x f=>
  cases lO:ev x with
  |v a=>cases a with
   |one c=>cases c with
    |ptr n off=>
     rw [hop] at h
     simp only [Ed,lO] at h
     split at h
     rotate_left
     ·exact h.elim
     rename_i i hi
     unfold ld at h
     split at h
     rotate_left
     ·exact h.elim
     rename_i fs hf
     split at h
     rotate_left
     ·exact h.elim
     rename_i fd hfd
     split at h
     rotate_left
     ·exact h.elim
     rename_i fi L7
     split at h
     ·exact h.elim
     rename_i hz
     simp only [dB] at h
     split at h
     rotate_left
     ·exact h.elim
     rename_i cs e hn
     refine ⟨_,at_ _ hp ?_,h,fun n' q hq Γ hh=> ?_⟩
     ·rw [hop];simp only [Ed,lO,hi,ld,hf,hfd,L7,hz,if_false,dB,hn]
     ·simp only [hop,dP,lO,Option.some.injEq,Prod.mk.injEq] at hq
      obtain ⟨rfl,rfl⟩:=hq
      obtain ⟨cs',e',g1,_⟩:=LI hh
      refine at_ _ Γ ?_
      rw [hop];simp only [Ed,lO,hi,ld,hf,hfd,L7,hz,if_false,dB,g1]
    |_=>exact plain fun v=>by simp only [hop,dP,lO]
   |agg cs=>exact plain fun v=>by simp only [hop,dP,lO]
  |_=>exact plain fun v=>by simp only [hop,dP,lO]
 |nilCheck x=>
  cases lO:ev x with
  |v a=>cases a with
   |one c=>cases c with
    |ptr n off=>
     rw [hop] at h
     simp only [Ed,lO,dB] at h
     split at h
     rotate_left
     ·exact h.elim
     rename_i cs e hn
     refine ⟨_,at_ _ hp ?_,h,fun n' q hq Γ hh=> ?_⟩
     ·rw [hop];simp only [Ed,lO,dB,hn]
     ·simp only [hop,dP,lO,Option.some.injEq,Prod.mk.injEq] at hq
      obtain ⟨rfl,rfl⟩:=hq
      obtain ⟨cs',e',g1,_⟩:=LI hh
      refine at_ _ Γ ?_
      rw [hop];simp only [Ed,lO,dB,g1]
    |_=>exact plain fun v=>by simp only [hop,dP,lO]
   |agg cs=>exact plain fun v=>by simp only [hop,dP,lO]
  |_=>exact plain fun v=>by simp only [hop,dP,lO]
 |_=>exact plain fun v=>by simp only [hop,dP]
theorem sx (hT:cP P ctx.tt) (hS:Lp P ctx) (all:Array Oper): ∀(l:List Oper) (dec:List Nat) (st:AS) (lg:List fD) (K:AS->List fD->Prop),mL ctx all l dec st lg K->
  ∃tr:List (Option Rec),tr.length=l.length/\ Bo P ctx.X all l st tr/\ K (m7 l st tr) (lg++kN l st tr)
 | [],dec,st,lg,K,h=>⟨[],rfl,trivial,by have h:K st lg:=h;simpa [m7,kN] using h⟩
 |o::rest,dec,st,lg,K,h=>by
  have exec: ∀E7,lH all o st true->qb ctx o.op st (fun r=>mL ctx all rest E7 (st.app o.dst r) (lg++ [JU o.op (cr st.tmps) st.heap.length r]) K)->
    ∃tr:List (Option Rec),tr.length=(o::rest).length/\ Bo P ctx.X all (o::rest) st tr/\ K (m7 (o::rest) st tr) (lg++kN (o::rest) st tr):=by
   intro E7 hg h
   obtain ⟨gU,h⟩:=yK h
   obtain ⟨r,hl,hk,hlk⟩:=aaY hT hS h
   obtain ⟨tr,h1,h2,h3⟩:=sx hT hS all rest E7 _ _ K hk
   exact ⟨some r::tr,by simp [h1],⟨⟨hg,gU,hl,hlk⟩,h2⟩,by simpa [m7,kN,mE,F3] using h3⟩
  have skip: ∀E7,lH all o st false->mL ctx all rest E7 {st with tmps:=jb st.tmps o.dst bU} (lg++ [lQ st.heap.length]) K->
    ∃tr:List (Option Rec),tr.length=(o::rest).length/\ Bo P ctx.X all (o::rest) st tr/\ K (m7 (o::rest) st tr) (lg++kN (o::rest) st tr):=by
   intro E7 hg h
   obtain ⟨tr,h1,h2,h3⟩:=sx hT hS all rest E7 _ _ K h
   exact ⟨none::tr,by simp [h1],⟨hg,h2⟩,by simpa [m7,kN,mE,F3] using h3⟩
  unfold mL at h
  split at h
  ·rename_i hg
   exact exec dec (by simp [lH,hg]) h
  ·rename_i j want hg
   split at h
   ·rename_i d hd
    split at h
    ·rename_i x hx
     have G: ∀b,(x==want)=b->lH all o st b:=fun b hb=>by simp only [lH,hg];exact ⟨d,hd,.inl ⟨x,hx,hb⟩⟩
     split at h
     ·split at h
      ·rename_i e;exact exec dec (G true (by simp [e])) h
      ·rename_i e;exact skip dec (G false (by simpa using e)) h
     ·cases want with
      |true=>
       dsimp only at h
       cases x with
       |true=>
        have h:qb ctx o.op {st with tmps:=st.tmps.set d (bD true)} _:=h
        rw [mC hx] at h
        exact exec _ (G true rfl) h
       |false=>
        have h:mL ctx all rest (d::dec) {st with tmps:=jb (st.tmps.set d (bD false)) o.dst bU} (lg++ [lQ st.heap.length]) K:=h
        rw [mC hx] at h
        exact skip _ (G false rfl) h
      |false=>
       dsimp only at h
       cases x with
       |false=>
        have h:qb ctx o.op {st with tmps:=st.tmps.set d (bD false)} _:=h
        rw [mC hx] at h
        exact exec _ (G true rfl) h
       |true=>
        have h:mL ctx all rest (d::dec) {st with tmps:=jb (st.tmps.set d (bD true)) o.dst bU} (lg++ [lQ st.heap.length]) K:=h
        rw [mC hx] at h
        exact skip _ (G false rfl) h
    ·rename_i hx
     exact skip dec (by simp only [lH,hg];exact ⟨d,hd,.inr ⟨hx,trivial⟩⟩) h
    ·exact h.elim
   ·exact h.elim
theorem QA {X:Addr->Value->Prop} {all:Array Oper} : ∀(l:List Oper) (st:AS) (tr:List (Option Rec)) (i:Nat) (o:Oper) (r:Option Rec),Bo P X all l st tr->l[i]? =some o->tr[i]? =some r->
  Tg P X all o (m7 (l.take i) st (tr.take i)) r/\ m7 (l.take (i+1)) st (tr.take (i+1))=mE o (m7 (l.take i) st (tr.take i)) r/\
  (kN l st tr)[i]? =some (F3 o (m7 (l.take i) st (tr.take i)) r)
 |o'::l,st,r'::tr,0,o,r,h,ho,hr=>by
  simp at ho hr;subst ho;subst hr
  exact ⟨by simpa [m7] using h.1,by simp [m7],by simp [kN,m7]⟩
 |o'::l,st,r'::tr,i+1,o,r,h,ho,hr=>by
  have:=QA l (mE o' st r') tr i o r h.2 (by simpa using ho) (by simpa using hr)
  simpa [m7,kN] using this
 | [],_,_,_,_,_,_,ho,_=>by simp at ho
 |_::_,_,[],_,_,_,_,_,hr=>by simp at hr
end
inductive Tf (ops:List Oper):Nat->Nat->Prop
 |edge {i j:Nat} {o:Oper} :ops[i]? =some o->j∈direct o->Tf ops i j
 |trans {i j k:Nat} {o:Oper} :ops[i]? =some o->k∈direct o->Tf ops k j->Tf ops i j
theorem Od (acc:List Nat): ∀(ds:List Nat) (s j:Nat),(ds.foldl (fun s j=>s|||(2^j|||acc.getD j 0)) s).testBit j=true->s.testBit j=true\/ ∃k∈ds,j=k\/ (acc.getD k 0).testBit j=true
 | [],s,j,h=> .inl h
 |d::r,s,j,h=>by
  rcases Od acc r _ j h with h1|⟨k,hk,h1⟩
  ·rw [Nat.testBit_or,Nat.testBit_or,Bool.or_eq_true,Bool.or_eq_true] at h1
   rcases h1 with h1|h1|h1
   ·exact .inl h1
   ·rw [Nat.testBit_two_pow] at h1
    exact .inr ⟨d,by simp,.inl (by simpa using (of_decide_eq_true h1).symm)⟩
   ·exact .inr ⟨d,by simp,.inr h1⟩
  ·exact .inr ⟨k,by simp [hk],h1⟩
theorem F9 (ops:List Oper): ∀(l pre:List Oper) (acc:List Nat),ops=pre++l->acc.length=pre.length->(∀i j,(acc.getD i 0).testBit j=true->Tf ops i j)->
  ∀i j,((masks l acc).getD i 0).testBit j=true->Tf ops i j
 | [],pre,acc,_,_,h,i,j,hb=>h i j hb
 |o::l,pre,acc,he,hl,h,i,j,hb=>by
  refine F9 ops l (pre++ [o]) _ (by simp [he]) (by simp [hl]) (fun i j hb=> ?_) i j hb
  simp only [List.getD,List.getElem?_append] at hb
  split at hb
  ·exact h i j hb
  ·rename_i hi
   by_cases e:i=pre.length
   ·subst e
    rw [hl,Nat.sub_self] at hb
    simp only [List.getElem?_cons_zero,Option.getD_some] at hb
    have ho:ops[pre.length]? =some o:=by rw [he];simp
    rcases Od acc _ _ _ hb with h1|⟨k,hk,h1⟩
    ·simp at h1
    ·rcases h1 with rfl|h1
     ·exact .edge ho hk
     ·exact .trans ho hk (h k j h1)
   ·rw [List.getElem?_eq_none (by simp;omega)] at hb
    simp at hb
structure FS where
 T:Nat->AV
 G:HP
 Kn:Nat->Prop
theorem FS.ext' {a b:FS} (h1: ∀t,a.T t=b.T t) (h2: ∀m,a.G m=b.G m) (h3: ∀m,a.Kn m↔b.Kn m):a=b:=by
 obtain ⟨T,G,K⟩:=a
 obtain ⟨T',G',K'⟩:=b
 have e1:T=T':=funext h1
 have e2:G=G':=funext h2
 have e3:K=K':=funext fun m=>propext (h3 m)
 rw [e1,e2,e3]
def fa (st:AS):FS:=⟨bP st.tmps,aj st.heap,(· <st.heap.length)⟩
def IJ (N:Nat) (o:Oper) (nm:Nat):Option Rec->FS->FS
 |some r,s=>⟨fun t=>if o.dst=some t/\ t<N then r.val else s.T t,bO r nm s.G,mG s.Kn nm r⟩
 |none,s=>⟨fun t=>if o.dst=some t/\ t<N then bU else s.T t,s.G,s.Kn⟩
theorem aap (d t N:Nat) (v w:AV):(if d=t/\ t<N then v else w)=if t=d/\ d<N then v else w:=by
 by_cases e:d=t
 ·subst e;simp
 ·rw [if_neg (fun h=>e h.1),if_neg (fun h=>e h.1.symm)]
theorem aaZ {N:Nat} {o:Oper} {st:AS} (hN:st.tmps.length=N): ∀(r:Option Rec),(∀q,r=some q-> ∀p∈q.writes,aj st.heap p.1≠none)->IJ N o st.heap.length r (fa st)=fa (mE o st r)
 |some r,h=>by
  refine FS.ext' (fun t=> ?_) (fun m=> ?_) (fun m=> ?_)
  ·simp only [IJ,fa,mE,AS.app,jJ]
   cases o.dst with
   |none=>simp
   |some d=>simp only [Option.some.injEq,hN];exact aap d t N _ _
  ·simp only [IJ,fa,mE];rw [Nw st o.dst r (h r rfl)]
  ·simp only [IJ,fa,mE,mG,mH];omega
 |none,h=>by
  refine FS.ext' (fun t=> ?_) (fun m=>rfl) (fun m=>Iff.rfl)
  simp only [IJ,fa,mE,jJ]
  cases o.dst with
  |none=>simp
  |some d=>simp only [Option.some.injEq,hN];exact aap d t N _ _
def covers (nm:Nat) (r:Option Rec) (m:Nat):Prop:=match r with
 |some r=>nm<=m/\ m<nm+r.fresh.length
 |none=>False
def s9:Option Rec->List Nat
 |some r=>r.writes.map (·.1)
 |none=> []
def Em:Option Rec->List Nat
 |some r=>r.aH
 |none=> []
theorem R9 {ws:List (Nat×aG)} {m:Nat} (h:m∉ws.map (·.1)):bV ws m=none:=by
 induction ws with
 |nil=>rfl
 |cons p r ih=>
  simp only [List.map_cons,List.mem_cons,not_or] at h
  simp only [bV,ih h.2]
  rw [if_neg (fun e=>h.1 e.symm)]
theorem akq {N nm:Nat} {o:Oper} {r:Option Rec} {s s':FS} {m:Nat} (h:s.G m=s'.G m):(IJ N o nm r s).G m=(IJ N o nm r s').G m:=by
 cases r with
 |none=>exact h
 |some r=>simp only [IJ,bO,h]
theorem W8 {N nm:Nat} {o:Oper} {r:Option Rec} {s:FS} {m:Nat} (h1: ¬covers nm r m) (h2:m∉s9 r):(IJ N o nm r s).G m=s.G m:=by
 cases r with
 |none=>rfl
 |some r=>
  have h1: ¬(nm<=m/\ m<nm+r.fresh.length):=h1
  have h2:m∉r.writes.map (·.1):=h2
  simp only [IJ,bO];rw [if_neg h1,R9 h2]
section
variable (N:Nat) (ops:List Oper) (tr:List (Option Rec)) (aX:AS)
def tG (i:Nat):AS:=m7 (ops.take i) aX (tr.take i)
def mQ (i:Nat) (s:FS):FS:=match ops[i]?,tr[i]? with
 |some o,some r=>IJ N o (tG ops tr aX i).heap.length r s
 |_,_=>s
def part (L:Nat->Bool) (is:List Nat) (s:FS):FS:=is.foldl (fun s i=>if L i then mQ N ops tr aX i s else s) s
def Dz (i:Nat):Option Nat:=(ops[i]?).bind (·.dst)
def dh (i:Nat):Option Rec:=(tr[i]?).join
def Bl (i:Nat):Nat:=(tG ops tr aX i).heap.length
end
section
variable {N:Nat} {ops:List Oper} {tr:List (Option Rec)} {aX:AS}
theorem abN {i t:Nat} {s s':FS} (h:s.T t=s'.T t):(mQ N ops tr aX i s).T t=(mQ N ops tr aX i s').T t:=by
 unfold mQ;split
 ·rename_i o r _ _
  cases r<;>simp only [IJ,h]
 ·exact h
theorem rq {i t:Nat} {s:FS} (h:Dz ops i≠some t):(mQ N ops tr aX i s).T t=s.T t:=by
 unfold mQ;split
 ·rename_i o r ho _
  have:o.dst≠some t:=by simpa [Dz,ho] using h
  cases r<;>simp only [IJ]<;>rw [if_neg (fun e=>this e.1)]
 ·rfl
theorem abM {i m:Nat} {s s':FS} (h:s.G m=s'.G m):(mQ N ops tr aX i s).G m=(mQ N ops tr aX i s').G m:=by
 unfold mQ;split
 ·exact akq h
 ·exact h
theorem rj {i m:Nat} {s:FS} (h1: ¬covers (Bl ops tr aX i) (dh tr i) m) (h2:m∉s9 (dh tr i)):(mQ N ops tr aX i s).G m=s.G m:=by
 unfold mQ;split
 ·rename_i o r _ hr
  have e:dh tr i=r:=by simp [dh,hr]
  rw [e] at h1 h2
  exact W8 h1 h2
 ·rfl
theorem Hy {i m:Nat} {s:FS} (hi:i<ops.length):(mQ N ops tr aX i s).Kn m↔s.Kn m\/ covers (Bl ops tr aX i) (dh tr i) m:=by
 unfold mQ;split
 ·rename_i o r _ hr
  have e:dh tr i=r:=by simp [dh,hr]
  rw [e]
  cases r with
  |none=>simp [IJ,covers]
  |some r=>exact Iff.rfl
 ·rename_i hh
  have:tr[i]? =none:=by
   cases hr:tr[i]? with
   |none=>rfl
   |some r=>exact (hh _ r (List.getElem?_eq_getElem hi) hr).elim
  simp [dh,this,covers]
theorem Gi {L L':Nat->Bool} {t:Nat} : ∀(is:List Nat) (s s':FS),s.T t=s'.T t->(∀i∈is,Dz ops i=some t->L i=L' i)->(part N ops tr aX L is s).T t=(part N ops tr aX L' is s').T t
 | [],s,s',h,_=>h
 |i::r,s,s',h,hl=>by
  refine Gi r _ _ ?_ (fun j hj=>hl j (by simp [hj]))
  by_cases e:Dz ops i=some t
  ·dsimp only
   rw [hl i (by simp) e]
   split
   ·exact abN h
   ·exact h
  ·have h1: ∀(b:Bool) (s:FS),(if b then mQ N ops tr aX i s else s).T t=s.T t:=fun b s=>by
    cases b
    ·rfl
    ·exact rq e
   rw [h1,h1];exact h
theorem MB {L L':Nat->Bool} {m:Nat} : ∀(is:List Nat) (s s':FS),s.G m=s'.G m->(∀i∈is,(covers (Bl ops tr aX i) (dh tr i) m\/ m∈s9 (dh tr i))->L i=L' i)->(part N ops tr aX L is s).G m=(part N ops tr aX L' is s').G m
 | [],s,s',h,_=>h
 |i::r,s,s',h,hl=>by
  refine MB r _ _ ?_ (fun j hj=>hl j (by simp [hj]))
  by_cases e:covers (Bl ops tr aX i) (dh tr i) m\/ m∈s9 (dh tr i)
  ·dsimp only
   rw [hl i (by simp) e]
   split
   ·exact abM h
   ·exact h
  ·have h1: ∀(b:Bool) (s:FS),(if b then mQ N ops tr aX i s else s).G m=s.G m:=fun b s=>by
    cases b
    ·rfl
    ·exact rj (fun c=>e (.inl c)) (fun c=>e (.inr c))
   rw [h1,h1];exact h
theorem z6 {L:Nat->Bool} {m:Nat} : ∀(is:List Nat) (s:FS),(∀i∈is,i<ops.length)->((part N ops tr aX L is s).Kn m↔s.Kn m\/ ∃i∈is,L i=true/\ covers (Bl ops tr aX i) (dh tr i) m)
 | [],s,_=>by simp [part]
 |i::r,s,hi=>by
  show (part N ops tr aX L r _).Kn m↔_
  rw [z6 r _ (fun j hj=>hi j (by simp [hj]))]
  dsimp only
  by_cases e:L i=true
  ·rw [if_pos e,Hy (hi i (by simp))]
   constructor
   ·rintro ((h|h)|⟨j,hj,h⟩)
    ·exact .inl h
    ·exact .inr ⟨i,by simp,e,h⟩
    ·exact .inr ⟨j,by simp [hj],h⟩
   ·rintro (h|⟨j,hj,h⟩)
    ·exact .inl (.inl h)
    ·rcases List.mem_cons.1 hj with rfl|hj
     ·exact .inl (.inr h.2)
     ·exact .inr ⟨j,hj,h⟩
  ·rw [if_neg e]
   constructor
   ·rintro (h|⟨j,hj,h⟩)
    ·exact .inl h
    ·exact .inr ⟨j,by simp [hj],h⟩
   ·rintro (h|⟨j,hj,h⟩)
    ·exact .inl h
    ·rcases List.mem_cons.1 hj with rfl|hj
     ·exact absurd h.1 e
     ·exact .inr ⟨j,hj,h⟩
structure X8 (ops:List Oper) (tr:List (Option Rec)) (aX:AS) (i j:Nat):Prop where
 dst: ∀d,Dz ops i=some d->Dz ops j≠some d
 wr: ∀m,m∈s9 (dh tr i)->m∉s9 (dh tr j)
 fr: ∀m,covers (Bl ops tr aX i) (dh tr i) m-> ¬covers (Bl ops tr aX j) (dh tr j) m
 wf: ∀m,m∈s9 (dh tr i)-> ¬covers (Bl ops tr aX j) (dh tr j) m
 fw: ∀m,m∈s9 (dh tr j)-> ¬covers (Bl ops tr aX i) (dh tr i) m
theorem abO {i j:Nat} (h:X8 ops tr aX i j) (hi:i<ops.length) (hj:j<ops.length) (s:FS):mQ N ops tr aX j (mQ N ops tr aX i s)=mQ N ops tr aX i (mQ N ops tr aX j s):=by
 refine FS.ext' (fun t=> ?_) (fun m=> ?_) (fun m=> ?_)
 ·by_cases e:Dz ops i=some t
  ·rw [rq (h.dst t e)]
   exact abN (rq (h.dst t e)).symm
  ·rw [rq (i:=i) e]
   exact abN (rq e)
 ·by_cases e:covers (Bl ops tr aX i) (dh tr i) m∨m∈s9 (dh tr i)
  ·have e2: ¬covers (Bl ops tr aX j) (dh tr j) m:=e.elim (h.fr m) (h.wf m)
   have e3:m∉s9 (dh tr j):=fun hm=>e.elim (h.fw m hm) (fun hi=>h.wr m hi hm)
   rw [rj e2 e3]
   exact abM (rj e2 e3).symm
  ·have e2: ¬covers (Bl ops tr aX i) (dh tr i) m:=fun c=>e (.inl c)
   have e3:m∉s9 (dh tr i):=fun c=>e (.inr c)
   rw [rj (i:=i) e2 e3]
   exact abM (rj e2 e3)
 ·rw [Hy hj,Hy hi,Hy hi,Hy hj]
  constructor
  ·rintro ((h|h)|h)
   ·exact .inl (.inl h)
   ·exact .inr h
   ·exact .inl (.inr h)
  ·rintro ((h|h)|h)
   ·exact .inl (.inl h)
   ·exact .inr h
   ·exact .inl (.inr h)
theorem J9 {L:Nat->Bool} {i:Nat} (hi:i<ops.length): ∀(is:List Nat) (s:FS),(∀j∈is,j<ops.length)->(∀j∈is,L j=true->X8 ops tr aX i j)->part N ops tr aX L is (mQ N ops tr aX i s)=mQ N ops tr aX i (part N ops tr aX L is s)
 | [],s,_,_=>rfl
 |j::r,s,hlt,h=>by
  show part N ops tr aX L r _=mQ N ops tr aX i (part N ops tr aX L r _)
  rw [<- J9 hi r _ (fun k hk=>hlt k (by simp [hk])) (fun k hk=>h k (by simp [hk]))]
  congr 1
  dsimp only
  by_cases e:L j=true
  ·rw [if_pos e,if_pos e,abO (h j (by simp) e) hi (hlt j (by simp))]
  ·rw [if_neg e,if_neg e]
theorem aa1 {L:Nat->Bool} {n i:Nat} (hn:n<=ops.length) (hi:i<n) (hL:L i=false) (h: ∀j,j<n->i<j->L j=true->X8 ops tr aX i j) (s:FS):
  part N ops tr aX (fun j=>L j||j==i) (List.range n) s=mQ N ops tr aX i (part N ops tr aX L (List.range n) s):=by
 have e:List.range n=List.range i++i::List.range' (i+1) (n- (i+1)):=by
  have e1:=List.range'_append_1 (s:=0) (m:=i) (n:=n- (i+1)+1)
  rw [List.range_eq_range',List.range_eq_range',<- List.range'_succ]
  rw [Nat.zero_add] at e1
  rw [e1];congr 1;omega
 have ajt: ∀(L:Nat->Bool) (s:FS),part N ops tr aX L (List.range n) s=part N ops tr aX L (List.range' (i+1) (n- (i+1))) (if L i then mQ N ops tr aX i (part N ops tr aX L (List.range i) s) else part N ops tr aX L (List.range i) s):=by
  intro L s;rw [e];simp [part,List.foldl_append]
 rw [ajt,ajt]
 have hsame: ∀(is:List Nat) (s:FS),(∀j∈is,j≠i)->part N ops tr aX (fun j=>L j||j==i) is s=part N ops tr aX L is s:=by
  intro is
  induction is with
  |nil=>intro s _;rfl
  |cons j r ih=>
   intro s hj
   show part N ops tr aX _ r _=part N ops tr aX L r _
   have:(j==i)=false:=by simpa using hj j (by simp)
   simp only [this,Bool.or_false]
   exact ih _ (fun k hk=>hj k (by simp [hk]))
 rw [hsame _ _ (fun j hj=>by have:=List.mem_range'_1.1 hj;omega),hsame _ _ (fun j hj=>by have:=List.mem_range.1 hj;omega)]
 simp only [hL,Bool.false_or,beq_self_eq_true,if_true,Bool.false_eq_true,if_false]
 exact J9 (by omega) _ _ (fun j hj=>by have:=List.mem_range'_1.1 hj;omega) (fun j hj hl=>by have:=List.mem_range'_1.1 hj;exact h j (by omega) (by omega) hl)
end
section
variable {P:Program} {ctx:Ctx} {au:eW} {W:World} {df:List Deferred}
theorem Tf.closed {ops:List Oper} {L:Nat->Prop} (hL: ∀i o,L i->ops[i]? =some o-> ∀j∈direct o,L j) {i j:Nat} (h:Tf ops i j):L i->L j:=by
 induction h with
 |edge ho hj=>intro h;exact hL _ _ h ho _ hj
 |trans ho hk _ ih=>intro h;exact ih (hL _ _ h ho _ hk)
theorem Tf.W5 {ops:List Oper} {L:Nat->Prop} (hL: ∀i o,L i->ops[i]? =some o-> ∀j∈direct o,L j) {i j:Nat} {o:Oper} (ho:ops[i]? =some o) (hd: ∀j∈direct o,L j) (h:Tf ops i j):L j:=by
 cases h with
 |edge Bk hj=>rw [ho] at Bk;cases Bk;exact hd _ hj
 |trans Bk hk h'=>rw [ho] at Bk;cases Bk;exact h'.closed hL (hd _ hk)
theorem XF (o:Oper) (st:AS) (r:Option Rec):(mE o st r).tmps.length=st.tmps.length:=by
 cases r<;>simp [mE,AS.app,qx]
theorem SV (o:Oper) (st:AS) (r:Option Rec):(mE o st r).heap.length=st.heap.length+(match r with|some r=>r.fresh.length|none=>0):=by
 cases r<;>simp [mE,AS.app,dw]
theorem Ga {x:Nat} : ∀ {l:List Nat},yf x l=true↔x∈l
 | []=>by simp [yf]
 |y::r=>by simp [yf,Ga (l:=r),Nat.beq_eq]
theorem Mt {x:Nat} {l:List Nat} :yf x l=l.contains x:=by
 rw [Bool.eq_iff_iff,Ga];simp
theorem Vf: ∀ {a b:List Nat},afa a b=a.all fun m=>b.contains m
 | [],_=>rfl
 |x::r,b=>by simp only [afa,List.all_cons,Vf (a:=r),Mt]
theorem TC: ∀ {a b:List Nat},oZ a b=Jh a b
 | [],_=>rfl
 |x::r,b=>by
  have:=TC (a:=r) (b:=b)
  unfold Jh at this ⊢
  simp only [oZ,List.all_cons,this,Mt]
theorem JX: ∀(l:List Oper) (k:Nat) (acc:List Nat),acc.length=k->(Mr l k acc).reverse=masks l acc.reverse
 | [],k,acc,_=>rfl
 |o::l,k,acc,h=>by
  have h1:=JX l (k+1) ((direct o).foldl (fun s j=>s|||(2^j|||(bif Nat.blt j k then acc.getD (k- 1- j) 0 else 0))) 0::acc) (by simp [h])
  have e:(fun (s j:Nat)=>s|||(2^j|||(bif Nat.blt j k then acc.getD (k- 1- j) 0 else 0)))=fun s j=>s|||(2^j|||acc.reverse.getD j 0):=by
   funext s j
   rcases Nat.lt_or_ge j k with hj|hj
   ·have hb:Nat.blt j k=true:=by simpa [Nat.blt_eq] using hj
    rw [hb,cond_true,List.getD_eq_getElem?_getD,List.getD_eq_getElem?_getD,List.getElem?_reverse (by omega),h]
   ·have hb:Nat.blt j k=false:=by
     rw [Bool.eq_false_iff];simp only [ne_eq,Nat.blt_eq];omega
    rw [hb,cond_false,List.getD_eq_getElem?_getD,List.getElem?_eq_none (by simp;omega)]
    rfl
  rw [Mr,h1,masks,List.reverse_cons,e]
theorem ahL (ops:Array Oper):msF ops=masks ops.toList []:=JX _ 0 [] rfl
theorem JY: ∀(l:List Oper) (acc:List Nat),(masks l acc).length=acc.length+l.length
 | [],acc=>rfl
 |o::l,acc=>by rw [masks,JY l];simp;omega
theorem Mx {all:Array Oper} : ∀(l:List Oper) (ms:List Nat) (i:Nat) (o:Oper) (m:Nat),l[i]? =some o->ms[i]? =some m->(oiL all l ms)[i]? =some ⟨o.dst,j9 all o,m⟩
 | [],_,i,o,m,h,_=>by simp at h
 |_::_,[],i,o,m,_,h=>by simp at h
 |p::l,q::ms,0,o,m,h,h'=>by
  simp only [List.getElem?_cons_zero,Option.some.injEq] at h h'
  subst h;subst h';rfl
 |p::l,q::ms,i+1,o,m,h,h'=>by
  simp only [List.getElem?_cons_succ] at h h'
  exact Mx l ms i o m h h'
theorem A4 {o:OI} : ∀(l:List OI) (j k:Nat),A3 o l j k=true-> ∀(t:Nat) (p:OI),t<k->l[t]? =some p->o.m.testBit (j+t)=true\/ Vd o p=true
 | [],j,k,_,t,p,_,h=>by simp at h
 |q::l,j,0,_,t,p,ht,_=>by omega
 |q::l,j,k+1,h,t,p,ht,hp=>by
  simp only [A3,Bool.and_eq_true,Bool.or_eq_true] at h
  match t,hp with
  |0,hp=>
   simp only [List.getElem?_cons_zero,Option.some.injEq] at hp
   subst hp
   exact h.1
  |t+1,hp=>
   have:=A4 l (j+1) k h.2 t p (by omega) (by simpa using hp)
   rwa [show j+1+t=j+(t+1) by omega] at this
theorem A2 {all:List OI} : ∀(l:List OI) (i:Nat),Ej all l i=true-> ∀(t:Nat) (o:OI),l[t]? =some o->A3 o all 0 (i+t)=true
 | [],i,_,t,o,h=>by simp at h
 |q::l,i,h,t,o,ho=>by
  simp only [Ej,Bool.and_eq_true] at h
  match t,ho with
  |0,ho=>
   simp only [List.getElem?_cons_zero,Option.some.injEq] at ho
   subst ho
   exact h.1
  |t+1,ho=>
   have:=A2 l (i+1) h.2 t o (by simpa using ho)
   rwa [show i+1+t=i+(t+1) by omega] at this
theorem Cv: ∀(l:List Oper) (i:Nat),LS l i=true-> ∀(t:Nat) (o:Oper),l[t]? =some o-> ∀j∈direct o,j<i+t
 | [],i,_,t,o,h=>by simp at h
 |q::l,i,h,t,o,ho=>by
  simp only [LS,Bool.and_eq_true] at h
  match t,ho with
  |0,ho=>
   simp only [List.getElem?_cons_zero,Option.some.injEq] at ho
   subst ho
   intro j hj
   have:=List.all_eq_true.1 h.1 j hj
   rw [Nat.blt_eq] at this
   exact this
  |t+1,ho=>
   intro j hj
   have:=Cv l (i+1) h.2 t o (by simpa using ho) j hj
   omega
theorem Fg: ∀(lg:List fD) (ms:List Nat) (k i:Nat) (l:fD) (m:Nat),lg[i]? =some l->ms[i]? =some m->(l.aH= []/\ l.wr= [])\/ DI.mk (k+i) m l.aH l.wr∈VO lg ms k
 | [],_,_,i,_,_,h,_=>by simp at h
 |_::_,[],_,i,_,_,_,h=>by simp at h
 |q::lg,n::ms,k,0,l,m,h,h'=>by
  simp only [List.getElem?_cons_zero,Option.some.injEq] at h h'
  subst h;subst h'
  simp only [VO]
  split
  ·exact .inl ⟨by assumption,by assumption⟩
  ·exact .inr (by simp)
 |q::lg,n::ms,k,i+1,l,m,h,h'=>by
  simp only [List.getElem?_cons_succ] at h h'
  have:=Fg lg ms (k+1) i l m h h'
  rw [show k+1+i=k+(i+1) by omega] at this
  rcases this with h1|h1
  ·exact .inl h1
  ·refine .inr ?_
   simp only [VO]
   split
   ·exact h1
   ·exact List.mem_cons_of_mem _ h1
theorem JW (x:Nat): ∀(lg:List fD) (k:Nat),Mq x (mkL lg k)=(zU lg x).map (· +k)
 | [],k=>rfl
 |l::lg,k=>by
  have ih:=JW x lg (k+1)
  have e: ∀(b:Bool),(l.nm<=x&&x<l.nm+l.cnt:Bool)=b->zU (l::lg) x=bif b then some 0 else (zU lg x).map (· +1):=fun b hb=>by
   unfold zU
   rw [List.findIdx?_cons]
   simp only [hb]
   cases b<;>rfl
  simp only [mkL]
  split
  ·rename_i hc
   rw [ih,e false (by rw [hc];simp)]
   simp only [cond_false,Option.map_map]
   congr 1
   funext y
   simp only [Function.comp_apply];omega
  ·rename_i c hc
   simp only [Mq]
   have hb:(Nat.ble l.nm x&&Nat.blt x (l.nm+l.cnt))=(l.nm<=x&&x<l.nm+l.cnt:Bool):=by
    rw [Bool.eq_iff_iff];simp [Nat.blt_eq]
   rw [hb,e _ rfl,ih]
   cases (l.nm<=x&&x<l.nm+l.cnt:Bool)
   ·simp only [cond_false,Option.map_map]
    congr 1
    funext y
    simp only [Function.comp_apply];omega
   ·simp
theorem SU {all:Array Oper} {o p:Oper} {m n:Nat} (h:Vd ⟨o.dst,j9 all o,m⟩ ⟨p.dst,j9 all p,n⟩=true):
  ((match p.dst with|some d=>o.dst !=some d&& !(j9 all o).contains d|none=>true)&&(match o.dst with|some d=> !(j9 all p).contains d|none=>true))=true:=by
 simp only [Vd,Bool.and_eq_true,Mt] at h ⊢
 refine ⟨?_,?_⟩
 ·have h:=h.1
  cases hp:p.dst with
  |none=>rfl
  |some d=>
   rw [hp] at h
   simp only [Bool.and_eq_true] at h ⊢
   refine ⟨?_,h.2⟩
   have h:=h.1
   cases ho:o.dst with
   |none=>simp
   |some e=>
    rw [ho] at h
    simp only [Bool.not_eq_true',<- Bool.not_eq_true,Nat.beq_eq] at h
    simp [h]
 ·exact h.2
theorem force_eq {α:Type} (n:Nat) (k:Nat->α):force n k=k n:=by cases n<;>rfl
theorem BH {α:Type} : ∀(l:List Nat) (k:List Nat->α),Fu l k=k l
 | [],_=>rfl
 |x::r,k=>by rw [Fu,force_eq,BH r]
theorem Ft {α:Type} : ∀(l:List fD) (k:List fD->α),DW l k=k l
 | [],_=>rfl
 |e::r,k=>by rw [DW,force_eq,force_eq,BH,BH,Ft r]
theorem M9: ∀(D:List DI) (o:DI),o∈D->o.w= []\/ o∈wsL D
 | [],_,h=>by cases h
 |p::r,o,h=>by
  rcases List.mem_cons.1 h with rfl|h
  ·cases hw:o.w with
   |nil=>exact .inl rfl
   |cons a l=>refine .inr ?_;rw [wsL,hw];exact List.mem_cons_self ..
  ·rcases M9 r o h with h1|h1
   ·exact .inl h1
   ·refine .inr ?_
    rw [wsL];split
    ·exact h1
    ·exact List.mem_cons_of_mem _ h1
theorem NZ {o p:DI} (ho:o.w= []) (hp:p.w= []):vZ o p=true:=by
 simp [vZ,ho,hp,oZ]
theorem VP {D:List DI} {mk:List (Nat×Nat×Nat)} (h:Y0 D mk=true):(D.all fun o=>Rm mk o&&D.all (vZ o))=true:=by
 simp only [Y0,Bool.and_eq_true] at h
 refine List.all_eq_true.2 fun o ho=> ?_
 simp only [Bool.and_eq_true]
 refine ⟨List.all_eq_true.1 h.1 o ho,List.all_eq_true.2 fun p hp=> ?_⟩
 rcases M9 D o ho with h1|h1
 ·rcases M9 D p hp with h2|h2
  ·exact NZ h1 h2
  ·have:=List.all_eq_true.1 (List.all_eq_true.1 h.2 p h2) o ho
   simp only [Bool.and_eq_true] at this
   exact this.1
 ·have:=List.all_eq_true.1 (List.all_eq_true.1 h.2 o h1) p hp
  simp only [Bool.and_eq_true] at this
  exact this.2
theorem yj {ops:Array Oper} {lg:List fD} (h:sy ops lg=true):Ur ops lg=true:=by
 simp only [sy,Ft,abR,Bool.and_eq_true] at h
 obtain ⟨⟨h1,h2,h3⟩,h4⟩:=h
 have h4:=VP h4
 have hlen:lg.length=ops.size:=Nat.eq_of_beq_eq_true h1
 rw [ahL] at h3 h4
 have hml:(masks ops.toList []).length=ops.size:=by rw [JY];simp
 simp only [Ur,Bool.and_eq_true,beq_iff_eq]
 refine ⟨hlen,List.all_eq_true.2 fun i hi=> ?_⟩
 have hi:i<ops.size:=List.mem_range.1 hi
 obtain ⟨o,ho⟩: ∃o,ops.toList[i]? =some o:=⟨ops[i],by simp [hi]⟩
 have Bk:ops[i]? =some o:=by simpa using ho
 obtain ⟨l,hl⟩: ∃l,lg[i]? =some l:=⟨_,List.getElem?_eq_getElem (by omega)⟩
 obtain ⟨m,hm⟩: ∃m,(masks ops.toList [])[i]? =some m:=⟨_,List.getElem?_eq_getElem (by omega)⟩
 have hmi:(masks ops.toList []).getD i 0=m:=by rw [List.getD_eq_getElem?_getD,hm];rfl
 generalize (masks ops.toList [])=ms at h3 h4 hml hm hmi ⊢
 unfold Sq
 rw [Bk,hl]
 simp only [Bool.and_eq_true]
 have hd:=Fg lg ms 0 i l m hl hm
 rw [Nat.zero_add] at hd
 have hone:(l.wr.all fun m=>l.aH.contains m)=true/\ (l.aH.all fun x=>match zU lg x with|some j=>j==i||m.testBit j|none=>true)=true:=by
  rcases hd with ⟨e1,e2⟩|hd
  ·rw [e1,e2];exact ⟨rfl,rfl⟩
  ·have:=List.all_eq_true.1 h4 _ hd
   simp only [Bool.and_eq_true,Rm] at this
   obtain ⟨⟨g1,g2⟩,_⟩:=this
   rw [Vf] at g1
   refine ⟨g1,List.all_eq_true.2 fun x hx=> ?_⟩
   have:=List.all_eq_true.1 g2 x hx
   rw [JW] at this
   cases hk:zU lg x with
   |none=>rfl
   |some j=>
    rw [hk] at this
    simp only [Option.map_some,Nat.add_zero,Bool.or_eq_true,Nat.beq_eq] at this
    simpa using this
 rw [hmi]
 refine ⟨⟨⟨?_,hone.1⟩,hone.2⟩,List.all_eq_true.2 fun j hj=> ?_⟩
 ·refine List.all_eq_true.2 fun j hj=> ?_
  have:=Cv _ _ h2 i o ho j hj
  simpa using this
 ·have hj:j<i:=List.mem_range.1 hj
  obtain ⟨oj,hoj⟩: ∃o,ops.toList[j]? =some o:=⟨ops[j]'(by omega),by simp [show j<ops.size by omega]⟩
  have amm:ops[j]? =some oj:=by simpa using hoj
  obtain ⟨lj,hlj⟩: ∃l,lg[j]? =some l:=⟨_,List.getElem?_eq_getElem (by omega)⟩
  obtain ⟨mj,hmj⟩: ∃m,ms[j]? =some m:=⟨_,List.getElem?_eq_getElem (by omega)⟩
  rw [amm,hlj]
  simp only [Bool.or_eq_true]
  rcases Bool.eq_false_or_eq_true (m.testBit j) with hb|hb
  ·exact .inl hb
  ·refine .inr ?_
   have hs:=A4 _ _ _ (A2 _ _ h3 i _ (Mx _ _ i o m ho hm)) j _ (by omega) (Mx _ _ j oj mj hoj hmj)
   rw [Nat.zero_add,hb] at hs
   have hs:=SU (hs.resolve_left (by simp))
   simp only [Bool.and_eq_true] at hs ⊢
   refine ⟨⟨?_,hs.1⟩,hs.2⟩
   have Bj:=Fg lg ms 0 j lj mj hlj hmj
   rw [Nat.zero_add] at Bj
   rcases hd with ⟨e1,e2⟩|hd
   ·rw [e1,e2]
    refine ⟨⟨rfl,?_⟩,rfl⟩
    exact List.all_eq_true.2 fun _ _=>rfl
   ·rcases Bj with ⟨e1,e2⟩|Bj
    ·rw [e1,e2]
     exact ⟨⟨List.all_eq_true.2 fun _ _=>rfl,rfl⟩,List.all_eq_true.2 fun _ _=>rfl⟩
    ·have:=List.all_eq_true.1 h4 _ hd
     simp only [Bool.and_eq_true] at this
     have:=List.all_eq_true.1 this.2 _ Bj
     simp only [vZ,Bool.or_eq_true,hb,TC,Bool.and_eq_true] at this
     rcases this with (h|h)|h
     ·rw [Nat.ble_eq] at h;omega
     ·cases h
     ·exact h
structure Good (P:Program) (X:Addr->Value->Prop) (ops:Array Oper) (aX:AS) (tr:List (Option Rec)) (el:List fD):Prop where
 len:tr.length=ops.size
 trace:Bo P X ops ops.toList aX tr
 ord:Ur ops el=true
 eff:el=kN ops.toList aX tr\/ el=adp aX.heap (kN ops.toList aX tr)
def MV (el:List fD) (i:Nat):List Nat:=match el[i]? with
 |some l=>l.aH
 |none=> []
variable {X:Addr->Value->Prop} {ops:Array Oper} {aX:AS} {tr:List (Option Rec)} {el:List fD}
theorem Good.at_ (h:Good P X ops aX tr el) {i:Nat} (hi:i<ops.size): ∃o r,ops[i]? =some o/\ ops.toList[i]? =some o/\ tr[i]? =some r/\ dh tr i=r/\ Tg P X ops o (tG ops.toList tr aX i) r/\
  tG ops.toList tr aX (i+1)=mE o (tG ops.toList tr aX i) r/\ (kN ops.toList aX tr)[i]? =some (F3 o (tG ops.toList tr aX i) r):=by
 have ho:ops.toList[i]? =some ops[i]:=by simp [hi]
 have hr:tr[i]? =some (tr[i]'(by rw [h.len];exact hi)):=List.getElem?_eq_getElem _
 obtain ⟨h1,h2,h3⟩:=QA ops.toList aX tr i _ _ h.trace ho hr
 exact ⟨_,_,by simp [hi],ho,hr,by simp [dh,hr],h1,h2,h3⟩
theorem Good.ah8 (h:Good P X ops aX tr el): ∀i,i<=ops.size->(tG ops.toList tr aX i).tmps.length=aX.tmps.length
 |0,_=>by simp [tG,m7]
 |i+1,hi=>by
  obtain ⟨o,r,_,_,_,_,_,hs,_⟩:=h.at_ (i:=i) (by omega)
  rw [hs,XF,h.ah8 i (by omega)]
theorem Good.Ul (h:Good P X ops aX tr el) {i:Nat} (hi:i<ops.size):Bl ops.toList tr aX (i+1)=Bl ops.toList tr aX i+(match dh tr i with|some r=>r.fresh.length|none=>0):=by
 obtain ⟨o,r,_,_,_,hr,_,hs,_⟩:=h.at_ hi
 simp only [Bl,hs,SV,hr]
theorem Good.Eb (h:Good P X ops aX tr el) {i:Nat} : ∀ {j:Nat},i<j->j<=ops.size->Bl ops.toList tr aX i+(match dh tr i with|some r=>r.fresh.length|none=>0)<=Bl ops.toList tr aX j
 |0,hij,_=>by omega
 |j+1,hij,hj=>by
  by_cases e:i=j
  ·subst e;rw [h.Ul (by omega)];exact Nat.le_refl _
  ·have h1:=h.Eb (i:=i) (j:=j) (by omega) (by omega)
   have h2:=h.Ul (i:=j) (by omega)
   rw [h2];omega
theorem Good.Um:Bl ops.toList tr aX 0=aX.heap.length:=by simp [Bl,tG,m7]
theorem Good.af3 (h:Good P X ops aX tr el) {i:Nat} (hi:i<=ops.size):aX.heap.length<=Bl ops.toList tr aX i:=by
 rcases Nat.eq_zero_or_pos i with rfl|h0
 ·rw [Good.Um];exact Nat.le_refl _
 ·have:=h.Eb (i:=0) h0 hi;rw [Good.Um] at this;omega
theorem oh {nm:Nat} {r:Option Rec} {m:Nat} :covers nm r m↔nm<=m/\ m<nm+(match r with|some r=>r.fresh.length|none=>0):=by
 cases r with
 |none=>exact ⟨fun h=>h.elim,fun h=>by have h1:=h.1;have h2:=h.2;dsimp only at h2;omega⟩
 |some r=>exact Iff.rfl
theorem Good.tU (h:Good P X ops aX tr el) {i j m:Nat} (hi:i<ops.size) (hj:j<ops.size) (h1:covers (Bl ops.toList tr aX i) (dh tr i) m) (h2:covers (Bl ops.toList tr aX j) (dh tr j) m):i=j:=by
 rw [oh] at h1 h2
 rcases Nat.lt_trichotomy i j with e|e|e
 ·have:=h.Eb e (by omega);omega
 ·exact e
 ·have:=h.Eb e (by omega);omega
def Bt (ops:Array Oper) (i j:Nat):Bool:=((masks ops.toList []).getD i 0).testBit j
theorem pg {i j:Nat} (h:Bt ops i j=true):Tf ops.toList i j:=
 F9 ops.toList ops.toList [] [] rfl rfl (fun i j hb=>by simp at hb) i j h
theorem F4 (o:Oper) (st:AS) (r:Option Rec):(F3 o st r).wr=s9 r/\ (F3 o st r).aH=Em r/\ (F3 o st r).nm=st.heap.length/\ (F3 o st r).cnt=(match r with|some r=>r.fresh.length|none=>0):=by
 cases r<;>exact ⟨rfl,rfl,rfl,rfl⟩
theorem Rn (h0:List aG) (all:List fD) (l:fD):N3 h0 all l=l\/ (∃n q m,l.look=some (n,q)/\ l.aH= [m]/\ l.wr= []/\ n<h0.length/\ q.hit (aj h0 n)=true/\ Ds n q all=true/\
  (N3 h0 all l).nm=l.nm/\ (N3 h0 all l).cnt=l.cnt/\ (N3 h0 all l).aH= []/\ (N3 h0 all l).wr= []):=by
 unfold N3
 split
 ·rename_i n q m h1 h2 h3
  cases hb:(Nat.beq m n&&Nat.blt n h0.length&&q.hit (aj h0 n)&&Ds n q all) with
  |false=>exact .inl rfl
  |true=>
   simp only [Bool.and_eq_true,Nat.blt_eq] at hb
   exact .inr ⟨n,q,m,h1,h2,h3,hb.1.1.2,hb.1.2,hb.2,rfl,rfl,rfl,rfl⟩
 ·exact .inl rfl
theorem Ll {n:Nat} {q:Ey} : ∀ {ws:List (Nat×aG)},acy n q ws=true-> ∀p∈ws,p.1=n->q.hit (live (some p.2))=true
 | [],_,p,hp,_=>by cases hp
 |x::r,h,p,hp,e=>by
  simp only [acy,Bool.and_eq_true,Bool.or_eq_true,Bool.not_eq_true'] at h
  rcases List.mem_cons.1 hp with rfl|hp
  ·have h1:=h.1.resolve_left (by rw [e];simp)
   cases hx:p.2<;>rw [hx] at h1<;>first|exact h1|(cases q<;>cases h1)
  ·exact Ll h.2 p hp e
theorem HR {n:Nat} {q:Ey} : ∀ {lg:List fD},Ds n q lg=true-> ∀l∈lg,acy n q l.ws=true
 | [],_,l,hl=>by cases hl
 |x::r,h,l,hl=>by
  simp only [Ds,Bool.and_eq_true] at h
  rcases List.mem_cons.1 hl with rfl|hl
  ·exact h.1
  ·exact HR h.2 l hl
theorem Good.N4 (h:Good P X ops aX tr el) {i:Nat} (hi:i<ops.size): ∃l,el[i]? =some l/\ l.wr=s9 (dh tr i)/\ l.nm=Bl ops.toList tr aX i/\ l.cnt=(match dh tr i with|some r=>r.fresh.length|none=>0)/\
  (l.aH=Em (dh tr i)\/ (l.aH= []/\ ∃o r n q,ops[i]? =some o/\ dh tr i=some r/\ dP o.op (cr (tG ops.toList tr aX i).tmps) r.val=some (n,q)/\ n<aX.heap.length/\ q.hit (aj aX.heap n)=true/\ Ds n q (kN ops.toList aX tr)=true)):=by
 obtain ⟨o,r,ho,_,_,hr,_,_,qV⟩:=h.at_ hi
 obtain ⟨f1,f2,f3,f4⟩:=F4 o (tG ops.toList tr aX i) r
 rw [hr]
 rcases h.eff with e|e
 ·rw [e]
  exact ⟨_,qV,f1,f3,f4,.inl f2⟩
 ·have hl:el[i]? =some (N3 aX.heap (kN ops.toList aX tr) (F3 o (tG ops.toList tr aX i) r)):=by rw [e,adp,List.getElem?_map,qV];rfl
  rcases Rn aX.heap (kN ops.toList aX tr) (F3 o (tG ops.toList tr aX i) r) with e1|⟨n,q,m,g1,g2,g3,g4,g5,g6,g7,g8,g9,g10⟩
  ·exact ⟨_,hl,by rw [e1,f1],by rw [e1,f3];rfl,by rw [e1,f4],.inl (by rw [e1,f2])⟩
  ·refine ⟨_,hl,by rw [g10,←f1,g3],by rw [g7,f3];rfl,by rw [g8,f4],.inr ⟨g9,?_⟩⟩
   cases r with
   |none=>cases g1
   |some r=>exact ⟨o,r,n,q,ho,rfl,g1,g4,g5,g6⟩
theorem MW {i:Nat} {l:fD} (h:el[i]? =some l):MV el i=l.aH:=by unfold MV;rw [h]
theorem xZ {a b:List Nat} (h:Jh a b=true): ∀m∈a,m∉b:=by
 intro m hm hb
 have:=List.all_eq_true.1 h m hm
 simp [hb] at this
theorem Good.one (h:Good P X ops aX tr el) {i:Nat} (hi:i<ops.size) {o:Oper} (ho:ops[i]? =some o):
  (∀j∈direct o,j<i)/\ (∀m∈s9 (dh tr i),m∈MV el i)/\
  (∀m∈MV el i,∀j,j<ops.size->covers (Bl ops.toList tr aX j) (dh tr j) m->j=i\/ Bt ops i j=true)/\
  ∀j p,j<i->ops[j]? =some p->Bt ops i j=false->
   (∀m∈s9 (dh tr i),m∉MV el j)/\ (∀m∈s9 (dh tr j),m∉MV el i)/\ (∀m∈s9 (dh tr i),m∉s9 (dh tr j))/\
   (∀d,p.dst=some d->o.dst≠some d/\ d∉j9 ops o)/\ (∀d,o.dst=some d->d∉j9 ops p):=by
 have x9:=h.ord
 simp only [Ur,Bool.and_eq_true] at x9
 have h1:=List.all_eq_true.1 x9.2 i (List.mem_range.2 hi)
 obtain ⟨l,qV,f1,f3,f4,_⟩:=h.N4 hi
 have f2:l.aH=MV el i:=(MW qV).symm
 unfold Sq at h1
 rw [ho,qV] at h1
 simp only [Bool.and_eq_true] at h1
 obtain ⟨⟨⟨h1,h2⟩,h3⟩,h4⟩:=h1
 refine ⟨fun j hj=>by simpa using List.all_eq_true.1 h1 j hj,fun m hm=> ?_,fun m hm j hj hc=> ?_,fun j p hj hp hb=> ?_⟩
 ·have:=List.all_eq_true.1 h2 m (by rw [f1];exact hm)
  rw [f2] at this
  simpa using this
 ·have:=List.all_eq_true.1 h3 m (by rw [f2];exact hm)
  have hmk:zU el m=some j:=by
   unfold zU
   rw [List.findIdx?_eq_some_iff_getElem]
   obtain ⟨lj,hlj,_,g3,g4,_⟩:=h.N4 hj
   obtain ⟨hjl,hje⟩:=List.getElem?_eq_some_iff.1 hlj
   refine ⟨hjl,?_,fun k hk=> ?_⟩
   ·rw [hje,g3,g4]
    rw [oh] at hc
    simpa using hc
   ·obtain ⟨lk,hlk,_,k3,k4,_⟩:=h.N4 (i:=k) (by omega)
    obtain ⟨hkl,hke⟩:=List.getElem?_eq_some_iff.1 hlk
    rw [hke,k3,k4]
    intro alV
    have:covers (Bl ops.toList tr aX k) (dh tr k) m:=by
     rw [oh];simpa using alV
    have:=h.tU (by omega) hj this hc
    omega
  rw [hmk] at this
  simp only [Bool.or_eq_true,beq_iff_eq] at this
  exact this
 ·have:=List.all_eq_true.1 h4 j (List.mem_range.2 hj)
  obtain ⟨lj,hlj,g1,_,_,_⟩:=h.N4 (i:=j) (by omega)
  have g2:lj.aH=MV el j:=(MW hlj).symm
  have hb':(((masks ops.toList []).getD i 0).testBit j)=false:=hb
  rw [hb',hp,hlj] at this
  simp only [Bool.false_or,Bool.and_eq_true,f1,f2,g1,g2] at this
  obtain ⟨⟨⟨⟨a1,a2⟩,a3⟩,a4⟩,a5⟩:=this
  refine ⟨xZ a1,xZ a2,xZ a3,fun d hd=> ?_,fun d hd=> ?_⟩
  ·rw [hd] at a4
   simp only [Bool.and_eq_true,bne_iff_ne,ne_eq,Bool.not_eq_true',List.contains_eq_mem,decide_eq_false_iff_not] at a4
   exact a4
  ·rw [hd] at a5
   simpa using a5
structure Yc (au:eW) (W:World) (df:List Deferred) (N:Nat) (F:FS) (ρ:Env) (a:Act) (w:World):Prop where
 tmps: ∀t,F.T t≠ .dead->a.tmps.getD t undef=(F.T t).ae ρ
 ok: ∀t,(F.T t).ok F.Kn
 size:a.tmps.size=N
 defers:a.defers=df
 st:St au W ρ F.Kn F.G w
theorem Uz {st:AS} {ρ:Env} {a:Act} {w:World} (h:kJ au W df st ρ a w):Yc au W df st.tmps.length (fa st) ρ a w:=⟨h.tmps,h.kn,h.size,h.defers,h.st⟩
theorem aeZ {st:AS} {N:Nat} {ρ:Env} {a:Act} {w:World} (h:Yc au W df N (fa st) ρ a w) (hN:st.tmps.length=N):kJ au W df st ρ a w:=⟨h.tmps,by rw [h.size,hN],h.defers,h.ok,h.st⟩
theorem WN {o:Oper} {t:Nat} (h:Operand.tmp t∈o.op.operands):t∈j9 ops o:=
 List.mem_append_left _ (List.mem_filterMap.2 ⟨.tmp t,Array.mem_toList_iff.2 h,rfl⟩)
theorem Xf {N i:Nat} {F:FS} {ρ:Env} {a:Act} {w:World} {ro:Option Nat} {n:Nat} {Q:Exit->Act->World->Prop} (hX:rD au W X) (hR:Yc au W df N F ρ a w) {o:Oper} (ho:ops[i]? =some o) {S:AS} {r:Option Rec}
  (hf:Tg P X ops o S r) (hT: ∀t∈j9 ops o,F.T t=bP S.tmps t) (hG:(∀m∈Em r,F.G m=aj S.heap m)\/ ∃r' n q,r=some r'/\ dP o.op (cr S.tmps) r'.val=some (n,q)/\ q.hit (F.G n)=true) (hfr: ∀m,covers S.heap.length r m-> ¬F.Kn m):
  wpOpIn (fw ro) n P ops Q i (fun a' w'=> ∃ρ',Yc au W df N (IJ N o S.heap.length r F) ρ' a' w') a w:=by
 have lO: ∀x∈o.op.operands,(cr S.tmps x≠ .dead->a.eval x=(cr S.tmps x).ae ρ)/\ (cr S.tmps x).ok F.Kn:=by
  intro x hx
  cases x with
  |tmp t=>
   have:=hT t (WN hx)
   refine ⟨?_,?_⟩
   ·show bP S.tmps t≠ .dead→a.tmps.getD t undef=(bP S.tmps t).ae ρ
    rw [<- this];exact hR.tmps t
   ·show (bP S.tmps t).ok F.Kn
    rw [<- this];exact hR.ok t
  |const v=>exact ⟨fun _=>(oG v ρ).symm,u7 _ _⟩
  |global g=>exact ⟨fun _=>rfl,trivial⟩
  |func f=>exact ⟨fun _=>rfl,fun r hr=>absurd hr (by simp)⟩
 have hgd: ∀b,lH ops o S b->Region.wanted o (yielded ops a.tmps)=b:=by
  intro b hb
  unfold lH at hb
  split at hb
  ·rename_i hg;rw [hb];simp [Region.wanted,hg]
  ·rename_i j want hg
   obtain ⟨d,hd,hb⟩:=hb
   have h1:=hR.tmps d
   have e1:(ops[j]?).bind (·.dst)=some d:=by
    unfold tZ at hd;split at hd
    ·rename_i p hp;simp [hp,hd]
    ·cases hd
   rw [hT d (by unfold j9;rw [hg];exact List.mem_append_right _ (by simp [hd]))] at h1
   rcases hb with ⟨x,hx,hxb⟩|⟨hx,hb⟩
   rotate_left
   ·have h1:=h1 (by rw [hx];simp)
    rw [hx] at h1
    rw [hb]
    rw [Array.getD_eq_getD_getElem?] at h1
    cases hq:a.tmps[d]? with
    |none=>simp [Region.wanted,hg,yielded,e1,hq]
    |some v=>
     rw [hq] at h1
     have e:v= .tuple #[]:=h1
     subst e
     simp [Region.wanted,hg,yielded,e1,hq]
   have gU:bP S.tmps d≠ .dead:=by rw [hx];simp [bD]
   have h1:=h1 gU
   rw [hx] at h1
   have e2:a.tmps[d]? =some (.bool x):=by
    rw [Array.getD_eq_getD_getElem?] at h1
    cases hq:a.tmps[d]? with
    |none=>rw [hq] at h1;cases h1
    |some v=>rw [hq] at h1;exact congrArg some h1
   simp only [Region.wanted,hg,yielded,e1,Option.bind_some,e2]
   rw [<- hxb];cases x<;>cases want<;>rfl
 unfold wpOpIn
 rw [ho]
 dsimp only
 cases r with
 |some r=>
  obtain ⟨hg,gU,hl,hlk⟩:=hf
  rw [if_pos (hgd true hg)]
  obtain ⟨H,hH,hHG⟩: ∃H:HP,bJ P X o (cr S.tmps) H S.heap.length r/\ ∀m∈r.aH,F.G m=H m:=by
   rcases hG with hG|⟨r',n',q,e,h1,h2⟩
   ·exact ⟨_,hl,hG⟩
   ·cases e
    exact ⟨F.G,hlk n' q h1 F.G h2,fun _ _=>rfl⟩
  refine hH.2 ro n au W ρ F.Kn F.G w a _ Q hX (fun x hx=>(lO x hx).1 (gU x hx)) (fun x hx=>(lO x hx).2) hHG (fun k hk=>hfr _ ⟨by omega,by omega⟩) hR.st ?_
  intro ρ' w' ql Ih hst
  refine ⟨ρ',fun t=> ?_,fun t=> ?_,by rw [mB,hR.size],by rw [put_defers,hR.defers],hst⟩
  ·rw [iF,hR.size]
   simp only [IJ]
   have hold:F.T t≠ .dead->a.tmps.getD t undef=(F.T t).ae ρ':=fun hd=>by rw [hR.tmps t hd];exact (AV.bq ql _ (hR.ok t)).symm
   cases o.dst with
   |none=>simpa using hold
   |some d=>
    simp only [Option.some.injEq]
    by_cases e:d=t
    ·subst e
     by_cases e2:d<N
     ·simp [e2]
     ·simp only [e2,and_false,if_false];exact hold
    ·have n1: ¬(t=d∧d<N):=fun h=>e h.1.symm
     have n2: ¬(d=t/\ t<N):=fun h=>e h.1
     simp only [n1,n2,if_false];exact hold
  ·simp only [IJ]
   split
   ·exact Ih
   ·exact AV.aR (fun m hm=> .inl hm) _ (hR.ok t)
 |none=>
  rw [if_neg (by rw [hgd false hf];simp)]
  refine ⟨fun _ _=>trivial,ρ,fun t=> ?_,fun t=> ?_,by rw [mB,hR.size],by rw [put_defers,hR.defers],hR.st⟩
  ·rw [iF,hR.size]
   simp only [IJ]
   cases o.dst with
   |none=>simpa using hR.tmps t
   |some d=>
    simp only [Option.some.injEq]
    by_cases e:d=t
    ·subst e
     by_cases e2:d<N
     ·simp only [e2,and_self,if_true];intro _;rfl
     ·simp only [e2,and_false,if_false];exact hR.tmps d
    ·have n1: ¬(t=d∧d<N):=fun h=>e h.1.symm
     have n2: ¬(d=t/\ t<N):=fun h=>e h.1
     simp only [n1,n2,if_false];exact hR.tmps t
  ·simp only [IJ]
   split
   ·exact s7 _
   ·exact hR.ok t
theorem Good.text (h:Good P X ops aX tr el): ∀i,i<=ops.size->part aX.tmps.length ops.toList tr aX (fun _=>true) (List.range i) (fa aX)=fa (tG ops.toList tr aX i)
 |0,_=>by simp [part,tG,m7]
 |i+1,hi=>by
  obtain ⟨o,r,_,ho,hr,_,hf,hs,_⟩:=h.at_ (i:=i) (by omega)
  have ih:=h.text i (by omega)
  have e:part aX.tmps.length ops.toList tr aX (fun _=>true) (List.range (i+1)) (fa aX)=mQ aX.tmps.length ops.toList tr aX i (part aX.tmps.length ops.toList tr aX (fun _=>true) (List.range i) (fa aX)):=by
   rw [List.range_succ];simp [part,List.foldl_append]
  rw [e,ih,hs]
  unfold mQ
  rw [ho,hr]
  exact aaZ (h.ah8 i (by omega)) r fun q hq p hp=>by subst hq;exact hf.2.2.1.1 p hp
theorem aeT {N:Nat} {ops:List Oper} {tr:List (Option Rec)} {aX:AS} {n i:Nat} (hi:i<=n) (s:FS):part N ops tr aX (fun j=>decide (j<i)) (List.range n) s=part N ops tr aX (fun _=>true) (List.range i) s:=by
 have e:List.range n=List.range i++List.range' i (n- i):=by
  have e1:=List.range'_append_1 (s:=0) (m:=i) (n:=n- i)
  rw [Nat.zero_add] at e1
  rw [List.range_eq_range',List.range_eq_range',e1];congr 1;omega
 have h1: ∀(is:List Nat) (s:FS),(∀j∈is,j<i)->part N ops tr aX (fun j=>decide (j<i)) is s=part N ops tr aX (fun _=>true) is s:=by
  intro is
  induction is with
  |nil=>intro s _;rfl
  |cons j r ih=>
   intro s hj
   show part N ops tr aX _ r _=part N ops tr aX _ r _
   simp only [hj j (by simp),decide_true,if_true]
   exact ih _ (fun k hk=>hj k (by simp [hk]))
 have h2: ∀(is:List Nat) (s:FS),(∀j∈is,i<=j)->part N ops tr aX (fun j=>decide (j<i)) is s=s:=by
  intro is
  induction is with
  |nil=>intro s _;rfl
  |cons j r ih=>
   intro s hj
   show part N ops tr aX _ r _=s
   have:decide (j<i)=false:=by have:=hj j (by simp);simpa using this
   simp only [this,Bool.false_eq_true,if_false]
   exact ih _ (fun k hk=>hj k (by simp [hk]))
 rw [e]
 show List.foldl _ s (_++_)=_
 rw [List.foldl_append]
 show part N ops tr aX _ _ (part N ops tr aX _ _ s)=_
 rw [h1 _ _ (fun j hj=>List.mem_range.1 hj),h2 _ _ (fun j hj=>(List.mem_range'_1.1 hj).1)]
theorem Good.YW (h:Good P X ops aX tr el) {i j:Nat} (hd:Tf ops.toList i j):j<i:=by
 induction hd with
 | @edge i' j' o' Bk hj'=>
  have hi':i'<ops.size:=by have:=(List.getElem?_eq_some_iff.1 Bk).1;simpa using this
  exact (h.one hi' (by rw [<- Array.getElem?_toList];exact Bk)).1 _ hj'
 | @trans i' j' k' o' Bk hk' _ ih=>
  have hi':i'<ops.size:=by have:=(List.getElem?_eq_some_iff.1 Bk).1;simpa using this
  have:=(h.one hi' (by rw [<- Array.getElem?_toList];exact Bk)).1 _ hk'
  omega
theorem count_set: ∀(l:List Bool) (i:Nat),l[i]? =some false->(l.set i true).countP (!·)+1=l.countP (!·)
 | [],_,h=>by simp at h
 |b::r,0,h=>by simp at h;subst h;simp
 |b::r,i+1,h=>by
  have:=count_set r i (by simpa using h)
  simp only [List.set_cons_succ,List.countP_cons];omega
theorem R8 {ws:List (Nat×aG)} {m:Nat} {o:aG} (h:bV ws m=some o):(m,o)∈ws:=by
 induction ws with
 |nil=>cases h
 |cons p r ih=>
  simp only [bV] at h
  split at h
  ·rename_i o' ho
   cases h
   exact List.mem_cons_of_mem _ (ih ho)
  ·split at h
   ·rename_i e
    cases h
    rw [<- e]
    exact List.mem_cons_self ..
   ·cases h
theorem Pe (h:Good P X ops aX tr el) {N n:Nat} {q:Ey} {L:Nat->Bool} (hn:n<aX.heap.length) (hv:Ds n q (kN ops.toList aX tr)=true): ∀(is:List Nat) (s:FS),q.hit (s.G n)=true->q.hit ((part N ops.toList tr aX L is s).G n)=true
 | [],s,hs=>hs
 |i::r,s,hs=>by
  refine Pe h hn hv r _ ?_
  dsimp only
  split
  rotate_left
  ·exact hs
  unfold mQ
  split
  rotate_left
  ·exact hs
  rename_i o x ho hx
  cases x with
  |none=>exact hs
  |some x=>
   have hi:i<ops.size:=by have:=(List.getElem?_eq_some_iff.1 ho).1;simpa using this
   obtain ⟨o',r',_,hol,htr,_,_,_,qV⟩:=h.at_ hi
   rw [htr] at hx
   cases hx
   have hw:=HR hv _ (List.mem_of_getElem? qV)
   have hnm:=h.af3 (i:=i) (by omega)
   simp only [IJ,bO]
   rw [if_neg (by intro hc;have:=hc.1;simp only [Bl] at hnm;omega)]
   split
   ·rename_i o2 ho2
    exact Ll hw _ (R8 ho2) rfl
   ·exact hs
def Q6 (au:eW) (W:World) (df:List Deferred) (ops:Array Oper) (tr:List (Option Rec)) (aX:AS) (L:Array Bool) (a:Act) (w:World):Prop:=L.size=ops.size/\ (∀i o,L.getD i false=true->ops.toList[i]? =some o-> ∀j∈direct o,L.getD j false=true)/\
  ∃ρ,Yc au W df aX.tmps.length (part aX.tmps.length ops.toList tr aX (fun i=>L.getD i false) (List.range ops.size) (fa aX)) ρ a w
theorem qM (hX:rD au W X) (h:Good P X ops aX tr el) (ro:Option Nat) (n:Nat) (Q:Exit->Act->World->Prop):
    ∀L a w i,Q6 au W df ops tr aX L a w->i∈Region.ready .any ops L->wpOpIn (fw ro) n P ops Q i (fun a' w'=>Q6 au W df ops tr aX (L.setIfInBounds i true) a' w') a w/\ i<ops.size/\ L[i]? =some false/\ ∀j,Tf ops.toList i j->L.getD j false=true:=by
  let N:=aX.tmps.length
  have hsz:ops.toList.length=ops.size:=by simp
  rintro L a w i ⟨hL,hdc,ρ,hR⟩ hi
  simp only [Region.ready,List.mem_filter,List.mem_range,Bool.and_eq_true,Bool.not_eq_true'] at hi
  obtain ⟨hin,hnl,RM⟩:=hi
  have hLi:L[i]? =some false:=by
    rw [Array.getElem?_eq_getElem (by omega)]
    rw [Array.getD_eq_getD_getElem?,Array.getElem?_eq_getElem (by omega)] at hnl
    simpa using hnl
  have hLf:L.getD i false=false:=by rw [Array.getD_eq_getD_getElem?,hLi];rfl
  obtain ⟨o,r,ho,hol,htr,hri,hf,hs,_⟩:=h.at_ hin
  have aju: ∀j∈direct o,L.getD j false=true:=by
    intro j hj
    simp only [direct,List.mem_map,List.mem_filter] at hj
    obtain ⟨e,⟨he,hb⟩,rfl⟩:=hj
    rw [ho] at RM
    simp only [Option.map_some,Option.getD_some] at RM
    have:=Array.all_eq_true_iff_forall_mem.1 RM e (Array.mem_toList_iff.1 he)
    simpa [hb] using this
  have Wg: ∀j,Tf ops.toList i j->L.getD j false=true:=fun j hd=>hd.W5 (L:=fun j=>L.getD j false=true) hdc hol aju
  have Zy: ∀j,L.getD j false=true-> ¬Tf ops.toList j i:=fun j hj hd=>by
    have:=hd.closed (L:=fun j=>L.getD j false=true) hdc hj
    rw [hLf] at this;cases this
  obtain ⟨_,hwt,htm,afU⟩:=h.one hin ho
  have x9: ∀j,j<ops.size->j≠i->(L.getD j false=decide (j<i))\/ ((j<i/\ Bt ops i j=false)\/ (i<j/\ Bt ops j i=false)):=by
    intro j hj hne
    rcases Nat.lt_or_gt_of_ne hne with hlt|hlt
    · cases hb:Bt ops i j with
      |true=>left;rw [Wg j (pg hb)];simp [hlt]
      |false=>exact .inr (.inl ⟨hlt,rfl⟩)
    · cases hb:Bt ops j i with
      | true=>
        left
        cases hLj:L.getD j false with
        |true=>exact absurd (pg hb) (Zy j hLj)
        |false=>simp;omega
      |false=>exact .inr (.inr ⟨hlt,rfl⟩)
  have hsi:fa (tG ops.toList tr aX i)=part N ops.toList tr aX (fun j=>decide (j<i)) (List.range ops.size) (fa aX):=by
    rw [aeT (by omega),h.text i (by omega)]
  have hT: ∀t∈j9 ops o,(part N ops.toList tr aX (fun i=>L.getD i false) (List.range ops.size) (fa aX)).T t=bP (tG ops.toList tr aX i).tmps t:=by
    intro t ht
    show _=(fa (tG ops.toList tr aX i)).T t
    rw [hsi]
    refine Gi _ _ _ rfl fun j hj hd=> ?_
    have hj:=List.mem_range.1 hj
    by_cases hne:j=i
    · subst hne;rw [hLf];simp
    · obtain ⟨p,_,hp,xq,_⟩:=h.at_ hj
      have hpd:p.dst=some t:=by simpa [Dz,xq] using hd
      rcases x9 j hj hne with e|⟨hlt,hb⟩|⟨hlt,hb⟩
      · exact e
      · exact absurd ht ((afU j p hlt hp hb).2.2.2.1 t hpd).2
      · exact absurd ht ((h.one hj hp).2.2.2 i o hlt ho hb|>.2.2.2.2 t hpd)
  have hG0: ∀m∈MV el i,(part N ops.toList tr aX (fun i=>L.getD i false) (List.range ops.size) (fa aX)).G m=aj (tG ops.toList tr aX i).heap m:=by
    intro m hm'
    show _=(fa (tG ops.toList tr aX i)).G m
    rw [hsi]
    refine MB _ _ _ rfl fun j hj hd=> ?_
    have hj:=List.mem_range.1 hj
    by_cases hne:j=i
    · subst hne;rw [hLf];simp
    · obtain ⟨p,_,hp,xq,_⟩:=h.at_ hj
      rcases hd with hc|hwj
      · rcases htm m hm' j hj hc with e|e
        · exact absurd e hne
        · have hji:j<i:=by
            rcases x9 j hj hne with _|_
            all_goals
              rcases Nat.lt_or_gt_of_ne hne with h1|h1
              · exact h1
              · exfalso
                have:=h.YW (pg e)
                omega
          rw [Wg j (pg e)];simp [hji]
      · rcases x9 j hj hne with e|⟨hlt,hb⟩|⟨hlt,hb⟩
        · exact e
        · exact absurd hm' ((afU j p hlt hp hb).2.1 m hwj)
        · exact absurd hm' (((h.one hj hp).2.2.2 i o hlt ho hb).1 m hwj)
  have hG:(∀m∈Em r,(part N ops.toList tr aX (fun i=>L.getD i false) (List.range ops.size) (fa aX)).G m=aj (tG ops.toList tr aX i).heap m)\/ ∃r' n q,r=some r'/\ dP o.op (cr (tG ops.toList tr aX i).tmps) r'.val=some (n,q)/\ q.hit ((part N ops.toList tr aX (fun i=>L.getD i false) (List.range ops.size) (fa aX)).G n)=true:=by
    obtain ⟨l,qV,_,_,_,ht|⟨_,o',r',n',q,Bk,hr',h1,h2,h3,h4⟩⟩:=h.N4 hin
    · left
      rw [MW qV,ht,hri] at hG0
      exact hG0
    · right
      rw [ho] at Bk;cases Bk
      rw [hri] at hr'
      refine ⟨r',n',q,hr',h1, ?_⟩
      exact Pe h h2 h4 (List.range ops.size) _ h3
  have hfr: ∀m,covers (tG ops.toList tr aX i).heap.length r m-> ¬(part N ops.toList tr aX (fun i=>L.getD i false) (List.range ops.size) (fa aX)).Kn m:=by
    intro m hc hk
    have Iw:covers (Bl ops.toList tr aX i) (dh tr i) m:=by rw [hri];exact hc
    rw [z6 _ _ (fun j hj=>by rw [hsz];exact List.mem_range.1 hj)] at hk
    rcases hk with hk|⟨j,hj,hLj,hcj⟩
    · have h1:=h.af3 (i:=i) (by omega)
      rw [oh] at Iw
      have:m<aX.heap.length:=hk
      omega
    · have:=h.tU (List.mem_range.1 hj) hin hcj Iw
      subst this;rw [hLf] at hLj;cases hLj
  refine ⟨?_,hin,hLi,Wg⟩
  refine wpOpIn_mono ?_ (Xf hX hR ho hf hT hG hfr)
  rintro a' w' ⟨ρ',hR'⟩
  have Iz: ∀j,(L.setIfInBounds i true).getD j false=(L.getD j false||j==i):=by
    intro j
    simp only [Array.getD_eq_getD_getElem?,Array.getElem?_setIfInBounds]
    by_cases e:i=j
    · subst e;simp [hL,hin]
    · simp [e,Ne.symm e]
  refine ⟨by simp [hL],fun j p hj hp k hk=> ?_,ρ', ?_⟩
  · rw [Iz] at hj ⊢
    rw [Bool.or_eq_true] at hj ⊢
    rcases hj with hj|hj
    · exact .inl (hdc j p hj hp k hk)
    · have:j=i:=by simpa using hj
      subst this
      rw [hol] at hp;cases hp
      exact .inl (aju k hk)
  · have Iu:=aa1 (N:=N) (ops:=ops.toList) (tr:=tr) (aX:=aX) (L:=fun i=>L.getD i false) (n:=ops.size) (i:=i) (by omega) hin hLf (fun j hj hij hLj=>by
        obtain ⟨p,_,hp,xq,_⟩:=h.at_ hj
        have hb:Bt ops j i=false:=by
          cases hb:Bt ops j i with
          |true=>exact absurd (pg hb) (Zy j hLj)
          |false=>rfl
        have hbi:Bt ops i j=false:=by
          cases hb:Bt ops i j with
          | true=>
            exfalso
            have:=h.YW (pg hb)
            omega
          |false=>rfl
        obtain ⟨_,amD,amB,hpj⟩:=h.one hj hp
        have hp1:=hpj i o hij ho hb
        refine ⟨fun d hd DZ=> ?_,fun m FK hm2=>hp1.2.2.1 m hm2 FK,fun m h1 h2=> ?_,fun m h1 h2=> ?_,fun m h1 h2=> ?_⟩
        · have e1:o.dst=some d:=by simpa [Dz,hol] using hd
          have e2:p.dst=some d:=by simpa [Dz,xq] using DZ
          exact (hp1.2.2.2.1 d e1).1 e2
        · have:=h.tU hin hj h1 h2;omega
        · rcases htm m (hwt m h1) j hj h2 with e|e
          · omega
          · rw [hbi] at e;cases e
        · rcases amB m (amD m h1) i hin h2 with e|e
          · omega
          · rw [hb] at e;cases e) (fa aX)
    have e1:(fun j=>(L.setIfInBounds i true).getD j false)=(fun j=>L.getD j false||j==i):=funext Iz
    rw [e1,Iu]
    have e2:mQ N ops.toList tr aX i (part N ops.toList tr aX (fun i=>L.getD i false) (List.range ops.size) (fa aX))=IJ N o (tG ops.toList tr aX i).heap.length r (part N ops.toList tr aX (fun i=>L.getD i false) (List.range ops.size) (fa aX)):=by
      conv=>lhs;unfold mQ
      rw [hol,htr]
    rw [e2];exact hR'
theorem NW (h:Good P X ops aX tr el) {L:Array Bool} {a:Act} {w:World} (hI:Q6 au W df ops tr aX L a w) (hr:Region.ready .any ops L= []): ∀i,i<ops.size->L.getD i false=true:=by
 obtain ⟨hL,hdc,ρ,hR⟩:=hI
 intro i
 induction i using Nat.strongRecOn with
 |_ i ih=>
  intro hi
  cases hLi:L.getD i false with
  |true=>rfl
  |false=>
   exfalso
   obtain ⟨o,r,ho,hol,_⟩:=h.at_ hi
   have:i∈Region.ready .any ops L:=by
    simp only [Region.ready,List.mem_filter,List.mem_range,Bool.and_eq_true,Bool.not_eq_true']
    refine ⟨hi,?_,?_⟩
    ·rw [Array.getD_eq_getD_getElem?,Array.getElem?_eq_getElem (by omega)] at hLi ⊢
     simpa using hLi
    ·rw [ho]
     simp only [Option.map_some,Option.getD_some]
     refine Array.all_eq_true_iff_forall_mem.2 fun e he=> ?_
     cases hb:Region.binds .any e with
     |false=>simp
     |true=>
      have hmem:e.on∈direct o:=List.mem_map.2 ⟨e,List.mem_filter.2 ⟨Array.mem_toList_iff.2 he,hb⟩,rfl⟩
      have hlt:=(h.one hi ho).1 _ hmem
      simp [ih e.on hlt (by omega)]
   rw [hr] at this;cases this
theorem Pr (hm:P.follows .mixedOrders=true) (hX:rD au W X) (h:Good P X ops aX tr el) (ro:Option Nat) (n id:Nat) {Q:Exit->Act->World->Prop} {ρ:Env} {a:Act} {w:World} (aO:kJ au W df aX ρ a w)
  (hQ: ∀ρ' a' w',kJ au W df (tG ops.toList tr aX ops.size) ρ' a' w'->Q .normal a' w'):(Code.region id ops true).wpIn (fw ro) n P Q a w:=by
 refine wpIn_region_any hm ?_
 let N:=aX.tmps.length
 let Inv:=Q6 au W df ops tr aX
 have hsz:ops.toList.length=ops.size:=by simp
 have hstep: ∀L a w i,Inv L a w->i∈Region.ready .any ops L->wpOpIn (fw ro) n P ops Q i (fun a' w'=>Inv (L.setIfInBounds i true) a' w') a w/\ i<ops.size/\ L[i]? =some false:=fun L a w i hI hi=>
  ⟨(qM hX h ro n Q L a w i hI hi).1,(qM hX h ro n Q L a w i hI hi).2.1,(qM hX h ro n Q L a w i hI hi).2.2.1⟩
 have hend: ∀L a w,Inv L a w->Region.ready .any ops L= []->Q .normal a w:=by
  intro L a w hI hr
  have hall:=NW h hI hr
  obtain ⟨hL,hdc,ρ,hR⟩:=hI
  have e:part N ops.toList tr aX (fun i=>L.getD i false) (List.range ops.size) (fa aX)=fa (tG ops.toList tr aX ops.size):=by
   rw [<- h.text ops.size (Nat.le_refl _)]
   refine FS.ext' (fun t=>Gi _ _ _ rfl fun i hi _=>by rw [hall i (List.mem_range.1 hi)]) (fun m=>MB _ _ _ rfl fun i hi _=>by rw [hall i (List.mem_range.1 hi)]) (fun m=> ?_)
   rw [z6 _ _ (fun j hj=>by rw [hsz];exact List.mem_range.1 hj),z6 _ _ (fun j hj=>by rw [hsz];exact List.mem_range.1 hj)]
   constructor
   ·rintro (h1|⟨i,hi,_,hc⟩)
    ·exact .inl h1
    ·exact .inr ⟨i,hi,rfl,hc⟩
   ·rintro (h1|⟨i,hi,_,hc⟩)
    ·exact .inl h1
    ·exact .inr ⟨i,hi,hall i (List.mem_range.1 hi),hc⟩
  rw [e] at hR
  exact hQ ρ a w (aeZ hR (h.ah8 ops.size (Nat.le_refl _)))
 have main: ∀fuel L a w,L.toList.countP (!·)<=fuel->Inv L a w->wpAnyIn (fw ro) n P .any ops Q fuel L a w:=by
  intro fuel
  induction fuel with
  |zero=>
   intro L a w hc hI
   have hr:Region.ready .any ops L= []:=by
    rcases hq:Region.ready .any ops L with _|⟨i,r⟩
    ·rfl
    ·exfalso
     obtain ⟨_,_,hf⟩:=hstep L a w i hI (by rw [hq];simp)
     have:=count_set L.toList i (by simpa using hf)
     omega
   exact ⟨hr,hend L a w hI hr⟩
  |succ fuel ih=>
   intro L a w hc hI
   refine ⟨hend L a w hI,fun i hi=> ?_⟩
   obtain ⟨h1,_,hf⟩:=hstep L a w i hI hi
   refine wpOpIn_mono (fun a' w' hI'=>ih _ a' w' ?_ hI') h1
   have:=count_set L.toList i (by simpa using hf)
   rw [Array.toList_setIfInBounds];omega
 refine main _ _ _ _ (by have:=List.countP_le_length (p:=(!·)) (l:=(Array.replicate ops.size false).toList);simpa using this) ⟨by simp,fun i o hi=> ?_,ρ,?_⟩
 ·rw [Array.getD_eq_getD_getElem?,Array.getElem?_replicate] at hi
  split at hi<;>simp at hi
 ·have e:part N ops.toList tr aX (fun i=>(Array.replicate ops.size false).getD i false) (List.range ops.size) (fa aX)=fa aX:=by
   have:(fun i=>(Array.replicate ops.size false).getD i false)=fun _=>false:=by
    funext i;rw [Array.getD_eq_getD_getElem?,Array.getElem?_replicate];split<;>rfl
   rw [this]
   generalize List.range ops.size=is
   induction is with
   |nil=>rfl
   |cons j r ih=>exact ih
  rw [e]
  exact Uz (aO.drawn _ (by first|exact Nat.le_succ _|exact Nat.le_add_right _ _|omega))
theorem TE (hT:cP P ctx.tt) (hS:ah P ctx.specs) (hm:P.follows .mixedOrders=true) (hX:rD au W ctx.X) (ro:Option Nat) (n id:Nat) (ops:Array Oper) (st:AS) (K:AS->Prop) (h:iV ctx ops true st K):
  ∀ρ a w,kJ au W df st ρ a w->(Code.region id ops true).wpIn (fw ro) n P (fun e a w=> ∃st ρ,(e= .normal/\ K st)/\ kJ au W df st ρ a w) a w:=by
 intro ρ a w aO
 have h:mL {ctx with ys:= [],its:= []} ops ops.toList [] st [] fun st' lg=>if sy ops lg then K st' else if sy ops (adp st.heap lg) then K st' else False:=h
 obtain ⟨tr,h1,h2,h3⟩:=sx (ctx:= {ctx with ys:= [],its:= []}) hT ⟨hS,rfl,rfl⟩ ops _ _ _ _ _ h
 simp only [List.nil_append] at h3
 have fin: ∀el,Good P ctx.X ops st tr el->K (m7 ops.toList st tr)->(Code.region id ops true).wpIn (fw ro) n P (fun e a w=> ∃st ρ,(e= .normal/\ K st)/\ kJ au W df st ρ a w) a w:=fun el hg h3=>by
  refine Pr hm hX hg ro n id aO fun ρ' a' w' cW=> ?_
  have e:tG ops.toList tr st ops.size=m7 ops.toList st tr:=by
   unfold tG
   rw [List.take_of_length_le (by simp),List.take_of_length_le (by rw [h1];simp)]
  rw [e] at cW
  exact ⟨_,ρ',⟨rfl,h3⟩,cW⟩
 split at h3
 ·rename_i x9
  exact fin _ ⟨by simpa using h1,h2,yj x9,.inl rfl⟩ h3
 ·split at h3
  ·rename_i x9
   exact fin _ ⟨by simpa using h1,h2,yj x9,.inr rfl⟩ h3
  ·exact h3.elim
end
end Go.Ev
