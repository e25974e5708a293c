/- A region that draws its order: whatever order the edges allow comes to what the text's order comes to. -/
import Derived.Test.YtngdehlpoomaiaaGreatEvF
noncomputable section
set_option linter.unusedSectionVars false
set_option linter.unusedVariables false
set_option linter.unusedSimpArgs false
namespace Go.Ev
open Go.RowKit
def lE (all:Array Oper) (o:Oper) (st:AS) (b:Bool):Prop:=match o.guard with
 |none=>b=true
 |some (j,want)=> ∃d,B9 all j=some d/\ ((∃x,cz st.tmps d=bG x/\ (x==want)=b)\/ (cz st.tmps d= .nC []/\ b=false))
def mE (o:Oper) (st:AS):Option Rec->AS
 |some r=>st.app o.dst r
 |none=> {st with tmps:=jf st.tmps o.dst ck}
def Fy (o:Oper) (st:AS):Option Rec->fR
 |some r=>Jj o.op (dw st.tmps) st.heap.length r
 |none=>lN st.heap.length
def pY:List Oper->AS->List (Option Rec)->AS
 |o::l,st,r::tr=>pY l (mE o st r) tr
 |_,st,_=>st
def mm:List Oper->AS->List (Option Rec)->List fR
 |o::l,st,r::tr=>Fy o st r::mm l (mE o st r) tr
 |_,_,_=> []
section
variable {P:Program} {ctx:Ctx}
def Sy (P:Program) (X:Addr->Value->Prop) (all:Array Oper) (o:Oper) (st:AS):Option Rec->Prop
 | some r=>lE all o st true/\ (∀x∈o.op.operands,dw st.tmps x≠ .dead)/\ bO P X o (dw st.tmps) (ai st.heap) st.heap.length r/\
   ∀n q,dY o.op (dw st.tmps) r.val=some (n,q)-> ∀Γ:HP,q.hit (Γ n)=true->bO P X o (dw st.tmps) Γ st.heap.length r
 |none=>lE all o st false
def A5 (P:Program) (X:Addr->Value->Prop) (all:Array Oper):List Oper->AS->List (Option Rec)->Prop
 |o::l,st,r::tr=>Sy P X all o st r/\ A5 P X all l (mE o st r) tr
 |_,_,_=>True
theorem Z7 {o:Oper} {ev:Operand->AV} {hp:HP} {nm:Nat} {k:Rec->Prop} (hT:aK P ctx.tt) (hS:KL P ctx) (h:DO ctx o.op ev hp nm k):
  ∃r,bO P ctx.X o ev hp nm r/\ k r/\ ∀n q,dY o.op ev r.val=some (n,q)-> ∀Γ:HP,q.hit (Γ n)=true->bO P ctx.X o ev Γ nm r:=by
 have plain:(∀v,dY o.op ev v=none)-> ∃r,bO P ctx.X o ev hp nm r/\ k r/\ ∀n q,dY o.op ev r.val=some (n,q)-> ∀Γ:HP,q.hit (Γ n)=true->bO P ctx.X o ev Γ nm r:=fun hn=>by
  obtain ⟨r,h1,h2⟩:=DP hT hS h
  exact ⟨r,h1,h2,fun n q hq=>by rw [hn] at hq;cases hq⟩
 have at_: ∀(r:Rec) (Γ:HP),DO ctx o.op ev Γ nm (fun r'=>r'=r)->bO P ctx.X o ev Γ nm r:=fun r Γ h=>by
  obtain ⟨r',h1,rfl⟩:=DP hT hS h
  exact h1
 have K2: ∀ {q:Eb} {x:Option aF},q.hit x=true-> ∃cs e,x=some (.cells cs e)/\ ∀off m,q= .full off m->cs[off]? =some (.full m):=fun {q x} hq=>by
  unfold Eb.hit at hq
  split at hq
  ·exact ⟨_,_,rfl,fun _ _ e=>by cases e⟩
  ·split at hq
   ·rename_i hc
    refine ⟨_,_,rfl,fun off m e=> ?_⟩
    cases e
    rw [hc,Nat.eq_of_beq_eq_true hq]
   ·cases hq
  ·cases hq
 suffices H: ∀op,o.op=op-> ∃r,bO P ctx.X o ev hp nm r/\ k r/\ ∀n q,dY o.op ev r.val=some (n,q)-> ∀Γ:HP,q.hit (Γ n)=true->bO P ctx.X o ev Γ nm r from H _ rfl
 intro op hop
 cases op with
 |load t x=>
  cases mR:ev x with
  |v a=>cases a with
   |one c=>cases c with
    |ptr n off=>
     rw [hop] at h
     simp only [DO,mR] at h
     split at h
     rotate_left
     ·exact h.elim
     rename_i i hi
     simp only [pG] at h
     split at h
     rotate_left
     ·exact h.elim
     rename_i cs e hn
     unfold zA at h
     split at h
     ·rename_i ha
      split at h
      ·rename_i hl
       refine ⟨_,at_ _ hp ?_,h,fun n' q hq=> ?_⟩
       ·rw [hop];simp only [DO,mR,hi,Bool.false_eq_true,if_false,pG,hn,zA,ha,if_true,hl]
       ·simp only [hop,dY,mR] at hq;cases hq
      ·exact h.elim
     ·rename_i ha
      split at h
      rotate_left
      ·exact h.elim
      rename_i c hc
      refine ⟨_,at_ _ hp ?_,h,fun n' q hq Γ hh=> ?_⟩
      ·rw [hop];simp only [DO,mR,hi,Bool.false_eq_true,if_false,pG,hn,zA,ha,hc]
      ·simp only [hop,dY,mR] at hq
       split at hq
       ·rename_i he1 IS
        cases he1
        cases IS
        cases hq
        obtain ⟨cs',e',g1,g2⟩:=K2 hh
        refine at_ _ Γ ?_
        rw [hop];simp only [DO,mR,hi,Bool.false_eq_true,if_false,pG,g1,zA,ha,g2 _ _ rfl]
       ·cases hq
    |_=>exact plain fun v=>by simp only [hop,dY,mR]
   |agg cs=>exact plain fun v=>by simp only [hop,dY,mR]
  |_=>exact plain fun v=>by simp only [hop,dY,mR]
 |fieldAddr t x f=>
  cases mR:ev x with
  |v a=>cases a with
   |one c=>cases c with
    |ptr n off=>
     rw [hop] at h
     simp only [DO,mR] at h
     split at h
     rotate_left
     ·exact h.elim
     rename_i i hi
     unfold ld at h
     split at h
     rotate_left
     ·exact h.elim
     rename_i fs hf
     split at h
     rotate_left
     ·exact h.elim
     rename_i fd hfd
     split at h
     rotate_left
     ·exact h.elim
     rename_i fi Lq
     split at h
     ·exact h.elim
     rename_i hz
     simp only [dN] at h
     split at h
     rotate_left
     ·exact h.elim
     rename_i cs e hn
     refine ⟨_,at_ _ hp ?_,h,fun n' q hq Γ hh=> ?_⟩
     ·rw [hop];simp only [DO,mR,hi,ld,hf,hfd,Lq,hz,if_false,dN,hn]
     ·simp only [hop,dY,mR,Option.some.injEq,Prod.mk.injEq] at hq
      obtain ⟨rfl,rfl⟩:=hq
      obtain ⟨cs',e',g1,_⟩:=K2 hh
      refine at_ _ Γ ?_
      rw [hop];simp only [DO,mR,hi,ld,hf,hfd,Lq,hz,if_false,dN,g1]
    |_=>exact plain fun v=>by simp only [hop,dY,mR]
   |agg cs=>exact plain fun v=>by simp only [hop,dY,mR]
  |_=>exact plain fun v=>by simp only [hop,dY,mR]
 |nilCheck x=>
  cases mR:ev x with
  |v a=>cases a with
   |one c=>cases c with
    |ptr n off=>
     rw [hop] at h
     simp only [DO,mR,dN] at h
     split at h
     rotate_left
     ·exact h.elim
     rename_i cs e hn
     refine ⟨_,at_ _ hp ?_,h,fun n' q hq Γ hh=> ?_⟩
     ·rw [hop];simp only [DO,mR,dN,hn]
     ·simp only [hop,dY,mR,Option.some.injEq,Prod.mk.injEq] at hq
      obtain ⟨rfl,rfl⟩:=hq
      obtain ⟨cs',e',g1,_⟩:=K2 hh
      refine at_ _ Γ ?_
      rw [hop];simp only [DO,mR,dN,g1]
    |_=>exact plain fun v=>by simp only [hop,dY,mR]
   |agg cs=>exact plain fun v=>by simp only [hop,dY,mR]
  |_=>exact plain fun v=>by simp only [hop,dY,mR]
 |_=>exact plain fun v=>by simp only [hop,dY]
theorem x5 (hT:aK P ctx.tt) (hS:KL P ctx) (all:Array Oper): ∀(l:List Oper) (dec:List Nat) (st:AS) (lg:List fR) (K:AS->List fR->Prop),nj ctx all l dec st lg K->
  ∃tr:List (Option Rec),tr.length=l.length/\ A5 P ctx.X all l st tr/\ K (pY l st tr) (lg++mm l st tr)
 | [],dec,st,lg,K,h=>⟨[],rfl,trivial,by have h:K st lg:=h;simpa [pY,mm] using h⟩
 |o::rest,dec,st,lg,K,h=>by
  have exec: ∀EF,lE all o st true->pO ctx o.op st (fun r=>nj ctx all rest EF (st.app o.dst r) (lg++ [Jj o.op (dw st.tmps) st.heap.length r]) K)->
    ∃tr:List (Option Rec),tr.length=(o::rest).length/\ A5 P ctx.X all (o::rest) st tr/\ K (pY (o::rest) st tr) (lg++mm (o::rest) st tr):=by
   intro EF hg h
   obtain ⟨ie,h⟩:=yu h
   obtain ⟨r,hl,hk,hlk⟩:=Z7 hT hS h
   obtain ⟨tr,h1,h2,h3⟩:=x5 hT hS all rest EF _ _ K hk
   exact ⟨some r::tr,by simp [h1],⟨⟨hg,ie,hl,hlk⟩,h2⟩,by simpa [pY,mm,mE,Fy] using h3⟩
  have skip: ∀EF,lE all o st false->nj ctx all rest EF {st with tmps:=jf st.tmps o.dst ck} (lg++ [lN st.heap.length]) K->
    ∃tr:List (Option Rec),tr.length=(o::rest).length/\ A5 P ctx.X all (o::rest) st tr/\ K (pY (o::rest) st tr) (lg++mm (o::rest) st tr):=by
   intro EF hg h
   obtain ⟨tr,h1,h2,h3⟩:=x5 hT hS all rest EF _ _ K h
   exact ⟨none::tr,by simp [h1],⟨hg,h2⟩,by simpa [pY,mm,mE,Fy] using h3⟩
  unfold nj at h
  split at h
  ·rename_i hg
   exact exec dec (by simp [lE,hg]) h
  ·rename_i j want hg
   split at h
   ·rename_i d hd
    split at h
    ·rename_i x hx
     have G: ∀b,(x==want)=b->lE all o st b:=fun b hb=>by simp only [lE,hg];exact ⟨d,hd,.inl ⟨x,hx,hb⟩⟩
     split at h
     ·split at h
      ·rename_i e;exact exec dec (G true (by simp [e])) h
      ·rename_i e;exact skip dec (G false (by simpa using e)) h
     ·cases want with
      |true=>
       dsimp only at h
       cases x with
       |true=>
        have h:pO ctx o.op {st with tmps:=st.tmps.set d (bG true)} _:=h
        rw [mC hx] at h
        exact exec _ (G true rfl) h
       |false=>
        have h:nj ctx all rest (d::dec) {st with tmps:=jf (st.tmps.set d (bG false)) o.dst ck} (lg++ [lN st.heap.length]) K:=h
        rw [mC hx] at h
        exact skip _ (G false rfl) h
      |false=>
       dsimp only at h
       cases x with
       |false=>
        have h:pO ctx o.op {st with tmps:=st.tmps.set d (bG false)} _:=h
        rw [mC hx] at h
        exact exec _ (G true rfl) h
       |true=>
        have h:nj ctx all rest (d::dec) {st with tmps:=jf (st.tmps.set d (bG true)) o.dst ck} (lg++ [lN st.heap.length]) K:=h
        rw [mC hx] at h
        exact skip _ (G false rfl) h
    ·rename_i hx
     exact skip dec (by simp only [lE,hg];exact ⟨d,hd,.inr ⟨hx,trivial⟩⟩) h
    ·exact h.elim
   ·exact h.elim
theorem PD {X:Addr->Value->Prop} {all:Array Oper} : ∀(l:List Oper) (st:AS) (tr:List (Option Rec)) (i:Nat) (o:Oper) (r:Option Rec),A5 P X all l st tr->l[i]? =some o->tr[i]? =some r->
  Sy P X all o (pY (l.take i) st (tr.take i)) r/\ pY (l.take (i+1)) st (tr.take (i+1))=mE o (pY (l.take i) st (tr.take i)) r/\
  (mm l st tr)[i]? =some (Fy o (pY (l.take i) st (tr.take i)) r)
 |o'::l,st,r'::tr,0,o,r,h,ho,hr=>by
  simp at ho hr;subst ho;subst hr
  exact ⟨by simpa [pY] using h.1,by simp [pY],by simp [mm,pY]⟩
 |o'::l,st,r'::tr,i+1,o,r,h,ho,hr=>by
  have:=PD l (mE o' st r') tr i o r h.2 (by simpa using ho) (by simpa using hr)
  simpa [pY,mm] using this
 | [],_,_,_,_,_,_,ho,_=>by simp at ho
 |_::_,_,[],_,_,_,_,_,hr=>by simp at hr
end
inductive Sx (ops:List Oper):Nat->Nat->Prop
 |edge {i j:Nat} {o:Oper} :ops[i]? =some o->j∈direct o->Sx ops i j
 |trans {i j k:Nat} {o:Oper} :ops[i]? =some o->k∈direct o->Sx ops k j->Sx ops i j
theorem Ng (acc:List Nat): ∀(ds:List Nat) (s j:Nat),(ds.foldl (fun s j=>s|||(2^j|||acc.getD j 0)) s).testBit j=true->s.testBit j=true\/ ∃k∈ds,j=k\/ (acc.getD k 0).testBit j=true
 | [],s,j,h=> .inl h
 |d::r,s,j,h=>by
  rcases Ng acc r _ j h with h1|⟨k,hk,h1⟩
  ·rw [Nat.testBit_or,Nat.testBit_or,Bool.or_eq_true,Bool.or_eq_true] at h1
   rcases h1 with h1|h1|h1
   ·exact .inl h1
   ·rw [Nat.testBit_two_pow] at h1
    exact .inr ⟨d,by simp,.inl (by simpa using (of_decide_eq_true h1).symm)⟩
   ·exact .inr ⟨d,by simp,.inr h1⟩
  ·exact .inr ⟨k,by simp [hk],h1⟩
theorem FC (ops:List Oper): ∀(l pre:List Oper) (acc:List Nat),ops=pre++l->acc.length=pre.length->(∀i j,(acc.getD i 0).testBit j=true->Sx ops i j)->
  ∀i j,((masks l acc).getD i 0).testBit j=true->Sx ops i j
 | [],pre,acc,_,_,h,i,j,hb=>h i j hb
 |o::l,pre,acc,he,hl,h,i,j,hb=>by
  refine FC ops l (pre++ [o]) _ (by simp [he]) (by simp [hl]) (fun i j hb=> ?_) i j hb
  simp only [List.getD,List.getElem?_append] at hb
  split at hb
  ·exact h i j hb
  ·rename_i hi
   by_cases e:i=pre.length
   ·subst e
    rw [hl,Nat.sub_self] at hb
    simp only [List.getElem?_cons_zero,Option.getD_some] at hb
    have ho:ops[pre.length]? =some o:=by rw [he];simp
    rcases Ng acc _ _ _ hb with h1|⟨k,hk,h1⟩
    ·simp at h1
    ·rcases h1 with rfl|h1
     ·exact .edge ho hk
     ·exact .trans ho hk (h k j h1)
   ·rw [List.getElem?_eq_none (by simp;omega)] at hb
    simp at hb
structure FS where
 T:Nat->AV
 G:HP
 Kn:Nat->Prop
theorem FS.ext' {a b:FS} (h1: ∀t,a.T t=b.T t) (h2: ∀m,a.G m=b.G m) (h3: ∀m,a.Kn m↔b.Kn m):a=b:=by
 obtain ⟨T,G,K⟩:=a
 obtain ⟨T',G',K'⟩:=b
 have e1:T=T':=funext h1
 have e2:G=G':=funext h2
 have e3:K=K':=funext fun m=>propext (h3 m)
 rw [e1,e2,e3]
def kj (st:AS):FS:=⟨cz st.tmps,ai st.heap,(· <st.heap.length)⟩
def H6 (N:Nat) (o:Oper) (nm:Nat):Option Rec->FS->FS
 |some r,s=>⟨fun t=>if o.dst=some t/\ t<N then r.val else s.T t,bU r nm s.G,mH s.Kn nm r⟩
 |none,s=>⟨fun t=>if o.dst=some t/\ t<N then ck else s.T t,s.G,s.Kn⟩
theorem ZA (d t N:Nat) (v w:AV):(if d=t/\ t<N then v else w)=if t=d/\ d<N then v else w:=by
 by_cases e:d=t
 ·subst e;simp
 ·rw [if_neg (fun h=>e h.1),if_neg (fun h=>e h.1.symm)]
theorem Z8 {N:Nat} {o:Oper} {st:AS} (hN:st.tmps.length=N): ∀(r:Option Rec),(∀q,r=some q-> ∀p∈q.writes,ai st.heap p.1≠none)->H6 N o st.heap.length r (kj st)=kj (mE o st r)
 |some r,h=>by
  refine FS.ext' (fun t=> ?_) (fun m=> ?_) (fun m=> ?_)
  ·simp only [H6,kj,mE,AS.app,jP]
   cases o.dst with
   |none=>simp
   |some d=>simp only [Option.some.injEq,hN];exact ZA d t N _ _
  ·simp only [H6,kj,mE];rw [MG st o.dst r (h r rfl)]
  ·simp only [H6,kj,mE,mH,mI];omega
 |none,h=>by
  refine FS.ext' (fun t=> ?_) (fun m=>rfl) (fun m=>Iff.rfl)
  simp only [H6,kj,mE,jP]
  cases o.dst with
  |none=>simp
  |some d=>simp only [Option.some.injEq,hN];exact ZA d t N _ _
def covers (nm:Nat) (r:Option Rec) (m:Nat):Prop:=match r with
 |some r=>nm<=m/\ m<nm+r.fresh.length
 |none=>False
def s9:Option Rec->List Nat
 |some r=>r.writes.map (·.1)
 |none=> []
def DY:Option Rec->List Nat
 |some r=>r.aD
 |none=> []
theorem Rk {ws:List (Nat×aF)} {m:Nat} (h:m∉ws.map (·.1)):bZ ws m=none:=by
 induction ws with
 |nil=>rfl
 |cons p r ih=>
  simp only [List.map_cons,List.mem_cons,not_or] at h
  simp only [bZ,ih h.2]
  rw [if_neg (fun e=>h.1 e.symm)]
theorem ajf {N nm:Nat} {o:Oper} {r:Option Rec} {s s':FS} {m:Nat} (h:s.G m=s'.G m):(H6 N o nm r s).G m=(H6 N o nm r s').G m:=by
 cases r with
 |none=>exact h
 |some r=>simp only [H6,bU,h]
theorem Wm {N nm:Nat} {o:Oper} {r:Option Rec} {s:FS} {m:Nat} (h1: ¬covers nm r m) (h2:m∉s9 r):(H6 N o nm r s).G m=s.G m:=by
 cases r with
 |none=>rfl
 |some r=>
  have h1: ¬(nm<=m/\ m<nm+r.fresh.length):=h1
  have h2:m∉r.writes.map (·.1):=h2
  simp only [H6,bU];rw [if_neg h1,Rk h2]
section
variable (N:Nat) (ops:List Oper) (tr:List (Option Rec)) (bF:AS)
def A1 (i:Nat):AS:=pY (ops.take i) bF (tr.take i)
def gg (i:Nat) (s:FS):FS:=match ops[i]?,tr[i]? with
 |some o,some r=>H6 N o (A1 ops tr bF i).heap.length r s
 |_,_=>s
def part (L:Nat->Bool) (is:List Nat) (s:FS):FS:=is.foldl (fun s i=>if L i then gg N ops tr bF i s else s) s
def HK (i:Nat):Option Nat:=(ops[i]?).bind (·.dst)
def eH (i:Nat):Option Rec:=(tr[i]?).join
def Bz (i:Nat):Nat:=(A1 ops tr bF i).heap.length
end
section
variable {N:Nat} {ops:List Oper} {tr:List (Option Rec)} {bF:AS}
theorem aaP {i t:Nat} {s s':FS} (h:s.T t=s'.T t):(gg N ops tr bF i s).T t=(gg N ops tr bF i s').T t:=by
 unfold gg;split
 ·rename_i o r _ _
  cases r<;>simp only [H6,h]
 ·exact h
theorem q6 {i t:Nat} {s:FS} (h:HK ops i≠some t):(gg N ops tr bF i s).T t=s.T t:=by
 unfold gg;split
 ·rename_i o r ho _
  have:o.dst≠some t:=by simpa [HK,ho] using h
  cases r<;>simp only [H6]<;>rw [if_neg (fun e=>this e.1)]
 ·rfl
theorem aaO {i m:Nat} {s s':FS} (h:s.G m=s'.G m):(gg N ops tr bF i s).G m=(gg N ops tr bF i s').G m:=by
 unfold gg;split
 ·exact ajf h
 ·exact h
theorem qZ {i m:Nat} {s:FS} (h1: ¬covers (Bz ops tr bF i) (eH tr i) m) (h2:m∉s9 (eH tr i)):(gg N ops tr bF i s).G m=s.G m:=by
 unfold gg;split
 ·rename_i o r _ hr
  have e:eH tr i=r:=by simp [eH,hr]
  rw [e] at h1 h2
  exact Wm h1 h2
 ·rfl
theorem GR {i m:Nat} {s:FS} (hi:i<ops.length):(gg N ops tr bF i s).Kn m↔s.Kn m\/ covers (Bz ops tr bF i) (eH tr i) m:=by
 unfold gg;split
 ·rename_i o r _ hr
  have e:eH tr i=r:=by simp [eH,hr]
  rw [e]
  cases r with
  |none=>simp [H6,covers]
  |some r=>exact Iff.rfl
 ·rename_i hh
  have:tr[i]? =none:=by
   cases hr:tr[i]? with
   |none=>rfl
   |some r=>exact (hh _ r (List.getElem?_eq_getElem hi) hr).elim
  simp [eH,this,covers]
theorem RE {L L':Nat->Bool} {t:Nat} : ∀(is:List Nat) (s s':FS),s.T t=s'.T t->(∀i∈is,HK ops i=some t->L i=L' i)->(part N ops tr bF L is s).T t=(part N ops tr bF L' is s').T t
 | [],s,s',h,_=>h
 |i::r,s,s',h,hl=>by
  refine RE r _ _ ?_ (fun j hj=>hl j (by simp [hj]))
  by_cases e:HK ops i=some t
  ·dsimp only
   rw [hl i (by simp) e]
   split
   ·exact aaP h
   ·exact h
  ·have h1: ∀(b:Bool) (s:FS),(if b then gg N ops tr bF i s else s).T t=s.T t:=fun b s=>by
    cases b
    ·rfl
    ·exact q6 e
   rw [h1,h1];exact h
theorem RD {L L':Nat->Bool} {m:Nat} : ∀(is:List Nat) (s s':FS),s.G m=s'.G m->(∀i∈is,(covers (Bz ops tr bF i) (eH tr i) m\/ m∈s9 (eH tr i))->L i=L' i)->(part N ops tr bF L is s).G m=(part N ops tr bF L' is s').G m
 | [],s,s',h,_=>h
 |i::r,s,s',h,hl=>by
  refine RD r _ _ ?_ (fun j hj=>hl j (by simp [hj]))
  by_cases e:covers (Bz ops tr bF i) (eH tr i) m\/ m∈s9 (eH tr i)
  ·dsimp only
   rw [hl i (by simp) e]
   split
   ·exact aaO h
   ·exact h
  ·have h1: ∀(b:Bool) (s:FS),(if b then gg N ops tr bF i s else s).G m=s.G m:=fun b s=>by
    cases b
    ·rfl
    ·exact qZ (fun c=>e (.inl c)) (fun c=>e (.inr c))
   rw [h1,h1];exact h
theorem DQ {L:Nat->Bool} {m:Nat} : ∀(is:List Nat) (s:FS),(∀i∈is,i<ops.length)->((part N ops tr bF L is s).Kn m↔s.Kn m\/ ∃i∈is,L i=true/\ covers (Bz ops tr bF i) (eH tr i) m)
 | [],s,_=>by simp [part]
 |i::r,s,hi=>by
  show (part N ops tr bF L r _).Kn m↔_
  rw [DQ r _ (fun j hj=>hi j (by simp [hj]))]
  dsimp only
  by_cases e:L i=true
  ·rw [if_pos e,GR (hi i (by simp))]
   constructor
   ·rintro ((h|h)|⟨j,hj,h⟩)
    ·exact .inl h
    ·exact .inr ⟨i,by simp,e,h⟩
    ·exact .inr ⟨j,by simp [hj],h⟩
   ·rintro (h|⟨j,hj,h⟩)
    ·exact .inl (.inl h)
    ·rcases List.mem_cons.1 hj with rfl|hj
     ·exact .inl (.inr h.2)
     ·exact .inr ⟨j,hj,h⟩
  ·rw [if_neg e]
   constructor
   ·rintro (h|⟨j,hj,h⟩)
    ·exact .inl h
    ·exact .inr ⟨j,by simp [hj],h⟩
   ·rintro (h|⟨j,hj,h⟩)
    ·exact .inl h
    ·rcases List.mem_cons.1 hj with rfl|hj
     ·exact absurd h.1 e
     ·exact .inr ⟨j,hj,h⟩
structure Xo (ops:List Oper) (tr:List (Option Rec)) (bF:AS) (i j:Nat):Prop where
 dst: ∀d,HK ops i=some d->HK ops j≠some d
 wr: ∀m,m∈s9 (eH tr i)->m∉s9 (eH tr j)
 fr: ∀m,covers (Bz ops tr bF i) (eH tr i) m-> ¬covers (Bz ops tr bF j) (eH tr j) m
 wf: ∀m,m∈s9 (eH tr i)-> ¬covers (Bz ops tr bF j) (eH tr j) m
 fw: ∀m,m∈s9 (eH tr j)-> ¬covers (Bz ops tr bF i) (eH tr i) m
theorem aaQ {i j:Nat} (h:Xo ops tr bF i j) (hi:i<ops.length) (hj:j<ops.length) (s:FS):gg N ops tr bF j (gg N ops tr bF i s)=gg N ops tr bF i (gg N ops tr bF j s):=by
 refine FS.ext' (fun t=> ?_) (fun m=> ?_) (fun m=> ?_)
 ·by_cases e:HK ops i=some t
  ·rw [q6 (h.dst t e)]
   exact aaP (q6 (h.dst t e)).symm
  ·rw [q6 (i:=i) e]
   exact aaP (q6 e)
 ·by_cases e:covers (Bz ops tr bF i) (eH tr i) m∨m∈s9 (eH tr i)
  ·have e2: ¬covers (Bz ops tr bF j) (eH tr j) m:=e.elim (h.fr m) (h.wf m)
   have e3:m∉s9 (eH tr j):=fun hm=>e.elim (h.fw m hm) (fun hi=>h.wr m hi hm)
   rw [qZ e2 e3]
   exact aaO (qZ e2 e3).symm
  ·have e2: ¬covers (Bz ops tr bF i) (eH tr i) m:=fun c=>e (.inl c)
   have e3:m∉s9 (eH tr i):=fun c=>e (.inr c)
   rw [qZ (i:=i) e2 e3]
   exact aaO (qZ e2 e3)
 ·rw [GR hj,GR hi,GR hi,GR hj]
  constructor
  ·rintro ((h|h)|h)
   ·exact .inl (.inl h)
   ·exact .inr h
   ·exact .inl (.inr h)
  ·rintro ((h|h)|h)
   ·exact .inl (.inl h)
   ·exact .inr h
   ·exact .inl (.inr h)
theorem Jz {L:Nat->Bool} {i:Nat} (hi:i<ops.length): ∀(is:List Nat) (s:FS),(∀j∈is,j<ops.length)->(∀j∈is,L j=true->Xo ops tr bF i j)->part N ops tr bF L is (gg N ops tr bF i s)=gg N ops tr bF i (part N ops tr bF L is s)
 | [],s,_,_=>rfl
 |j::r,s,hlt,h=>by
  show part N ops tr bF L r _=gg N ops tr bF i (part N ops tr bF L r _)
  rw [<- Jz hi r _ (fun k hk=>hlt k (by simp [hk])) (fun k hk=>h k (by simp [hk]))]
  congr 1
  dsimp only
  by_cases e:L j=true
  ·rw [if_pos e,if_pos e,aaQ (h j (by simp) e) hi (hlt j (by simp))]
  ·rw [if_neg e,if_neg e]
theorem aad {L:Nat->Bool} {n i:Nat} (hn:n<=ops.length) (hi:i<n) (hL:L i=false) (h: ∀j,j<n->i<j->L j=true->Xo ops tr bF i j) (s:FS):
  part N ops tr bF (fun j=>L j||j==i) (List.range n) s=gg N ops tr bF i (part N ops tr bF L (List.range n) s):=by
 have e:List.range n=List.range i++i::List.range' (i+1) (n- (i+1)):=by
  have e1:=List.range'_append_1 (s:=0) (m:=i) (n:=n- (i+1)+1)
  rw [List.range_eq_range',List.range_eq_range',<- List.range'_succ]
  rw [Nat.zero_add] at e1
  rw [e1];congr 1;omega
 have ail: ∀(L:Nat->Bool) (s:FS),part N ops tr bF L (List.range n) s=part N ops tr bF L (List.range' (i+1) (n- (i+1))) (if L i then gg N ops tr bF i (part N ops tr bF L (List.range i) s) else part N ops tr bF L (List.range i) s):=by
  intro L s;rw [e];simp [part,List.foldl_append]
 rw [ail,ail]
 have hsame: ∀(is:List Nat) (s:FS),(∀j∈is,j≠i)->part N ops tr bF (fun j=>L j||j==i) is s=part N ops tr bF L is s:=by
  intro is
  induction is with
  |nil=>intro s _;rfl
  |cons j r ih=>
   intro s hj
   show part N ops tr bF _ r _=part N ops tr bF L r _
   have:(j==i)=false:=by simpa using hj j (by simp)
   simp only [this,Bool.or_false]
   exact ih _ (fun k hk=>hj k (by simp [hk]))
 rw [hsame _ _ (fun j hj=>by have:=List.mem_range'_1.1 hj;omega),hsame _ _ (fun j hj=>by have:=List.mem_range.1 hj;omega)]
 simp only [hL,Bool.false_or,beq_self_eq_true,if_true,Bool.false_eq_true,if_false]
 exact Jz (by omega) _ _ (fun j hj=>by have:=List.mem_range'_1.1 hj;omega) (fun j hj hl=>by have:=List.mem_range'_1.1 hj;exact h j (by omega) (by omega) hl)
end
section
variable {P:Program} {ctx:Ctx} {aq:e8} {W:World} {df:List Deferred}
theorem Sx.closed {ops:List Oper} {L:Nat->Prop} (hL: ∀i o,L i->ops[i]? =some o-> ∀j∈direct o,L j) {i j:Nat} (h:Sx ops i j):L i->L j:=by
 induction h with
 |edge ho hj=>intro h;exact hL _ _ h ho _ hj
 |trans ho hk _ ih=>intro h;exact ih (hL _ _ h ho _ hk)
theorem Sx.Wj {ops:List Oper} {L:Nat->Prop} (hL: ∀i o,L i->ops[i]? =some o-> ∀j∈direct o,L j) {i j:Nat} {o:Oper} (ho:ops[i]? =some o) (hd: ∀j∈direct o,L j) (h:Sx ops i j):L j:=by
 cases h with
 |edge AZ hj=>rw [ho] at AZ;cases AZ;exact hd _ hj
 |trans AZ hk h'=>rw [ho] at AZ;cases AZ;exact h'.closed hL (hd _ hk)
theorem WU (o:Oper) (st:AS) (r:Option Rec):(mE o st r).tmps.length=st.tmps.length:=by
 cases r<;>simp [mE,AS.app,ql]
theorem R8 (o:Oper) (st:AS) (r:Option Rec):(mE o st r).heap.length=st.heap.length+(match r with|some r=>r.fresh.length|none=>0):=by
 cases r<;>simp [mE,AS.app,dG]
theorem FD {x:Nat} : ∀ {l:List Nat},xZ x l=true↔x∈l
 | []=>by simp [xZ]
 |y::r=>by simp [xZ,FD (l:=r),Nat.beq_eq]
theorem LR {x:Nat} {l:List Nat} :xZ x l=l.contains x:=by
 rw [Bool.eq_iff_iff,FD];simp
theorem Up: ∀ {a b:List Nat},ad1 a b=a.all fun m=>b.contains m
 | [],_=>rfl
 |x::r,b=>by simp only [ad1,List.all_cons,Up (a:=r),LR]
theorem SP: ∀ {a b:List Nat},oL a b=IB a b
 | [],_=>rfl
 |x::r,b=>by
  have:=SP (a:=r) (b:=b)
  unfold IB at this ⊢
  simp only [oL,List.all_cons,this,LR]
theorem Jm: ∀(l:List Oper) (k:Nat) (acc:List Nat),acc.length=k->(LP l k acc).reverse=masks l acc.reverse
 | [],k,acc,_=>rfl
 |o::l,k,acc,h=>by
  have h1:=Jm l (k+1) ((direct o).foldl (fun s j=>s|||(2^j|||(bif Nat.blt j k then acc.getD (k- 1- j) 0 else 0))) 0::acc) (by simp [h])
  have e:(fun (s j:Nat)=>s|||(2^j|||(bif Nat.blt j k then acc.getD (k- 1- j) 0 else 0)))=fun s j=>s|||(2^j|||acc.reverse.getD j 0):=by
   funext s j
   rcases Nat.lt_or_ge j k with hj|hj
   ·have hb:Nat.blt j k=true:=by simpa [Nat.blt_eq] using hj
    rw [hb,cond_true,List.getD_eq_getElem?_getD,List.getD_eq_getElem?_getD,List.getElem?_reverse (by omega),h]
   ·have hb:Nat.blt j k=false:=by
     rw [Bool.eq_false_iff];simp only [ne_eq,Nat.blt_eq];omega
    rw [hb,cond_false,List.getD_eq_getElem?_getD,List.getElem?_eq_none (by simp;omega)]
    rfl
  rw [LP,h1,masks,List.reverse_cons,e]
theorem agE (ops:Array Oper):msF ops=masks ops.toList []:=Jm _ 0 [] rfl
theorem Jn: ∀(l:List Oper) (acc:List Nat),(masks l acc).length=acc.length+l.length
 | [],acc=>rfl
 |o::l,acc=>by rw [masks,Jn l];simp;omega
theorem LW {all:Array Oper} : ∀(l:List Oper) (ms:List Nat) (i:Nat) (o:Oper) (m:Nat),l[i]? =some o->ms[i]? =some m->(oiL all l ms)[i]? =some ⟨o.dst,kz all o,m⟩
 | [],_,i,o,m,h,_=>by simp at h
 |_::_,[],i,o,m,_,h=>by simp at h
 |p::l,q::ms,0,o,m,h,h'=>by
  simp only [List.getElem?_cons_zero,Option.some.injEq] at h h'
  subst h;subst h';rfl
 |p::l,q::ms,i+1,o,m,h,h'=>by
  simp only [List.getElem?_cons_succ] at h h'
  exact LW l ms i o m h h'
theorem AK {o:OI} : ∀(l:List OI) (j k:Nat),AJ o l j k=true-> ∀(t:Nat) (p:OI),t<k->l[t]? =some p->o.m.testBit (j+t)=true\/ Un o p=true
 | [],j,k,_,t,p,_,h=>by simp at h
 |q::l,j,0,_,t,p,ht,_=>by omega
 |q::l,j,k+1,h,t,p,ht,hp=>by
  simp only [AJ,Bool.and_eq_true,Bool.or_eq_true] at h
  match t,hp with
  |0,hp=>
   simp only [List.getElem?_cons_zero,Option.some.injEq] at hp
   subst hp
   exact h.1
  |t+1,hp=>
   have:=AK l (j+1) k h.2 t p (by omega) (by simpa using hp)
   rwa [show j+1+t=j+(t+1) by omega] at this
theorem AI {all:List OI} : ∀(l:List OI) (i:Nat),DU all l i=true-> ∀(t:Nat) (o:OI),l[t]? =some o->AJ o all 0 (i+t)=true
 | [],i,_,t,o,h=>by simp at h
 |q::l,i,h,t,o,ho=>by
  simp only [DU,Bool.and_eq_true] at h
  match t,ho with
  |0,ho=>
   simp only [List.getElem?_cons_zero,Option.some.injEq] at ho
   subst ho
   exact h.1
  |t+1,ho=>
   have:=AI l (i+1) h.2 t o (by simpa using ho)
   rwa [show i+1+t=i+(t+1) by omega] at this
theorem B8: ∀(l:List Oper) (i:Nat),La l i=true-> ∀(t:Nat) (o:Oper),l[t]? =some o-> ∀j∈direct o,j<i+t
 | [],i,_,t,o,h=>by simp at h
 |q::l,i,h,t,o,ho=>by
  simp only [La,Bool.and_eq_true] at h
  match t,ho with
  |0,ho=>
   simp only [List.getElem?_cons_zero,Option.some.injEq] at ho
   subst ho
   intro j hj
   have:=List.all_eq_true.1 h.1 j hj
   rw [Nat.blt_eq] at this
   exact this
  |t+1,ho=>
   intro j hj
   have:=B8 l (i+1) h.2 t o (by simpa using ho) j hj
   omega
theorem EK: ∀(lg:List fR) (ms:List Nat) (k i:Nat) (l:fR) (m:Nat),lg[i]? =some l->ms[i]? =some m->(l.aD= []/\ l.wr= [])\/ DI.mk (k+i) m l.aD l.wr∈U5 lg ms k
 | [],_,_,i,_,_,h,_=>by simp at h
 |_::_,[],_,i,_,_,_,h=>by simp at h
 |q::lg,n::ms,k,0,l,m,h,h'=>by
  simp only [List.getElem?_cons_zero,Option.some.injEq] at h h'
  subst h;subst h'
  simp only [U5]
  split
  ·exact .inl ⟨by assumption,by assumption⟩
  ·exact .inr (by simp)
 |q::lg,n::ms,k,i+1,l,m,h,h'=>by
  simp only [List.getElem?_cons_succ] at h h'
  have:=EK lg ms (k+1) i l m h h'
  rw [show k+1+i=k+(i+1) by omega] at this
  rcases this with h1|h1
  ·exact .inl h1
  ·refine .inr ?_
   simp only [U5]
   split
   ·exact h1
   ·exact List.mem_cons_of_mem _ h1
theorem Jl (x:Nat): ∀(lg:List fR) (k:Nat),LN x (mkL lg k)=(zD lg x).map (· +k)
 | [],k=>rfl
 |l::lg,k=>by
  have ih:=Jl x lg (k+1)
  have e: ∀(b:Bool),(l.nm<=x&&x<l.nm+l.cnt:Bool)=b->zD (l::lg) x=bif b then some 0 else (zD lg x).map (· +1):=fun b hb=>by
   unfold zD
   rw [List.findIdx?_cons]
   simp only [hb]
   cases b<;>rfl
  simp only [mkL]
  split
  ·rename_i hc
   rw [ih,e false (by rw [hc];simp)]
   simp only [cond_false,Option.map_map]
   congr 1
   funext y
   simp only [Function.comp_apply];omega
  ·rename_i c hc
   simp only [LN]
   have hb:(Nat.ble l.nm x&&Nat.blt x (l.nm+l.cnt))=(l.nm<=x&&x<l.nm+l.cnt:Bool):=by
    rw [Bool.eq_iff_iff];simp [Nat.blt_eq]
   rw [hb,e _ rfl,ih]
   cases (l.nm<=x&&x<l.nm+l.cnt:Bool)
   ·simp only [cond_false,Option.map_map]
    congr 1
    funext y
    simp only [Function.comp_apply];omega
   ·simp
theorem R7 {all:Array Oper} {o p:Oper} {m n:Nat} (h:Un ⟨o.dst,kz all o,m⟩ ⟨p.dst,kz all p,n⟩=true):
  ((match p.dst with|some d=>o.dst !=some d&& !(kz all o).contains d|none=>true)&&(match o.dst with|some d=> !(kz all p).contains d|none=>true))=true:=by
 simp only [Un,Bool.and_eq_true,LR] at h ⊢
 refine ⟨?_,?_⟩
 ·have h:=h.1
  cases hp:p.dst with
  |none=>rfl
  |some d=>
   rw [hp] at h
   simp only [Bool.and_eq_true] at h ⊢
   refine ⟨?_,h.2⟩
   have h:=h.1
   cases ho:o.dst with
   |none=>simp
   |some e=>
    rw [ho] at h
    simp only [Bool.not_eq_true',<- Bool.not_eq_true,Nat.beq_eq] at h
    simp [h]
 ·exact h.2
theorem force_eq {α:Type} (n:Nat) (k:Nat->α):force n k=k n:=by cases n<;>rfl
theorem Bj {α:Type} : ∀(l:List Nat) (k:List Nat->α),EW l k=k l
 | [],_=>rfl
 |x::r,k=>by rw [EW,force_eq,Bj r]
theorem EV {α:Type} : ∀(l:List fR) (k:List fR->α),Dy l k=k l
 | [],_=>rfl
 |e::r,k=>by rw [Dy,force_eq,force_eq,Bj,Bj,EV r]
theorem Ml: ∀(D:List DI) (o:DI),o∈D->o.w= []\/ o∈wsL D
 | [],_,h=>by cases h
 |p::r,o,h=>by
  rcases List.mem_cons.1 h with rfl|h
  ·cases hw:o.w with
   |nil=>exact .inl rfl
   |cons a l=>refine .inr ?_;rw [wsL,hw];exact List.mem_cons_self ..
  ·rcases Ml r o h with h1|h1
   ·exact .inl h1
   ·refine .inr ?_
    rw [wsL];split
    ·exact h1
    ·exact List.mem_cons_of_mem _ h1
theorem M1 {o p:DI} (ho:o.w= []) (hp:p.w= []):vG o p=true:=by
 simp [vG,ho,hp,oL]
theorem U6 {D:List DI} {mk:List (Nat×Nat×Nat)} (h:Yi D mk=true):(D.all fun o=>Qs mk o&&D.all (vG o))=true:=by
 simp only [Yi,Bool.and_eq_true] at h
 refine List.all_eq_true.2 fun o ho=> ?_
 simp only [Bool.and_eq_true]
 refine ⟨List.all_eq_true.1 h.1 o ho,List.all_eq_true.2 fun p hp=> ?_⟩
 rcases Ml D o ho with h1|h1
 ·rcases Ml D p hp with h2|h2
  ·exact M1 h1 h2
  ·have:=List.all_eq_true.1 (List.all_eq_true.1 h.2 p h2) o ho
   simp only [Bool.and_eq_true] at this
   exact this.1
 ·have:=List.all_eq_true.1 (List.all_eq_true.1 h.2 o h1) p hp
  simp only [Bool.and_eq_true] at this
  exact this.2
theorem FM {ops:Array Oper} {lg:List fR} (h:wh ops lg=true):TA ops lg=true:=by
 simp only [wh,EV,aaT,Bool.and_eq_true] at h
 obtain ⟨⟨h1,h2,h3⟩,h4⟩:=h
 have h4:=U6 h4
 have hlen:lg.length=ops.size:=Nat.eq_of_beq_eq_true h1
 rw [agE] at h3 h4
 have hml:(masks ops.toList []).length=ops.size:=by rw [Jn];simp
 simp only [TA,Bool.and_eq_true,beq_iff_eq]
 refine ⟨hlen,List.all_eq_true.2 fun i hi=> ?_⟩
 have hi:i<ops.size:=List.mem_range.1 hi
 obtain ⟨o,ho⟩: ∃o,ops.toList[i]? =some o:=⟨ops[i],by simp [hi]⟩
 have AZ:ops[i]? =some o:=by simpa using ho
 obtain ⟨l,hl⟩: ∃l,lg[i]? =some l:=⟨_,List.getElem?_eq_getElem (by omega)⟩
 obtain ⟨m,hm⟩: ∃m,(masks ops.toList [])[i]? =some m:=⟨_,List.getElem?_eq_getElem (by omega)⟩
 have hmi:(masks ops.toList []).getD i 0=m:=by rw [List.getD_eq_getElem?_getD,hm];rfl
 generalize (masks ops.toList [])=ms at h3 h4 hml hm hmi ⊢
 unfold Rz
 rw [AZ,hl]
 simp only [Bool.and_eq_true]
 have hd:=EK lg ms 0 i l m hl hm
 rw [Nat.zero_add] at hd
 have hone:(l.wr.all fun m=>l.aD.contains m)=true/\ (l.aD.all fun x=>match zD lg x with|some j=>j==i||m.testBit j|none=>true)=true:=by
  rcases hd with ⟨e1,e2⟩|hd
  ·rw [e1,e2];exact ⟨rfl,rfl⟩
  ·have:=List.all_eq_true.1 h4 _ hd
   simp only [Bool.and_eq_true,Qs] at this
   obtain ⟨⟨g1,g2⟩,_⟩:=this
   rw [Up] at g1
   refine ⟨g1,List.all_eq_true.2 fun x hx=> ?_⟩
   have:=List.all_eq_true.1 g2 x hx
   rw [Jl] at this
   cases hk:zD lg x with
   |none=>rfl
   |some j=>
    rw [hk] at this
    simp only [Option.map_some,Nat.add_zero,Bool.or_eq_true,Nat.beq_eq] at this
    simpa using this
 rw [hmi]
 refine ⟨⟨⟨?_,hone.1⟩,hone.2⟩,List.all_eq_true.2 fun j hj=> ?_⟩
 ·refine List.all_eq_true.2 fun j hj=> ?_
  have:=B8 _ _ h2 i o ho j hj
  simpa using this
 ·have hj:j<i:=List.mem_range.1 hj
  obtain ⟨oj,hoj⟩: ∃o,ops.toList[j]? =some o:=⟨ops[j]'(by omega),by simp [show j<ops.size by omega]⟩
  have ak7:ops[j]? =some oj:=by simpa using hoj
  obtain ⟨lj,hlj⟩: ∃l,lg[j]? =some l:=⟨_,List.getElem?_eq_getElem (by omega)⟩
  obtain ⟨mj,hmj⟩: ∃m,ms[j]? =some m:=⟨_,List.getElem?_eq_getElem (by omega)⟩
  rw [ak7,hlj]
  simp only [Bool.or_eq_true]
  rcases Bool.eq_false_or_eq_true (m.testBit j) with hb|hb
  ·exact .inl hb
  ·refine .inr ?_
   have hs:=AK _ _ _ (AI _ _ h3 i _ (LW _ _ i o m ho hm)) j _ (by omega) (LW _ _ j oj mj hoj hmj)
   rw [Nat.zero_add,hb] at hs
   have hs:=R7 (hs.resolve_left (by simp))
   simp only [Bool.and_eq_true] at hs ⊢
   refine ⟨⟨?_,hs.1⟩,hs.2⟩
   have AY:=EK lg ms 0 j lj mj hlj hmj
   rw [Nat.zero_add] at AY
   rcases hd with ⟨e1,e2⟩|hd
   ·rw [e1,e2]
    refine ⟨⟨rfl,?_⟩,rfl⟩
    exact List.all_eq_true.2 fun _ _=>rfl
   ·rcases AY with ⟨e1,e2⟩|AY
    ·rw [e1,e2]
     exact ⟨⟨List.all_eq_true.2 fun _ _=>rfl,rfl⟩,List.all_eq_true.2 fun _ _=>rfl⟩
    ·have:=List.all_eq_true.1 h4 _ hd
     simp only [Bool.and_eq_true] at this
     have:=List.all_eq_true.1 this.2 _ AY
     simp only [vG,Bool.or_eq_true,hb,SP,Bool.and_eq_true] at this
     rcases this with (h|h)|h
     ·rw [Nat.ble_eq] at h;omega
     ·cases h
     ·exact h
structure Good (P:Program) (X:Addr->Value->Prop) (ops:Array Oper) (bF:AS) (tr:List (Option Rec)) (el:List fR):Prop where
 len:tr.length=ops.size
 trace:A5 P X ops ops.toList bF tr
 ord:TA ops el=true
 eff:el=mm ops.toList bF tr\/ el=ach bF.heap (mm ops.toList bF tr)
def Me (el:List fR) (i:Nat):List Nat:=match el[i]? with
 |some l=>l.aD
 |none=> []
variable {X:Addr->Value->Prop} {ops:Array Oper} {bF:AS} {tr:List (Option Rec)} {el:List fR}
theorem Good.at_ (h:Good P X ops bF tr el) {i:Nat} (hi:i<ops.size): ∃o r,ops[i]? =some o/\ ops.toList[i]? =some o/\ tr[i]? =some r/\ eH tr i=r/\ Sy P X ops o (A1 ops.toList tr bF i) r/\
  A1 ops.toList tr bF (i+1)=mE o (A1 ops.toList tr bF i) r/\ (mm ops.toList bF tr)[i]? =some (Fy o (A1 ops.toList tr bF i) r):=by
 have ho:ops.toList[i]? =some ops[i]:=by simp [hi]
 have hr:tr[i]? =some (tr[i]'(by rw [h.len];exact hi)):=List.getElem?_eq_getElem _
 obtain ⟨h1,h2,h3⟩:=PD ops.toList bF tr i _ _ h.trace ho hr
 exact ⟨_,_,by simp [hi],ho,hr,by simp [eH,hr],h1,h2,h3⟩
theorem Good.ag0 (h:Good P X ops bF tr el): ∀i,i<=ops.size->(A1 ops.toList tr bF i).tmps.length=bF.tmps.length
 |0,_=>by simp [A1,pY]
 |i+1,hi=>by
  obtain ⟨o,r,_,_,_,_,_,hs,_⟩:=h.at_ (i:=i) (by omega)
  rw [hs,WU,h.ag0 i (by omega)]
theorem Good.Ts (h:Good P X ops bF tr el) {i:Nat} (hi:i<ops.size):Bz ops.toList tr bF (i+1)=Bz ops.toList tr bF i+(match eH tr i with|some r=>r.fresh.length|none=>0):=by
 obtain ⟨o,r,_,_,_,hr,_,hs,_⟩:=h.at_ hi
 simp only [Bz,hs,R8,hr]
theorem Good.DM (h:Good P X ops bF tr el) {i:Nat} : ∀ {j:Nat},i<j->j<=ops.size->Bz ops.toList tr bF i+(match eH tr i with|some r=>r.fresh.length|none=>0)<=Bz ops.toList tr bF j
 |0,hij,_=>by omega
 |j+1,hij,hj=>by
  by_cases e:i=j
  ·subst e;rw [h.Ts (by omega)];exact Nat.le_refl _
  ·have h1:=h.DM (i:=i) (j:=j) (by omega) (by omega)
   have h2:=h.Ts (i:=j) (by omega)
   rw [h2];omega
theorem Good.Tt:Bz ops.toList tr bF 0=bF.heap.length:=by simp [Bz,A1,pY]
theorem Good.aeU (h:Good P X ops bF tr el) {i:Nat} (hi:i<=ops.size):bF.heap.length<=Bz ops.toList tr bF i:=by
 rcases Nat.eq_zero_or_pos i with rfl|h0
 ·rw [Good.Tt];exact Nat.le_refl _
 ·have:=h.DM (i:=0) h0 hi;rw [Good.Tt] at this;omega
theorem rF {nm:Nat} {r:Option Rec} {m:Nat} :covers nm r m↔nm<=m/\ m<nm+(match r with|some r=>r.fresh.length|none=>0):=by
 cases r with
 |none=>exact ⟨fun h=>h.elim,fun h=>by have h1:=h.1;have h2:=h.2;dsimp only at h2;omega⟩
 |some r=>exact Iff.rfl
theorem Good.tx (h:Good P X ops bF tr el) {i j m:Nat} (hi:i<ops.size) (hj:j<ops.size) (h1:covers (Bz ops.toList tr bF i) (eH tr i) m) (h2:covers (Bz ops.toList tr bF j) (eH tr j) m):i=j:=by
 rw [rF] at h1 h2
 rcases Nat.lt_trichotomy i j with e|e|e
 ·have:=h.DM e (by omega);omega
 ·exact e
 ·have:=h.DM e (by omega);omega
def Er (ops:Array Oper) (i j:Nat):Bool:=((masks ops.toList []).getD i 0).testBit j
theorem vD {i j:Nat} (h:Er ops i j=true):Sx ops.toList i j:=
 FC ops.toList ops.toList [] [] rfl rfl (fun i j hb=>by simp at hb) i j h
theorem Rn (o:Oper) (st:AS) (r:Option Rec):(Fy o st r).wr=s9 r/\ (Fy o st r).aD=DY r/\ (Fy o st r).nm=st.heap.length/\ (Fy o st r).cnt=(match r with|some r=>r.fresh.length|none=>0):=by
 cases r<;>exact ⟨rfl,rfl,rfl,rfl⟩
theorem Qt (h0:List aF) (all:List fR) (l:fR):M4 h0 all l=l\/ (∃n q m,l.look=some (n,q)/\ l.aD= [m]/\ l.wr= []/\ n<h0.length/\ q.hit (ai h0 n)=true/\ C7 n q all=true/\
  (M4 h0 all l).nm=l.nm/\ (M4 h0 all l).cnt=l.cnt/\ (M4 h0 all l).aD= []/\ (M4 h0 all l).wr= []):=by
 unfold M4
 split
 ·rename_i n q m h1 h2 h3
  cases hb:(Nat.beq m n&&Nat.blt n h0.length&&q.hit (ai h0 n)&&C7 n q all) with
  |false=>exact .inl rfl
  |true=>
   simp only [Bool.and_eq_true,Nat.blt_eq] at hb
   exact .inr ⟨n,q,m,h1,h2,h3,hb.1.1.2,hb.1.2,hb.2,rfl,rfl,rfl,rfl⟩
 ·exact .inl rfl
theorem KJ {n:Nat} {q:Eb} : ∀ {ws:List (Nat×aF)},aby n q ws=true-> ∀p∈ws,p.1=n->q.hit (live (some p.2))=true
 | [],_,p,hp,_=>by cases hp
 |x::r,h,p,hp,e=>by
  simp only [aby,Bool.and_eq_true,Bool.or_eq_true,Bool.not_eq_true'] at h
  rcases List.mem_cons.1 hp with rfl|hp
  ·have h1:=h.1.resolve_left (by rw [e];simp)
   cases hx:p.2<;>rw [hx] at h1<;>first|exact h1|(cases q<;>cases h1)
  ·exact KJ h.2 p hp e
theorem Hj {n:Nat} {q:Eb} : ∀ {lg:List fR},C7 n q lg=true-> ∀l∈lg,aby n q l.ws=true
 | [],_,l,hl=>by cases hl
 |x::r,h,l,hl=>by
  simp only [C7,Bool.and_eq_true] at h
  rcases List.mem_cons.1 hl with rfl|hl
  ·exact h.1
  ·exact Hj h.2 l hl
theorem Good.M5 (h:Good P X ops bF tr el) {i:Nat} (hi:i<ops.size): ∃l,el[i]? =some l/\ l.wr=s9 (eH tr i)/\ l.nm=Bz ops.toList tr bF i/\ l.cnt=(match eH tr i with|some r=>r.fresh.length|none=>0)/\
  (l.aD=DY (eH tr i)\/ (l.aD= []/\ ∃o r n q,ops[i]? =some o/\ eH tr i=some r/\ dY o.op (dw (A1 ops.toList tr bF i).tmps) r.val=some (n,q)/\ n<bF.heap.length/\ q.hit (ai bF.heap n)=true/\ C7 n q (mm ops.toList bF tr)=true)):=by
 obtain ⟨o,r,ho,_,_,hr,_,_,uj⟩:=h.at_ hi
 obtain ⟨f1,f2,f3,f4⟩:=Rn o (A1 ops.toList tr bF i) r
 rw [hr]
 rcases h.eff with e|e
 ·rw [e]
  exact ⟨_,uj,f1,f3,f4,.inl f2⟩
 ·have hl:el[i]? =some (M4 bF.heap (mm ops.toList bF tr) (Fy o (A1 ops.toList tr bF i) r)):=by rw [e,ach,List.getElem?_map,uj];rfl
  rcases Qt bF.heap (mm ops.toList bF tr) (Fy o (A1 ops.toList tr bF i) r) with e1|⟨n,q,m,g1,g2,g3,g4,g5,g6,g7,g8,g9,g10⟩
  ·exact ⟨_,hl,by rw [e1,f1],by rw [e1,f3];rfl,by rw [e1,f4],.inl (by rw [e1,f2])⟩
  ·refine ⟨_,hl,by rw [g10,←f1,g3],by rw [g7,f3];rfl,by rw [g8,f4],.inr ⟨g9,?_⟩⟩
   cases r with
   |none=>cases g1
   |some r=>exact ⟨o,r,n,q,ho,rfl,g1,g4,g5,g6⟩
theorem Mf {i:Nat} {l:fR} (h:el[i]? =some l):Me el i=l.aD:=by unfold Me;rw [h]
theorem xL {a b:List Nat} (h:IB a b=true): ∀m∈a,m∉b:=by
 intro m hm hb
 have:=List.all_eq_true.1 h m hm
 simp [hb] at this
theorem Good.one (h:Good P X ops bF tr el) {i:Nat} (hi:i<ops.size) {o:Oper} (ho:ops[i]? =some o):
  (∀j∈direct o,j<i)/\ (∀m∈s9 (eH tr i),m∈Me el i)/\
  (∀m∈Me el i,∀j,j<ops.size->covers (Bz ops.toList tr bF j) (eH tr j) m->j=i\/ Er ops i j=true)/\
  ∀j p,j<i->ops[j]? =some p->Er ops i j=false->
   (∀m∈s9 (eH tr i),m∉Me el j)/\ (∀m∈s9 (eH tr j),m∉Me el i)/\ (∀m∈s9 (eH tr i),m∉s9 (eH tr j))/\
   (∀d,p.dst=some d->o.dst≠some d/\ d∉kz ops o)/\ (∀d,o.dst=some d->d∉kz ops p):=by
 have HU:=h.ord
 simp only [TA,Bool.and_eq_true] at HU
 have h1:=List.all_eq_true.1 HU.2 i (List.mem_range.2 hi)
 obtain ⟨l,uj,f1,f3,f4,_⟩:=h.M5 hi
 have f2:l.aD=Me el i:=(Mf uj).symm
 unfold Rz at h1
 rw [ho,uj] at h1
 simp only [Bool.and_eq_true] at h1
 obtain ⟨⟨⟨h1,h2⟩,h3⟩,h4⟩:=h1
 refine ⟨fun j hj=>by simpa using List.all_eq_true.1 h1 j hj,fun m hm=> ?_,fun m hm j hj hc=> ?_,fun j p hj hp hb=> ?_⟩
 ·have:=List.all_eq_true.1 h2 m (by rw [f1];exact hm)
  rw [f2] at this
  simpa using this
 ·have:=List.all_eq_true.1 h3 m (by rw [f2];exact hm)
  have hmk:zD el m=some j:=by
   unfold zD
   rw [List.findIdx?_eq_some_iff_getElem]
   obtain ⟨lj,hlj,_,g3,g4,_⟩:=h.M5 hj
   obtain ⟨hjl,hje⟩:=List.getElem?_eq_some_iff.1 hlj
   refine ⟨hjl,?_,fun k hk=> ?_⟩
   ·rw [hje,g3,g4]
    rw [rF] at hc
    simpa using hc
   ·obtain ⟨lk,hlk,_,k3,k4,_⟩:=h.M5 (i:=k) (by omega)
    obtain ⟨hkl,hke⟩:=List.getElem?_eq_some_iff.1 hlk
    rw [hke,k3,k4]
    intro akJ
    have:covers (Bz ops.toList tr bF k) (eH tr k) m:=by
     rw [rF];simpa using akJ
    have:=h.tx (by omega) hj this hc
    omega
  rw [hmk] at this
  simp only [Bool.or_eq_true,beq_iff_eq] at this
  exact this
 ·have:=List.all_eq_true.1 h4 j (List.mem_range.2 hj)
  obtain ⟨lj,hlj,g1,_,_,_⟩:=h.M5 (i:=j) (by omega)
  have g2:lj.aD=Me el j:=(Mf hlj).symm
  have hb':(((masks ops.toList []).getD i 0).testBit j)=false:=hb
  rw [hb',hp,hlj] at this
  simp only [Bool.false_or,Bool.and_eq_true,f1,f2,g1,g2] at this
  obtain ⟨⟨⟨⟨a1,a2⟩,a3⟩,a4⟩,a5⟩:=this
  refine ⟨xL a1,xL a2,xL a3,fun d hd=> ?_,fun d hd=> ?_⟩
  ·rw [hd] at a4
   simp only [Bool.and_eq_true,bne_iff_ne,ne_eq,Bool.not_eq_true',List.contains_eq_mem,decide_eq_false_iff_not] at a4
   exact a4
  ·rw [hd] at a5
   simpa using a5
structure Xs (aq:e8) (W:World) (df:List Deferred) (N:Nat) (F:FS) (ρ:Env) (a:Act) (w:World):Prop where
 tmps: ∀t,F.T t≠ .dead->a.tmps.getD t undef=(F.T t).ae ρ
 ok: ∀t,(F.T t).ok F.Kn
 size:a.tmps.size=N
 defers:a.defers=df
 st:St aq W ρ F.Kn F.G w
theorem adO {st:AS} {ρ:Env} {a:Act} {w:World} (h:lV aq W df st ρ a w):Xs aq W df st.tmps.length (kj st) ρ a w:=⟨h.tmps,h.kn,h.size,h.defers,h.st⟩
theorem adP {st:AS} {N:Nat} {ρ:Env} {a:Act} {w:World} (h:Xs aq W df N (kj st) ρ a w) (hN:st.tmps.length=N):lV aq W df st ρ a w:=⟨h.tmps,by rw [h.size,hN],h.defers,h.ok,h.st⟩
theorem V0 {o:Oper} {t:Nat} (h:Operand.tmp t∈o.op.operands):t∈kz ops o:=
 List.mem_append_left _ (List.mem_filterMap.2 ⟨.tmp t,Array.mem_toList_iff.2 h,rfl⟩)
theorem Ww {N i:Nat} {F:FS} {ρ:Env} {a:Act} {w:World} {ro:Option Nat} {n:Nat} {Q:Exit->Act->World->Prop} (hX:ru aq W X) (hR:Xs aq W df N F ρ a w) {o:Oper} (ho:ops[i]? =some o) {S:AS} {r:Option Rec}
  (hf:Sy P X ops o S r) (hT: ∀t∈kz ops o,F.T t=cz S.tmps t) (hG:(∀m∈DY r,F.G m=ai S.heap m)\/ ∃r' n q,r=some r'/\ dY o.op (dw S.tmps) r'.val=some (n,q)/\ q.hit (F.G n)=true) (hfr: ∀m,covers S.heap.length r m-> ¬F.Kn m):
  wpOpIn (fw ro) n P ops Q i (fun a' w'=> ∃ρ',Xs aq W df N (H6 N o S.heap.length r F) ρ' a' w') a w:=by
 have mR: ∀x∈o.op.operands,(dw S.tmps x≠ .dead->a.eval x=(dw S.tmps x).ae ρ)/\ (dw S.tmps x).ok F.Kn:=by
  intro x hx
  cases x with
  |tmp t=>
   have:=hT t (V0 hx)
   refine ⟨?_,?_⟩
   ·show cz S.tmps t≠ .dead→a.tmps.getD t undef=(cz S.tmps t).ae ρ
    rw [<- this];exact hR.tmps t
   ·show (cz S.tmps t).ok F.Kn
    rw [<- this];exact hR.ok t
  |const v=>exact ⟨fun _=>(qT v ρ).symm,x4 _ _⟩
  |global g=>exact ⟨fun _=>rfl,trivial⟩
  |func f=>exact ⟨fun _=>rfl,fun r hr=>absurd hr (by simp)⟩
 have hgd: ∀b,lE ops o S b->Region.wanted o (yielded ops a.tmps)=b:=by
  intro b hb
  unfold lE at hb
  split at hb
  ·rename_i hg;rw [hb];simp [Region.wanted,hg]
  ·rename_i j want hg
   obtain ⟨d,hd,hb⟩:=hb
   have h1:=hR.tmps d
   have e1:(ops[j]?).bind (·.dst)=some d:=by
    unfold B9 at hd;split at hd
    ·rename_i p hp;simp [hp,hd]
    ·cases hd
   rw [hT d (by unfold kz;rw [hg];exact List.mem_append_right _ (by simp [hd]))] at h1
   rcases hb with ⟨x,hx,hxb⟩|⟨hx,hb⟩
   rotate_left
   ·have h1:=h1 (by rw [hx];simp)
    rw [hx] at h1
    rw [hb]
    rw [Array.getD_eq_getD_getElem?] at h1
    cases hq:a.tmps[d]? with
    |none=>simp [Region.wanted,hg,yielded,e1,hq]
    |some v=>
     rw [hq] at h1
     have e:v= .tuple #[]:=h1
     subst e
     simp [Region.wanted,hg,yielded,e1,hq]
   have ie:cz S.tmps d≠ .dead:=by rw [hx];simp [bG]
   have h1:=h1 ie
   rw [hx] at h1
   have e2:a.tmps[d]? =some (.bool x):=by
    rw [Array.getD_eq_getD_getElem?] at h1
    cases hq:a.tmps[d]? with
    |none=>rw [hq] at h1;cases h1
    |some v=>rw [hq] at h1;exact congrArg some h1
   simp only [Region.wanted,hg,yielded,e1,Option.bind_some,e2]
   rw [<- hxb];cases x<;>cases want<;>rfl
 unfold wpOpIn
 rw [ho]
 dsimp only
 cases r with
 |some r=>
  obtain ⟨hg,ie,hl,hlk⟩:=hf
  rw [if_pos (hgd true hg)]
  obtain ⟨H,hH,hHG⟩: ∃H:HP,bO P X o (dw S.tmps) H S.heap.length r/\ ∀m∈r.aD,F.G m=H m:=by
   rcases hG with hG|⟨r',n',q,e,h1,h2⟩
   ·exact ⟨_,hl,hG⟩
   ·cases e
    exact ⟨F.G,hlk n' q h1 F.G h2,fun _ _=>rfl⟩
  refine hH.2 ro n aq W ρ F.Kn F.G w a _ Q hX (fun x hx=>(mR x hx).1 (ie x hx)) (fun x hx=>(mR x hx).2) hHG (fun k hk=>hfr _ ⟨by omega,by omega⟩) hR.st ?_
  intro ρ' w' pZ HC hst
  refine ⟨ρ',fun t=> ?_,fun t=> ?_,by rw [mB,hR.size],by rw [put_defers,hR.defers],hst⟩
  ·rw [iK,hR.size]
   simp only [H6]
   have hold:F.T t≠ .dead->a.tmps.getD t undef=(F.T t).ae ρ':=fun hd=>by rw [hR.tmps t hd];exact (AV.bt pZ _ (hR.ok t)).symm
   cases o.dst with
   |none=>simpa using hold
   |some d=>
    simp only [Option.some.injEq]
    by_cases e:d=t
    ·subst e
     by_cases e2:d<N
     ·simp [e2]
     ·simp only [e2,and_false,if_false];exact hold
    ·have n1: ¬(t=d∧d<N):=fun h=>e h.1.symm
     have n2: ¬(d=t/\ t<N):=fun h=>e h.1
     simp only [n1,n2,if_false];exact hold
  ·simp only [H6]
   split
   ·exact HC
   ·exact AV.aV (fun m hm=> .inl hm) _ (hR.ok t)
 |none=>
  rw [if_neg (by rw [hgd false hf];simp)]
  refine ⟨fun _ _=>trivial,ρ,fun t=> ?_,fun t=> ?_,by rw [mB,hR.size],by rw [put_defers,hR.defers],hR.st⟩
  ·rw [iK,hR.size]
   simp only [H6]
   cases o.dst with
   |none=>simpa using hR.tmps t
   |some d=>
    simp only [Option.some.injEq]
    by_cases e:d=t
    ·subst e
     by_cases e2:d<N
     ·simp only [e2,and_self,if_true];intro _;rfl
     ·simp only [e2,and_false,if_false];exact hR.tmps d
    ·have n1: ¬(t=d∧d<N):=fun h=>e h.1.symm
     have n2: ¬(d=t/\ t<N):=fun h=>e h.1
     simp only [n1,n2,if_false];exact hR.tmps t
  ·simp only [H6]
   split
   ·exact sM _
   ·exact hR.ok t
theorem Good.text (h:Good P X ops bF tr el): ∀i,i<=ops.size->part bF.tmps.length ops.toList tr bF (fun _=>true) (List.range i) (kj bF)=kj (A1 ops.toList tr bF i)
 |0,_=>by simp [part,A1,pY]
 |i+1,hi=>by
  obtain ⟨o,r,_,ho,hr,_,hf,hs,_⟩:=h.at_ (i:=i) (by omega)
  have ih:=h.text i (by omega)
  have e:part bF.tmps.length ops.toList tr bF (fun _=>true) (List.range (i+1)) (kj bF)=gg bF.tmps.length ops.toList tr bF i (part bF.tmps.length ops.toList tr bF (fun _=>true) (List.range i) (kj bF)):=by
   rw [List.range_succ];simp [part,List.foldl_append]
  rw [e,ih,hs]
  unfold gg
  rw [ho,hr]
  exact Z8 (h.ag0 i (by omega)) r fun q hq p hp=>by subst hq;exact hf.2.2.1.1 p hp
theorem adI {N:Nat} {ops:List Oper} {tr:List (Option Rec)} {bF:AS} {n i:Nat} (hi:i<=n) (s:FS):part N ops tr bF (fun j=>decide (j<i)) (List.range n) s=part N ops tr bF (fun _=>true) (List.range i) s:=by
 have e:List.range n=List.range i++List.range' i (n- i):=by
  have e1:=List.range'_append_1 (s:=0) (m:=i) (n:=n- i)
  rw [Nat.zero_add] at e1
  rw [List.range_eq_range',List.range_eq_range',e1];congr 1;omega
 have h1: ∀(is:List Nat) (s:FS),(∀j∈is,j<i)->part N ops tr bF (fun j=>decide (j<i)) is s=part N ops tr bF (fun _=>true) is s:=by
  intro is
  induction is with
  |nil=>intro s _;rfl
  |cons j r ih=>
   intro s hj
   show part N ops tr bF _ r _=part N ops tr bF _ r _
   simp only [hj j (by simp),decide_true,if_true]
   exact ih _ (fun k hk=>hj k (by simp [hk]))
 have h2: ∀(is:List Nat) (s:FS),(∀j∈is,i<=j)->part N ops tr bF (fun j=>decide (j<i)) is s=s:=by
  intro is
  induction is with
  |nil=>intro s _;rfl
  |cons j r ih=>
   intro s hj
   show part N ops tr bF _ r _=s
   have:decide (j<i)=false:=by have:=hj j (by simp);simpa using this
   simp only [this,Bool.false_eq_true,if_false]
   exact ih _ (fun k hk=>hj k (by simp [hk]))
 rw [e]
 show List.foldl _ s (_++_)=_
 rw [List.foldl_append]
 show part N ops tr bF _ _ (part N ops tr bF _ _ s)=_
 rw [h1 _ _ (fun j hj=>List.mem_range.1 hj),h2 _ _ (fun j hj=>(List.mem_range'_1.1 hj).1)]
theorem Good.Yd (h:Good P X ops bF tr el) {i j:Nat} (hd:Sx ops.toList i j):j<i:=by
 induction hd with
 | @edge i' j' o' AZ hj'=>
  have hi':i'<ops.size:=by have:=(List.getElem?_eq_some_iff.1 AZ).1;simpa using this
  exact (h.one hi' (by rw [<- Array.getElem?_toList];exact AZ)).1 _ hj'
 | @trans i' j' k' o' AZ hk' _ ih=>
  have hi':i'<ops.size:=by have:=(List.getElem?_eq_some_iff.1 AZ).1;simpa using this
  have:=(h.one hi' (by rw [<- Array.getElem?_toList];exact AZ)).1 _ hk'
  omega
theorem count_set: ∀(l:List Bool) (i:Nat),l[i]? =some false->(l.set i true).countP (!·)+1=l.countP (!·)
 | [],_,h=>by simp at h
 |b::r,0,h=>by simp at h;subst h;simp
 |b::r,i+1,h=>by
  have:=count_set r i (by simpa using h)
  simp only [List.set_cons_succ,List.countP_cons];omega
theorem Rj {ws:List (Nat×aF)} {m:Nat} {o:aF} (h:bZ ws m=some o):(m,o)∈ws:=by
 induction ws with
 |nil=>cases h
 |cons p r ih=>
  simp only [bZ] at h
  split at h
  ·rename_i o' ho
   cases h
   exact List.mem_cons_of_mem _ (ih ho)
  ·split at h
   ·rename_i e
    cases h
    rw [<- e]
    exact List.mem_cons_self ..
   ·cases h
theorem Om (h:Good P X ops bF tr el) {N n:Nat} {q:Eb} {L:Nat->Bool} (hn:n<bF.heap.length) (hv:C7 n q (mm ops.toList bF tr)=true): ∀(is:List Nat) (s:FS),q.hit (s.G n)=true->q.hit ((part N ops.toList tr bF L is s).G n)=true
 | [],s,hs=>hs
 |i::r,s,hs=>by
  refine Om h hn hv r _ ?_
  dsimp only
  split
  rotate_left
  ·exact hs
  unfold gg
  split
  rotate_left
  ·exact hs
  rename_i o x ho hx
  cases x with
  |none=>exact hs
  |some x=>
   have hi:i<ops.size:=by have:=(List.getElem?_eq_some_iff.1 ho).1;simpa using this
   obtain ⟨o',r',_,hol,htr,_,_,_,uj⟩:=h.at_ hi
   rw [htr] at hx
   cases hx
   have hw:=Hj hv _ (List.mem_of_getElem? uj)
   have hnm:=h.aeU (i:=i) (by omega)
   simp only [H6,bU]
   rw [if_neg (by intro hc;have:=hc.1;simp only [Bz] at hnm;omega)]
   split
   ·rename_i o2 ho2
    exact KJ hw _ (Rj ho2) rfl
   ·exact hs
def abM (aq:e8) (W:World) (df:List Deferred) (ops:Array Oper) (tr:List (Option Rec)) (bF:AS) (L:Array Bool) (a:Act) (w:World):Prop:=L.size=ops.size/\ (∀i o,L.getD i false=true->ops.toList[i]? =some o-> ∀j∈direct o,L.getD j false=true)/\
  ∃ρ,Xs aq W df bF.tmps.length (part bF.tmps.length ops.toList tr bF (fun i=>L.getD i false) (List.range ops.size) (kj bF)) ρ a w
theorem Bb (hX:ru aq W X) (h:Good P X ops bF tr el) (ro:Option Nat) (n:Nat) (Q:Exit->Act->World->Prop):
    ∀L a w i,abM aq W df ops tr bF L a w->i∈Region.ready .any ops L->wpOpIn (fw ro) n P ops Q i (fun a' w'=>abM aq W df ops tr bF (L.setIfInBounds i true) a' w') a w/\ i<ops.size/\ L[i]? =some false/\ ∀j,Sx ops.toList i j->L.getD j false=true:=by
  let N:=bF.tmps.length
  have hsz:ops.toList.length=ops.size:=by simp
  rintro L a w i ⟨hL,hdc,ρ,hR⟩ hi
  simp only [Region.ready,List.mem_filter,List.mem_range,Bool.and_eq_true,Bool.not_eq_true'] at hi
  obtain ⟨hin,hnl,QV⟩:=hi
  have hLi:L[i]? =some false:=by
    rw [Array.getElem?_eq_getElem (by omega)]
    rw [Array.getD_eq_getD_getElem?,Array.getElem?_eq_getElem (by omega)] at hnl
    simpa using hnl
  have hLf:L.getD i false=false:=by rw [Array.getD_eq_getD_getElem?,hLi];rfl
  obtain ⟨o,r,ho,hol,htr,hri,hf,hs,_⟩:=h.at_ hin
  have aim: ∀j∈direct o,L.getD j false=true:=by
    intro j hj
    simp only [direct,List.mem_map,List.mem_filter] at hj
    obtain ⟨e,⟨he,hb⟩,rfl⟩:=hj
    rw [ho] at QV
    simp only [Option.map_some,Option.getD_some] at QV
    have:=Array.all_eq_true_iff_forall_mem.1 QV e (Array.mem_toList_iff.1 he)
    simpa [hb] using this
  have afZ: ∀j,Sx ops.toList i j->L.getD j false=true:=fun j hd=>hd.Wj (L:=fun j=>L.getD j false=true) hdc hol aim
  have YO: ∀j,L.getD j false=true-> ¬Sx ops.toList j i:=fun j hj hd=>by
    have:=hd.closed (L:=fun j=>L.getD j false=true) hdc hj
    rw [hLf] at this;cases this
  obtain ⟨_,hwt,htm,aeL⟩:=h.one hin ho
  have HU: ∀j,j<ops.size->j≠i->(L.getD j false=decide (j<i))\/ ((j<i/\ Er ops i j=false)\/ (i<j/\ Er ops j i=false)):=by
    intro j hj hne
    rcases Nat.lt_or_gt_of_ne hne with hlt|hlt
    · cases hb:Er ops i j with
      |true=>left;rw [afZ j (vD hb)];simp [hlt]
      |false=>exact .inr (.inl ⟨hlt,rfl⟩)
    · cases hb:Er ops j i with
      | true=>
        left
        cases hLj:L.getD j false with
        |true=>exact absurd (vD hb) (YO j hLj)
        |false=>simp;omega
      |false=>exact .inr (.inr ⟨hlt,rfl⟩)
  have hsi:kj (A1 ops.toList tr bF i)=part N ops.toList tr bF (fun j=>decide (j<i)) (List.range ops.size) (kj bF):=by
    rw [adI (by omega),h.text i (by omega)]
  have hT: ∀t∈kz ops o,(part N ops.toList tr bF (fun i=>L.getD i false) (List.range ops.size) (kj bF)).T t=cz (A1 ops.toList tr bF i).tmps t:=by
    intro t ht
    show _=(kj (A1 ops.toList tr bF i)).T t
    rw [hsi]
    refine RE _ _ _ rfl fun j hj hd=> ?_
    have hj:=List.mem_range.1 hj
    by_cases hne:j=i
    · subst hne;rw [hLf];simp
    · obtain ⟨p,_,hp,w7,_⟩:=h.at_ hj
      have hpd:p.dst=some t:=by simpa [HK,w7] using hd
      rcases HU j hj hne with e|⟨hlt,hb⟩|⟨hlt,hb⟩
      · exact e
      · exact absurd ht ((aeL j p hlt hp hb).2.2.2.1 t hpd).2
      · exact absurd ht ((h.one hj hp).2.2.2 i o hlt ho hb|>.2.2.2.2 t hpd)
  have hG0: ∀m∈Me el i,(part N ops.toList tr bF (fun i=>L.getD i false) (List.range ops.size) (kj bF)).G m=ai (A1 ops.toList tr bF i).heap m:=by
    intro m hm'
    show _=(kj (A1 ops.toList tr bF i)).G m
    rw [hsi]
    refine RD _ _ _ rfl fun j hj hd=> ?_
    have hj:=List.mem_range.1 hj
    by_cases hne:j=i
    · subst hne;rw [hLf];simp
    · obtain ⟨p,_,hp,w7,_⟩:=h.at_ hj
      rcases hd with hc|hwj
      · rcases htm m hm' j hj hc with e|e
        · exact absurd e hne
        · have hji:j<i:=by
            rcases HU j hj hne with _|_
            all_goals
              rcases Nat.lt_or_gt_of_ne hne with h1|h1
              · exact h1
              · exfalso
                have:=h.Yd (vD e)
                omega
          rw [afZ j (vD e)];simp [hji]
      · rcases HU j hj hne with e|⟨hlt,hb⟩|⟨hlt,hb⟩
        · exact e
        · exact absurd hm' ((aeL j p hlt hp hb).2.1 m hwj)
        · exact absurd hm' (((h.one hj hp).2.2.2 i o hlt ho hb).1 m hwj)
  have hG:(∀m∈DY r,(part N ops.toList tr bF (fun i=>L.getD i false) (List.range ops.size) (kj bF)).G m=ai (A1 ops.toList tr bF i).heap m)\/ ∃r' n q,r=some r'/\ dY o.op (dw (A1 ops.toList tr bF i).tmps) r'.val=some (n,q)/\ q.hit ((part N ops.toList tr bF (fun i=>L.getD i false) (List.range ops.size) (kj bF)).G n)=true:=by
    obtain ⟨l,uj,_,_,_,ht|⟨_,o',r',n',q,AZ,hr',h1,h2,h3,h4⟩⟩:=h.M5 hin
    · left
      rw [Mf uj,ht,hri] at hG0
      exact hG0
    · right
      rw [ho] at AZ;cases AZ
      rw [hri] at hr'
      refine ⟨r',n',q,hr',h1, ?_⟩
      exact Om h h2 h4 (List.range ops.size) _ h3
  have hfr: ∀m,covers (A1 ops.toList tr bF i).heap.length r m-> ¬(part N ops.toList tr bF (fun i=>L.getD i false) (List.range ops.size) (kj bF)).Kn m:=by
    intro m hc hk
    have Lp:covers (Bz ops.toList tr bF i) (eH tr i) m:=by rw [hri];exact hc
    rw [DQ _ _ (fun j hj=>by rw [hsz];exact List.mem_range.1 hj)] at hk
    rcases hk with hk|⟨j,hj,hLj,hcj⟩
    · have h1:=h.aeU (i:=i) (by omega)
      rw [rF] at Lp
      have:m<bF.heap.length:=hk
      omega
    · have:=h.tx (List.mem_range.1 hj) hin hcj Lp
      subst this;rw [hLf] at hLj;cases hLj
  refine ⟨?_,hin,hLi,afZ⟩
  refine wpOpIn_mono ?_ (Ww hX hR ho hf hT hG hfr)
  rintro a' w' ⟨ρ',hR'⟩
  have HS: ∀j,(L.setIfInBounds i true).getD j false=(L.getD j false||j==i):=by
    intro j
    simp only [Array.getD_eq_getD_getElem?,Array.getElem?_setIfInBounds]
    by_cases e:i=j
    · subst e;simp [hL,hin]
    · simp [e,Ne.symm e]
  refine ⟨by simp [hL],fun j p hj hp k hk=> ?_,ρ', ?_⟩
  · rw [HS] at hj ⊢
    rw [Bool.or_eq_true] at hj ⊢
    rcases hj with hj|hj
    · exact .inl (hdc j p hj hp k hk)
    · have:j=i:=by simpa using hj
      subst this
      rw [hol] at hp;cases hp
      exact .inl (aim k hk)
  · have HN:=aad (N:=N) (ops:=ops.toList) (tr:=tr) (bF:=bF) (L:=fun i=>L.getD i false) (n:=ops.size) (i:=i) (by omega) hin hLf (fun j hj hij hLj=>by
        obtain ⟨p,_,hp,w7,_⟩:=h.at_ hj
        have hb:Er ops j i=false:=by
          cases hb:Er ops j i with
          |true=>exact absurd (vD hb) (YO j hLj)
          |false=>rfl
        have hbi:Er ops i j=false:=by
          cases hb:Er ops i j with
          | true=>
            exfalso
            have:=h.Yd (vD hb)
            omega
          |false=>rfl
        obtain ⟨_,alr,alp,hpj⟩:=h.one hj hp
        have hp1:=hpj i o hij ho hb
        refine ⟨fun d hd DA=> ?_,fun m Fe hm2=>hp1.2.2.1 m hm2 Fe,fun m h1 h2=> ?_,fun m h1 h2=> ?_,fun m h1 h2=> ?_⟩
        · have e1:o.dst=some d:=by simpa [HK,hol] using hd
          have e2:p.dst=some d:=by simpa [HK,w7] using DA
          exact (hp1.2.2.2.1 d e1).1 e2
        · have:=h.tx hin hj h1 h2;omega
        · rcases htm m (hwt m h1) j hj h2 with e|e
          · omega
          · rw [hbi] at e;cases e
        · rcases alp m (alr m h1) i hin h2 with e|e
          · omega
          · rw [hb] at e;cases e) (kj bF)
    have e1:(fun j=>(L.setIfInBounds i true).getD j false)=(fun j=>L.getD j false||j==i):=funext HS
    rw [e1,HN]
    have e2:gg N ops.toList tr bF i (part N ops.toList tr bF (fun i=>L.getD i false) (List.range ops.size) (kj bF))=H6 N o (A1 ops.toList tr bF i).heap.length r (part N ops.toList tr bF (fun i=>L.getD i false) (List.range ops.size) (kj bF)):=by
      conv=>lhs;unfold gg
      rw [hol,htr]
    rw [e2];exact hR'
theorem Yg (h:Good P X ops bF tr el) {L:Array Bool} {a:Act} {w:World} (hI:abM aq W df ops tr bF L a w) (hr:Region.ready .any ops L= []): ∀i,i<ops.size->L.getD i false=true:=by
 obtain ⟨hL,hdc,ρ,hR⟩:=hI
 intro i
 induction i using Nat.strongRecOn with
 |_ i ih=>
  intro hi
  cases hLi:L.getD i false with
  |true=>rfl
  |false=>
   exfalso
   obtain ⟨o,r,ho,hol,_⟩:=h.at_ hi
   have:i∈Region.ready .any ops L:=by
    simp only [Region.ready,List.mem_filter,List.mem_range,Bool.and_eq_true,Bool.not_eq_true']
    refine ⟨hi,?_,?_⟩
    ·rw [Array.getD_eq_getD_getElem?,Array.getElem?_eq_getElem (by omega)] at hLi ⊢
     simpa using hLi
    ·rw [ho]
     simp only [Option.map_some,Option.getD_some]
     refine Array.all_eq_true_iff_forall_mem.2 fun e he=> ?_
     cases hb:Region.binds .any e with
     |false=>simp
     |true=>
      have hmem:e.on∈direct o:=List.mem_map.2 ⟨e,List.mem_filter.2 ⟨Array.mem_toList_iff.2 he,hb⟩,rfl⟩
      have hlt:=(h.one hi ho).1 _ hmem
      simp [ih e.on hlt (by omega)]
   rw [hr] at this;cases this
theorem Oy (hm:P.follows .mixedOrders=true) (hX:ru aq W X) (h:Good P X ops bF tr el) (ro:Option Nat) (n id:Nat) {Q:Exit->Act->World->Prop} {ρ:Env} {a:Act} {w:World} (aR:lV aq W df bF ρ a w)
  (hQ: ∀ρ' a' w',lV aq W df (A1 ops.toList tr bF ops.size) ρ' a' w'->Q .normal a' w'):(Code.region id ops true).wpIn (fw ro) n P Q a w:=by
 refine wpIn_region_any hm ?_
 let N:=bF.tmps.length
 let Inv:=abM aq W df ops tr bF
 have hsz:ops.toList.length=ops.size:=by simp
 have hstep: ∀L a w i,Inv L a w->i∈Region.ready .any ops L->wpOpIn (fw ro) n P ops Q i (fun a' w'=>Inv (L.setIfInBounds i true) a' w') a w/\ i<ops.size/\ L[i]? =some false:=fun L a w i hI hi=>
  ⟨(Bb hX h ro n Q L a w i hI hi).1,(Bb hX h ro n Q L a w i hI hi).2.1,(Bb hX h ro n Q L a w i hI hi).2.2.1⟩
 have hend: ∀L a w,Inv L a w->Region.ready .any ops L= []->Q .normal a w:=by
  intro L a w hI hr
  have hall:=Yg h hI hr
  obtain ⟨hL,hdc,ρ,hR⟩:=hI
  have e:part N ops.toList tr bF (fun i=>L.getD i false) (List.range ops.size) (kj bF)=kj (A1 ops.toList tr bF ops.size):=by
   rw [<- h.text ops.size (Nat.le_refl _)]
   refine FS.ext' (fun t=>RE _ _ _ rfl fun i hi _=>by rw [hall i (List.mem_range.1 hi)]) (fun m=>RD _ _ _ rfl fun i hi _=>by rw [hall i (List.mem_range.1 hi)]) (fun m=> ?_)
   rw [DQ _ _ (fun j hj=>by rw [hsz];exact List.mem_range.1 hj),DQ _ _ (fun j hj=>by rw [hsz];exact List.mem_range.1 hj)]
   constructor
   ·rintro (h1|⟨i,hi,_,hc⟩)
    ·exact .inl h1
    ·exact .inr ⟨i,hi,rfl,hc⟩
   ·rintro (h1|⟨i,hi,_,hc⟩)
    ·exact .inl h1
    ·exact .inr ⟨i,hi,hall i (List.mem_range.1 hi),hc⟩
  rw [e] at hR
  exact hQ ρ a w (adP hR (h.ag0 ops.size (Nat.le_refl _)))
 have main: ∀fuel L a w,L.toList.countP (!·)<=fuel->Inv L a w->wpAnyIn (fw ro) n P .any ops Q fuel L a w:=by
  intro fuel
  induction fuel with
  |zero=>
   intro L a w hc hI
   have hr:Region.ready .any ops L= []:=by
    rcases hq:Region.ready .any ops L with _|⟨i,r⟩
    ·rfl
    ·exfalso
     obtain ⟨_,_,hf⟩:=hstep L a w i hI (by rw [hq];simp)
     have:=count_set L.toList i (by simpa using hf)
     omega
   exact ⟨hr,hend L a w hI hr⟩
  |succ fuel ih=>
   intro L a w hc hI
   refine ⟨hend L a w hI,fun i hi=> ?_⟩
   obtain ⟨h1,_,hf⟩:=hstep L a w i hI hi
   refine wpOpIn_mono (fun a' w' hI'=>ih _ a' w' ?_ hI') h1
   have:=count_set L.toList i (by simpa using hf)
   rw [Array.toList_setIfInBounds];omega
 refine main _ _ _ _ (by have:=List.countP_le_length (p:=(!·)) (l:=(Array.replicate ops.size false).toList);simpa using this) ⟨by simp,fun i o hi=> ?_,ρ,?_⟩
 ·rw [Array.getD_eq_getD_getElem?,Array.getElem?_replicate] at hi
  split at hi<;>simp at hi
 ·have e:part N ops.toList tr bF (fun i=>(Array.replicate ops.size false).getD i false) (List.range ops.size) (kj bF)=kj bF:=by
   have:(fun i=>(Array.replicate ops.size false).getD i false)=fun _=>false:=by
    funext i;rw [Array.getD_eq_getD_getElem?,Array.getElem?_replicate];split<;>rfl
   rw [this]
   generalize List.range ops.size=is
   induction is with
   |nil=>rfl
   |cons j r ih=>exact ih
  rw [e]
  exact adO (aR.drawn _ (by first|exact Nat.le_succ _|exact Nat.le_add_right _ _|omega))
theorem SR (hT:aK P ctx.tt) (hS:af P ctx.specs) (hm:P.follows .mixedOrders=true) (hX:ru aq W ctx.X) (ro:Option Nat) (n id:Nat) (ops:Array Oper) (st:AS) (K:AS->Prop) (h:lP ctx ops true st K):
  ∀ρ a w,lV aq W df st ρ a w->(Code.region id ops true).wpIn (fw ro) n P (fun e a w=> ∃st ρ,(e= .normal/\ K st)/\ lV aq W df st ρ a w) a w:=by
 intro ρ a w aR
 have h:nj {ctx with ys:= [],its:= []} ops ops.toList [] st [] fun st' lg=>if wh ops lg then K st' else if wh ops (ach st.heap lg) then K st' else False:=h
 obtain ⟨tr,h1,h2,h3⟩:=x5 (ctx:= {ctx with ys:= [],its:= []}) hT ⟨hS,rfl,rfl⟩ ops _ _ _ _ _ h
 simp only [List.nil_append] at h3
 have fin: ∀el,Good P ctx.X ops st tr el->K (pY ops.toList st tr)->(Code.region id ops true).wpIn (fw ro) n P (fun e a w=> ∃st ρ,(e= .normal/\ K st)/\ lV aq W df st ρ a w) a w:=fun el hg h3=>by
  refine Oy hm hX hg ro n id aR fun ρ' a' w' c9=> ?_
  have e:A1 ops.toList tr st ops.size=pY ops.toList st tr:=by
   unfold A1
   rw [List.take_of_length_le (by simp),List.take_of_length_le (by rw [h1];simp)]
  rw [e] at c9
  exact ⟨_,ρ',⟨rfl,h3⟩,c9⟩
 split at h3
 ·rename_i HU
  exact fin _ ⟨by simpa using h1,h2,FM HU,.inl rfl⟩ h3
 ·split at h3
  ·rename_i HU
   exact fin _ ⟨by simpa using h1,h2,FM HU,.inr rfl⟩ h3
  ·exact h3.elim
end
end Go.Ev
