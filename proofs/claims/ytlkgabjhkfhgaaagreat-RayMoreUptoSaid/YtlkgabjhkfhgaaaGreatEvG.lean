/- A region that draws its order: whatever order the edges allow comes to what the text's order comes to. -/
import Derived.Test.YtlkgabjhkfhgaaaGreatEvF
noncomputable section
set_option linter.unusedSectionVars false
set_option linter.unusedVariables false
set_option linter.unusedSimpArgs false
namespace Go.Ev
open Go.RowKit
def kC (all:Array Oper) (o:Oper) (st:AS) (b:Bool):Prop:=match o.guard with
 |none=>b=true
 |some (j,want)=> ∃d,yE all j=some d/\ ((∃x,dD st.tmps d=bC x/\ (x==want)=b)\/ (dD st.tmps d= .oG []/\ b=false))
def lH (o:Oper) (st:AS):Option Rec->AS
 |some r=>st.app o.dst r
 |none=> {st with tmps:=iD st.tmps o.dst qo}
def BH (o:Oper) (st:AS):Option Rec->fR
 |some r=>EC o.op (eO st.tmps) st.heap.length r
 |none=>kM st.heap.length
def n9:List Oper->AS->List (Option Rec)->AS
 |o::l,st,r::tr=>n9 l (lH o st r) tr
 |_,st,_=>st
def lz:List Oper->AS->List (Option Rec)->List fR
 |o::l,st,r::tr=>BH o st r::lz l (lH o st r) tr
 |_,_,_=> []
section
variable {P:Program} {ctx:Ctx}
def LH (P:Program) (X:Addr->Value->Prop) (all:Array Oper) (o:Oper) (st:AS):Option Rec->Prop
 | some r=>kC all o st true/\ (∀x∈o.op.operands,eO st.tmps x≠ .dead)/\ bQ P X o (eO st.tmps) (aj st.heap) st.heap.length r/\
   ∀n q,dL o.op (eO st.tmps) r.val=some (n,q)-> ∀Γ:HP,q.hit (Γ n)=true->bQ P X o (eO st.tmps) Γ st.heap.length r
 |none=>kC all o st false
def xG (P:Program) (X:Addr->Value->Prop) (all:Array Oper):List Oper->AS->List (Option Rec)->Prop
 |o::l,st,r::tr=>LH P X all o st r/\ xG P X all l (lH o st r) tr
 |_,_,_=>True
theorem RN {o:Oper} {ev:Operand->AV} {hp:HP} {nm:Nat} {k:Rec->Prop} (hT:aO P ctx.tt) (hS:FJ P ctx) (h:Ah ctx o.op ev hp nm k):
  ∃r,bQ P ctx.X o ev hp nm r/\ k r/\ ∀n q,dL o.op ev r.val=some (n,q)-> ∀Γ:HP,q.hit (Γ n)=true->bQ P ctx.X o ev Γ nm r:=by
 have plain:(∀v,dL o.op ev v=none)-> ∃r,bQ P ctx.X o ev hp nm r/\ k r/\ ∀n q,dL o.op ev r.val=some (n,q)-> ∀Γ:HP,q.hit (Γ n)=true->bQ P ctx.X o ev Γ nm r:=fun hn=>by
  obtain ⟨r,h1,h2⟩:=GD hT hS h
  exact ⟨r,h1,h2,fun n q hq=>by rw [hn] at hq;cases hq⟩
 have at_: ∀(r:Rec) (Γ:HP),Ah ctx o.op ev Γ nm (fun r'=>r'=r)->bQ P ctx.X o ev Γ nm r:=fun r Γ h=>by
  obtain ⟨r',h1,rfl⟩:=GD hT hS h
  exact h1
 have FV: ∀ {q:Aw} {x:Option aF},q.hit x=true-> ∃cs e,x=some (.cells cs e)/\ ∀off m,q= .full off m->cs[off]? =some (.full m):=fun {q x} hq=>by
  unfold Aw.hit at hq
  split at hq
  ·exact ⟨_,_,rfl,fun _ _ e=>by cases e⟩
  ·split at hq
   ·rename_i hc
    refine ⟨_,_,rfl,fun off m e=> ?_⟩
    cases e
    rw [hc,Nat.eq_of_beq_eq_true hq]
   ·cases hq
  ·cases hq
 suffices H: ∀op,o.op=op-> ∃r,bQ P ctx.X o ev hp nm r/\ k r/\ ∀n q,dL o.op ev r.val=some (n,q)-> ∀Γ:HP,q.hit (Γ n)=true->bQ P ctx.X o ev Γ nm r from H _ rfl
 intro op hop
 cases op with
 |load t x=>
  cases nj:ev x with
  |v a=>cases a with
   |one c=>cases c with
    |ptr n off=>
     rw [hop] at h
     simp only [Ah,nj] at h
     split at h
     rotate_left
     ·exact h.elim
     rename_i i hi
     simp only [nK] at h
     split at h
     rotate_left
     ·exact h.elim
     rename_i cs e hn
     unfold vN at h
     split at h
     ·rename_i ha
      split at h
      ·rename_i hl
       refine ⟨_,at_ _ hp ?_,h,fun n' q hq=> ?_⟩
       ·rw [hop];simp only [Ah,nj,hi,Bool.false_eq_true,if_false,nK,hn,vN,ha,if_true,hl]
       ·simp only [hop,dL,nj] at hq;cases hq
      ·exact h.elim
     ·rename_i ha
      split at h
      rotate_left
      ·exact h.elim
      rename_i c hc
      refine ⟨_,at_ _ hp ?_,h,fun n' q hq Γ hh=> ?_⟩
      ·rw [hop];simp only [Ah,nj,hi,Bool.false_eq_true,if_false,nK,hn,vN,ha,hc]
      ·simp only [hop,dL,nj] at hq
       split at hq
       ·rename_i X6 G8
        cases X6
        cases G8
        cases hq
        obtain ⟨cs',e',g1,g2⟩:=FV hh
        refine at_ _ Γ ?_
        rw [hop];simp only [Ah,nj,hi,Bool.false_eq_true,if_false,nK,g1,vN,ha,g2 _ _ rfl]
       ·cases hq
    |_=>exact plain fun v=>by simp only [hop,dL,nj]
   |agg cs=>exact plain fun v=>by simp only [hop,dL,nj]
  |_=>exact plain fun v=>by simp only [hop,dL,nj]
 |fieldAddr t x f=>
  cases nj:ev x with
  |v a=>cases a with
   |one c=>cases c with
    |ptr n off=>
     rw [hop] at h
     simp only [Ah,nj] at h
     split at h
     rotate_left
     ·exact h.elim
     rename_i i hi
     unfold j9 at h
     split at h
     rotate_left
     ·exact h.elim
     rename_i fs hf
     split at h
     rotate_left
     ·exact h.elim
     rename_i fd Te
     split at h
     rotate_left
     ·exact h.elim
     rename_i fi Gf
     split at h
     ·exact h.elim
     rename_i hz
     simp only [dw] at h
     split at h
     rotate_left
     ·exact h.elim
     rename_i cs e hn
     refine ⟨_,at_ _ hp ?_,h,fun n' q hq Γ hh=> ?_⟩
     ·rw [hop];simp only [Ah,nj,hi,j9,hf,Te,Gf,hz,if_false,dw,hn]
     ·simp only [hop,dL,nj,Option.some.injEq,Prod.mk.injEq] at hq
      obtain ⟨rfl,rfl⟩:=hq
      obtain ⟨cs',e',g1,_⟩:=FV hh
      refine at_ _ Γ ?_
      rw [hop];simp only [Ah,nj,hi,j9,hf,Te,Gf,hz,if_false,dw,g1]
    |_=>exact plain fun v=>by simp only [hop,dL,nj]
   |agg cs=>exact plain fun v=>by simp only [hop,dL,nj]
  |_=>exact plain fun v=>by simp only [hop,dL,nj]
 |nilCheck x=>
  cases nj:ev x with
  |v a=>cases a with
   |one c=>cases c with
    |ptr n off=>
     rw [hop] at h
     simp only [Ah,nj,dw] at h
     split at h
     rotate_left
     ·exact h.elim
     rename_i cs e hn
     refine ⟨_,at_ _ hp ?_,h,fun n' q hq Γ hh=> ?_⟩
     ·rw [hop];simp only [Ah,nj,dw,hn]
     ·simp only [hop,dL,nj,Option.some.injEq,Prod.mk.injEq] at hq
      obtain ⟨rfl,rfl⟩:=hq
      obtain ⟨cs',e',g1,_⟩:=FV hh
      refine at_ _ Γ ?_
      rw [hop];simp only [Ah,nj,dw,g1]
    |_=>exact plain fun v=>by simp only [hop,dL,nj]
   |agg cs=>exact plain fun v=>by simp only [hop,dL,nj]
  |_=>exact plain fun v=>by simp only [hop,dL,nj]
 |_=>exact plain fun v=>by simp only [hop,dL]
theorem uE (hT:aO P ctx.tt) (hS:FJ P ctx) (all:Array Oper): ∀(l:List Oper) (dec:List Nat) (st:AS) (lg:List fR) (K:AS->List fR->Prop),mT ctx all l dec st lg K->
  ∃tr:List (Option Rec),tr.length=l.length/\ xG P ctx.X all l st tr/\ K (n9 l st tr) (lg++lz l st tr)
 | [],dec,st,lg,K,h=>⟨[],rfl,trivial,by have h:K st lg:=h;simpa [n9,lz] using h⟩
 |o::rest,dec,st,lg,K,h=>by
  have exec: ∀AQ,kC all o st true->oZ ctx o.op st (fun r=>mT ctx all rest AQ (st.app o.dst r) (lg++ [EC o.op (eO st.tmps) st.heap.length r]) K)->
    ∃tr:List (Option Rec),tr.length=(o::rest).length/\ xG P ctx.X all (o::rest) st tr/\ K (n9 (o::rest) st tr) (lg++lz (o::rest) st tr):=by
   intro AQ hg h
   obtain ⟨ke,h⟩:=CZ h
   obtain ⟨r,hl,hk,hlk⟩:=RN hT hS h
   obtain ⟨tr,h1,h2,h3⟩:=uE hT hS all rest AQ _ _ K hk
   exact ⟨some r::tr,by simp [h1],⟨⟨hg,ke,hl,hlk⟩,h2⟩,by simpa [n9,lz,lH,BH] using h3⟩
  have skip: ∀AQ,kC all o st false->mT ctx all rest AQ {st with tmps:=iD st.tmps o.dst qo} (lg++ [kM st.heap.length]) K->
    ∃tr:List (Option Rec),tr.length=(o::rest).length/\ xG P ctx.X all (o::rest) st tr/\ K (n9 (o::rest) st tr) (lg++lz (o::rest) st tr):=by
   intro AQ hg h
   obtain ⟨tr,h1,h2,h3⟩:=uE hT hS all rest AQ _ _ K h
   exact ⟨none::tr,by simp [h1],⟨hg,h2⟩,by simpa [n9,lz,lH,BH] using h3⟩
  unfold mT at h
  split at h
  ·rename_i hg
   exact exec dec (by simp [kC,hg]) h
  ·rename_i j want hg
   split at h
   ·rename_i d hd
    split at h
    ·rename_i x hx
     have G: ∀b,(x==want)=b->kC all o st b:=fun b hb=>by simp only [kC,hg];exact ⟨d,hd,.inl ⟨x,hx,hb⟩⟩
     split at h
     ·split at h
      ·rename_i e;exact exec dec (G true (by simp [e])) h
      ·rename_i e;exact skip dec (G false (by simpa using e)) h
     ·cases want with
      |true=>
       dsimp only at h
       cases x with
       |true=>
        have h:oZ ctx o.op {st with tmps:=st.tmps.set d (bC true)} _:=h
        rw [lG hx] at h
        exact exec _ (G true rfl) h
       |false=>
        have h:mT ctx all rest (d::dec) {st with tmps:=iD (st.tmps.set d (bC false)) o.dst qo} (lg++ [kM st.heap.length]) K:=h
        rw [lG hx] at h
        exact skip _ (G false rfl) h
      |false=>
       dsimp only at h
       cases x with
       |false=>
        have h:oZ ctx o.op {st with tmps:=st.tmps.set d (bC false)} _:=h
        rw [lG hx] at h
        exact exec _ (G true rfl) h
       |true=>
        have h:mT ctx all rest (d::dec) {st with tmps:=iD (st.tmps.set d (bC true)) o.dst qo} (lg++ [kM st.heap.length]) K:=h
        rw [lG hx] at h
        exact skip _ (G false rfl) h
    ·rename_i hx
     exact skip dec (by simp only [kC,hg];exact ⟨d,hd,.inr ⟨hx,trivial⟩⟩) h
    ·exact h.elim
   ·exact h.elim
theorem JI {X:Addr->Value->Prop} {all:Array Oper} : ∀(l:List Oper) (st:AS) (tr:List (Option Rec)) (i:Nat) (o:Oper) (r:Option Rec),xG P X all l st tr->l[i]? =some o->tr[i]? =some r->
  LH P X all o (n9 (l.take i) st (tr.take i)) r/\ n9 (l.take (i+1)) st (tr.take (i+1))=lH o (n9 (l.take i) st (tr.take i)) r/\
  (lz l st tr)[i]? =some (BH o (n9 (l.take i) st (tr.take i)) r)
 |o'::l,st,r'::tr,0,o,r,h,ho,hr=>by
  simp at ho hr;subst ho;subst hr
  exact ⟨by simpa [n9] using h.1,by simp [n9],by simp [lz,n9]⟩
 |o'::l,st,r'::tr,i+1,o,r,h,ho,hr=>by
  have:=JI l (lH o' st r') tr i o r h.2 (by simpa using ho) (by simpa using hr)
  simpa [n9,lz] using this
 | [],_,_,_,_,_,_,ho,_=>by simp at ho
 |_::_,_,[],_,_,_,_,_,hr=>by simp at hr
end
inductive Ng (ops:List Oper):Nat->Nat->Prop
 |edge {i j:Nat} {o:Oper} :ops[i]? =some o->j∈direct o->Ng ops i j
 |trans {i j k:Nat} {o:Oper} :ops[i]? =some o->k∈direct o->Ng ops k j->Ng ops i j
theorem H7 (acc:List Nat): ∀(ds:List Nat) (s j:Nat),(ds.foldl (fun s j=>s|||(2^j|||acc.getD j 0)) s).testBit j=true->s.testBit j=true\/ ∃k∈ds,j=k\/ (acc.getD k 0).testBit j=true
 | [],s,j,h=> .inl h
 |d::r,s,j,h=>by
  rcases H7 acc r _ j h with h1|⟨k,hk,h1⟩
  ·rw [Nat.testBit_or,Nat.testBit_or,Bool.or_eq_true,Bool.or_eq_true] at h1
   rcases h1 with h1|h1|h1
   ·exact .inl h1
   ·rw [Nat.testBit_two_pow] at h1
    exact .inr ⟨d,by simp,.inl (by simpa using (of_decide_eq_true h1).symm)⟩
   ·exact .inr ⟨d,by simp,.inr h1⟩
  ·exact .inr ⟨k,by simp [hk],h1⟩
theorem BK (ops:List Oper): ∀(l pre:List Oper) (acc:List Nat),ops=pre++l->acc.length=pre.length->(∀i j,(acc.getD i 0).testBit j=true->Ng ops i j)->
  ∀i j,((nN l acc).getD i 0).testBit j=true->Ng ops i j
 | [],pre,acc,_,_,h,i,j,hb=>h i j hb
 |o::l,pre,acc,he,hl,h,i,j,hb=>by
  refine BK ops l (pre++ [o]) _ (by simp [he]) (by simp [hl]) (fun i j hb=> ?_) i j hb
  simp only [List.getD,List.getElem?_append] at hb
  split at hb
  ·exact h i j hb
  ·rename_i hi
   by_cases e:i=pre.length
   ·subst e
    rw [hl,Nat.sub_self] at hb
    simp only [List.getElem?_cons_zero,Option.getD_some] at hb
    have ho:ops[pre.length]? =some o:=by rw [he];simp
    rcases H7 acc _ _ _ hb with h1|⟨k,hk,h1⟩
    ·simp at h1
    ·rcases h1 with rfl|h1
     ·exact .edge ho hk
     ·exact .trans ho hk (h k j h1)
   ·rw [List.getElem?_eq_none (by simp;omega)] at hb
    simp at hb
structure FS where
 T:Nat->AV
 G:HP
 Kn:Nat->Prop
theorem FS.ext' {a b:FS} (h1: ∀t,a.T t=b.T t) (h2: ∀m,a.G m=b.G m) (h3: ∀m,a.Kn m↔b.Kn m):a=b:=by
 obtain ⟨T,G,K⟩:=a
 obtain ⟨T',G',K'⟩:=b
 have e1:T=T':=funext h1
 have e2:G=G':=funext h2
 have e3:K=K':=funext fun m=>propext (h3 m)
 rw [e1,e2,e3]
def jv (st:AS):FS:=⟨dD st.tmps,aj st.heap,(· <st.heap.length)⟩
def DG (N:Nat) (o:Oper) (nm:Nat):Option Rec->FS->FS
 |some r,s=>⟨fun t=>if o.dst=some t/\ t<N then r.val else s.T t,bX r nm s.G,lK s.Kn nm r⟩
 |none,s=>⟨fun t=>if o.dst=some t/\ t<N then qo else s.T t,s.G,s.Kn⟩
theorem Rk (d t N:Nat) (v w:AV):(if d=t/\ t<N then v else w)=if t=d/\ d<N then v else w:=by
 by_cases e:d=t
 ·subst e;simp
 ·rw [if_neg (fun h=>e h.1),if_neg (fun h=>e h.1.symm)]
theorem RP {N:Nat} {o:Oper} {st:AS} (hN:st.tmps.length=N): ∀(r:Option Rec),(∀q,r=some q-> ∀p∈q.writes,aj st.heap p.1≠none)->DG N o st.heap.length r (jv st)=jv (lH o st r)
 |some r,h=>by
  refine FS.ext' (fun t=> ?_) (fun m=> ?_) (fun m=> ?_)
  ·simp only [DG,jv,lH,AS.app,jd]
   cases o.dst with
   |none=>simp
   |some d=>simp only [Option.some.injEq,hN];exact Rk d t N _ _
  ·simp only [DG,jv,lH];rw [Ht st o.dst r (h r rfl)]
  ·simp only [DG,jv,lH,lK,lO];omega
 |none,h=>by
  refine FS.ext' (fun t=> ?_) (fun m=>rfl) (fun m=>Iff.rfl)
  simp only [DG,jv,lH,jd]
  cases o.dst with
  |none=>simp
  |some d=>simp only [Option.some.injEq,hN];exact Rk d t N _ _
def covers (nm:Nat) (r:Option Rec) (m:Nat):Prop:=match r with
 |some r=>nm<=m/\ m<nm+r.fresh.length
 |none=>False
def qC:Option Rec->List Nat
 |some r=>r.writes.map (·.1)
 |none=> []
def Am:Option Rec->List Nat
 |some r=>r.aD
 |none=> []
theorem KP {ws:List (Nat×aF)} {m:Nat} (h:m∉ws.map (·.1)):cg ws m=none:=by
 induction ws with
 |nil=>rfl
 |cons p r ih=>
  simp only [List.map_cons,List.mem_cons,not_or] at h
  simp only [cg,ih h.2]
  rw [if_neg (fun e=>h.1 e.symm)]
theorem Zy {N nm:Nat} {o:Oper} {r:Option Rec} {s s':FS} {m:Nat} (h:s.G m=s'.G m):(DG N o nm r s).G m=(DG N o nm r s').G m:=by
 cases r with
 |none=>exact h
 |some r=>simp only [DG,bX,h]
theorem OS {N nm:Nat} {o:Oper} {r:Option Rec} {s:FS} {m:Nat} (h1: ¬covers nm r m) (h2:m∉qC r):(DG N o nm r s).G m=s.G m:=by
 cases r with
 |none=>rfl
 |some r=>
  have h1: ¬(nm<=m/\ m<nm+r.fresh.length):=h1
  have h2:m∉r.writes.map (·.1):=h2
  simp only [DG,bX];rw [if_neg h1,KP h2]
section
variable (N:Nat) (ops:List Oper) (tr:List (Option Rec)) (bG:AS)
def xF (i:Nat):AS:=n9 (ops.take i) bG (tr.take i)
def xj (i:Nat) (s:FS):FS:=match ops[i]?,tr[i]? with
 |some o,some r=>DG N o (xF ops tr bG i).heap.length r s
 |_,_=>s
def part (L:Nat->Bool) (is:List Nat) (s:FS):FS:=is.foldl (fun s i=>if L i then xj N ops tr bG i s else s) s
def Dt (i:Nat):Option Nat:=(ops[i]?).bind (·.dst)
def dW (i:Nat):Option Rec:=(tr[i]?).join
def x3 (i:Nat):Nat:=(xF ops tr bG i).heap.length
end
section
variable {N:Nat} {ops:List Oper} {tr:List (Option Rec)} {bG:AS}
theorem SJ {i t:Nat} {s s':FS} (h:s.T t=s'.T t):(xj N ops tr bG i s).T t=(xj N ops tr bG i s').T t:=by
 unfold xj;split
 ·rename_i o r _ _
  cases r<;>simp only [DG,h]
 ·exact h
theorem oY {i t:Nat} {s:FS} (h:Dt ops i≠some t):(xj N ops tr bG i s).T t=s.T t:=by
 unfold xj;split
 ·rename_i o r ho _
  have:o.dst≠some t:=by simpa [Dt,ho] using h
  cases r<;>simp only [DG]<;>rw [if_neg (fun e=>this e.1)]
 ·rfl
theorem SI {i m:Nat} {s s':FS} (h:s.G m=s'.G m):(xj N ops tr bG i s).G m=(xj N ops tr bG i s').G m:=by
 unfold xj;split
 ·exact Zy h
 ·exact h
theorem oX {i m:Nat} {s:FS} (h1: ¬covers (x3 ops tr bG i) (dW tr i) m) (h2:m∉qC (dW tr i)):(xj N ops tr bG i s).G m=s.G m:=by
 unfold xj;split
 ·rename_i o r _ hr
  have e:dW tr i=r:=by simp [dW,hr]
  rw [e] at h1 h2
  exact OS h1 h2
 ·rfl
theorem CY {i m:Nat} {s:FS} (hi:i<ops.length):(xj N ops tr bG i s).Kn m↔s.Kn m\/ covers (x3 ops tr bG i) (dW tr i) m:=by
 unfold xj;split
 ·rename_i o r _ hr
  have e:dW tr i=r:=by simp [dW,hr]
  rw [e]
  cases r with
  |none=>simp [DG,covers]
  |some r=>exact Iff.rfl
 ·rename_i hh
  have:tr[i]? =none:=by
   cases hr:tr[i]? with
   |none=>rfl
   |some r=>exact (hh _ r (List.getElem?_eq_getElem hi) hr).elim
  simp [dW,this,covers]
theorem K9 {L L':Nat->Bool} {t:Nat} : ∀(is:List Nat) (s s':FS),s.T t=s'.T t->(∀i∈is,Dt ops i=some t->L i=L' i)->(part N ops tr bG L is s).T t=(part N ops tr bG L' is s').T t
 | [],s,s',h,_=>h
 |i::r,s,s',h,hl=>by
  refine K9 r _ _ ?_ (fun j hj=>hl j (by simp [hj]))
  by_cases e:Dt ops i=some t
  ·dsimp only
   rw [hl i (by simp) e]
   split
   ·exact SJ h
   ·exact h
  ·have h1: ∀(b:Bool) (s:FS),(if b then xj N ops tr bG i s else s).T t=s.T t:=fun b s=>by
    cases b
    ·rfl
    ·exact oY e
   rw [h1,h1];exact h
theorem K8 {L L':Nat->Bool} {m:Nat} : ∀(is:List Nat) (s s':FS),s.G m=s'.G m->(∀i∈is,(covers (x3 ops tr bG i) (dW tr i) m\/ m∈qC (dW tr i))->L i=L' i)->(part N ops tr bG L is s).G m=(part N ops tr bG L' is s').G m
 | [],s,s',h,_=>h
 |i::r,s,s',h,hl=>by
  refine K8 r _ _ ?_ (fun j hj=>hl j (by simp [hj]))
  by_cases e:covers (x3 ops tr bG i) (dW tr i) m\/ m∈qC (dW tr i)
  ·dsimp only
   rw [hl i (by simp) e]
   split
   ·exact SI h
   ·exact h
  ·have h1: ∀(b:Bool) (s:FS),(if b then xj N ops tr bG i s else s).G m=s.G m:=fun b s=>by
    cases b
    ·rfl
    ·exact oX (fun c=>e (.inl c)) (fun c=>e (.inr c))
   rw [h1,h1];exact h
theorem Ai {L:Nat->Bool} {m:Nat} : ∀(is:List Nat) (s:FS),(∀i∈is,i<ops.length)->((part N ops tr bG L is s).Kn m↔s.Kn m\/ ∃i∈is,L i=true/\ covers (x3 ops tr bG i) (dW tr i) m)
 | [],s,_=>by simp [part]
 |i::r,s,hi=>by
  show (part N ops tr bG L r _).Kn m↔_
  rw [Ai r _ (fun j hj=>hi j (by simp [hj]))]
  dsimp only
  by_cases e:L i=true
  ·rw [if_pos e,CY (hi i (by simp))]
   constructor
   ·rintro ((h|h)|⟨j,hj,h⟩)
    ·exact .inl h
    ·exact .inr ⟨i,by simp,e,h⟩
    ·exact .inr ⟨j,by simp [hj],h⟩
   ·rintro (h|⟨j,hj,h⟩)
    ·exact .inl (.inl h)
    ·rcases List.mem_cons.1 hj with rfl|hj
     ·exact .inl (.inr h.2)
     ·exact .inr ⟨j,hj,h⟩
  ·rw [if_neg e]
   constructor
   ·rintro (h|⟨j,hj,h⟩)
    ·exact .inl h
    ·exact .inr ⟨j,by simp [hj],h⟩
   ·rintro (h|⟨j,hj,h⟩)
    ·exact .inl h
    ·rcases List.mem_cons.1 hj with rfl|hj
     ·exact absurd h.1 e
     ·exact .inr ⟨j,hj,h⟩
structure Pz (ops:List Oper) (tr:List (Option Rec)) (bG:AS) (i j:Nat):Prop where
 dst: ∀d,Dt ops i=some d->Dt ops j≠some d
 wr: ∀m,m∈qC (dW tr i)->m∉qC (dW tr j)
 fr: ∀m,covers (x3 ops tr bG i) (dW tr i) m-> ¬covers (x3 ops tr bG j) (dW tr j) m
 wf: ∀m,m∈qC (dW tr i)-> ¬covers (x3 ops tr bG j) (dW tr j) m
 fw: ∀m,m∈qC (dW tr j)-> ¬covers (x3 ops tr bG i) (dW tr i) m
theorem SK {i j:Nat} (h:Pz ops tr bG i j) (hi:i<ops.length) (hj:j<ops.length) (s:FS):xj N ops tr bG j (xj N ops tr bG i s)=xj N ops tr bG i (xj N ops tr bG j s):=by
 refine FS.ext' (fun t=> ?_) (fun m=> ?_) (fun m=> ?_)
 ·by_cases e:Dt ops i=some t
  ·rw [oY (h.dst t e)]
   exact SJ (oY (h.dst t e)).symm
  ·rw [oY (i:=i) e]
   exact SJ (oY e)
 ·by_cases e:covers (x3 ops tr bG i) (dW tr i) m∨m∈qC (dW tr i)
  ·have e2: ¬covers (x3 ops tr bG j) (dW tr j) m:=e.elim (h.fr m) (h.wf m)
   have e3:m∉qC (dW tr j):=fun hm=>e.elim (h.fw m hm) (fun hi=>h.wr m hi hm)
   rw [oX e2 e3]
   exact SI (oX e2 e3).symm
  ·have e2: ¬covers (x3 ops tr bG i) (dW tr i) m:=fun c=>e (.inl c)
   have e3:m∉qC (dW tr i):=fun c=>e (.inr c)
   rw [oX (i:=i) e2 e3]
   exact SI (oX e2 e3)
 ·rw [CY hj,CY hi,CY hi,CY hj]
  constructor
  ·rintro ((h|h)|h)
   ·exact .inl (.inl h)
   ·exact .inr h
   ·exact .inl (.inr h)
  ·rintro ((h|h)|h)
   ·exact .inl (.inl h)
   ·exact .inr h
   ·exact .inl (.inr h)
theorem ER {L:Nat->Bool} {i:Nat} (hi:i<ops.length): ∀(is:List Nat) (s:FS),(∀j∈is,j<ops.length)->(∀j∈is,L j=true->Pz ops tr bG i j)->part N ops tr bG L is (xj N ops tr bG i s)=xj N ops tr bG i (part N ops tr bG L is s)
 | [],s,_,_=>rfl
 |j::r,s,hlt,h=>by
  show part N ops tr bG L r _=xj N ops tr bG i (part N ops tr bG L r _)
  rw [<- ER hi r _ (fun k hk=>hlt k (by simp [hk])) (fun k hk=>h k (by simp [hk]))]
  congr 1
  dsimp only
  by_cases e:L j=true
  ·rw [if_pos e,if_pos e,SK (h j (by simp) e) hi (hlt j (by simp))]
  ·rw [if_neg e,if_neg e]
theorem RV {L:Nat->Bool} {n i:Nat} (hn:n<=ops.length) (hi:i<n) (hL:L i=false) (h: ∀j,j<n->i<j->L j=true->Pz ops tr bG i j) (s:FS):
  part N ops tr bG (fun j=>L j||j==i) (List.range n) s=xj N ops tr bG i (part N ops tr bG L (List.range n) s):=by
 have e:List.range n=List.range i++i::List.range' (i+1) (n- (i+1)):=by
  have e1:=List.range'_append_1 (s:=0) (m:=i) (n:=n- (i+1)+1)
  rw [List.range_eq_range',List.range_eq_range',<- List.range'_succ]
  rw [Nat.zero_add] at e1
  rw [e1];congr 1;omega
 have YI: ∀(L:Nat->Bool) (s:FS),part N ops tr bG L (List.range n) s=part N ops tr bG L (List.range' (i+1) (n- (i+1))) (if L i then xj N ops tr bG i (part N ops tr bG L (List.range i) s) else part N ops tr bG L (List.range i) s):=by
  intro L s;rw [e];simp [part,List.foldl_append]
 rw [YI,YI]
 have hsame: ∀(is:List Nat) (s:FS),(∀j∈is,j≠i)->part N ops tr bG (fun j=>L j||j==i) is s=part N ops tr bG L is s:=by
  intro is
  induction is with
  |nil=>intro s _;rfl
  |cons j r ih=>
   intro s hj
   show part N ops tr bG _ r _=part N ops tr bG L r _
   have:(j==i)=false:=by simpa using hj j (by simp)
   simp only [this,Bool.or_false]
   exact ih _ (fun k hk=>hj k (by simp [hk]))
 rw [hsame _ _ (fun j hj=>by have:=List.mem_range'_1.1 hj;omega),hsame _ _ (fun j hj=>by have:=List.mem_range.1 hj;omega)]
 simp only [hL,Bool.false_or,beq_self_eq_true,if_true,Bool.false_eq_true,if_false]
 exact ER (by omega) _ _ (fun j hj=>by have:=List.mem_range'_1.1 hj;omega) (fun j hj hl=>by have:=List.mem_range'_1.1 hj;exact h j (by omega) (by omega) hl)
end
section
variable {P:Program} {ctx:Ctx} {ay:iT} {W:World} {df:List Deferred}
theorem Ng.closed {ops:List Oper} {L:Nat->Prop} (hL: ∀i o,L i->ops[i]? =some o-> ∀j∈direct o,L j) {i j:Nat} (h:Ng ops i j):L i->L j:=by
 induction h with
 |edge ho hj=>intro h;exact hL _ _ h ho _ hj
 |trans ho hk _ ih=>intro h;exact ih (hL _ _ h ho _ hk)
theorem Ng.OP {ops:List Oper} {L:Nat->Prop} (hL: ∀i o,L i->ops[i]? =some o-> ∀j∈direct o,L j) {i j:Nat} {o:Oper} (ho:ops[i]? =some o) (hd: ∀j∈direct o,L j) (h:Ng ops i j):L j:=by
 cases h with
 |edge xE hj=>rw [ho] at xE;cases xE;exact hd _ hj
 |trans xE hk h'=>rw [ho] at xE;cases xE;exact h'.closed hL (hd _ hk)
theorem Pn (o:Oper) (st:AS) (r:Option Rec):(lH o st r).tmps.length=st.tmps.length:=by
 cases r<;>simp [lH,AS.app,ou]
theorem Ls (o:Oper) (st:AS) (r:Option Rec):(lH o st r).heap.length=st.heap.length+(match r with|some r=>r.fresh.length|none=>0):=by
 cases r<;>simp [lH,AS.app,dk]
theorem BM {x:Nat} : ∀ {l:List Nat},zM x l=true↔x∈l
 | []=>by simp [zM]
 |y::r=>by simp [zM,BM (l:=r),Nat.beq_eq]
theorem Gw {x:Nat} {l:List Nat} :zM x l=l.contains x:=by
 rw [Bool.eq_iff_iff,BM];simp
theorem M8: ∀ {a b:List Nat},Vs a b=a.all fun m=>b.contains m
 | [],_=>rfl
 |x::r,b=>by simp only [Vs,List.all_cons,M8 (a:=r),Gw]
theorem LW: ∀ {a b:List Nat},vp a b=D7 a b
 | [],_=>rfl
 |x::r,b=>by
  have:=LW (a:=r) (b:=b)
  unfold D7 at this ⊢
  simp only [vp,List.all_cons,this,Gw]
theorem EE: ∀(l:List Oper) (k:Nat) (acc:List Nat),acc.length=k->(Gt l k acc).reverse=nN l acc.reverse
 | [],k,acc,_=>rfl
 |o::l,k,acc,h=>by
  have h1:=EE l (k+1) ((direct o).foldl (fun s j=>s|||(2^j|||(bif Nat.blt j k then acc.getD (k- 1- j) 0 else 0))) 0::acc) (by simp [h])
  have e:(fun (s j:Nat)=>s|||(2^j|||(bif Nat.blt j k then acc.getD (k- 1- j) 0 else 0)))=fun s j=>s|||(2^j|||acc.reverse.getD j 0):=by
   funext s j
   rcases Nat.lt_or_ge j k with hj|hj
   ·have hb:Nat.blt j k=true:=by simpa [Nat.blt_eq] using hj
    rw [hb,cond_true,List.getD_eq_getElem?_getD,List.getD_eq_getElem?_getD,List.getElem?_reverse (by omega),h]
   ·have hb:Nat.blt j k=false:=by
     rw [Bool.eq_false_iff];simp only [ne_eq,Nat.blt_eq];omega
    rw [hb,cond_false,List.getD_eq_getElem?_getD,List.getElem?_eq_none (by simp;omega)]
    rfl
  rw [Gt,h1,nN,List.reverse_cons,e]
theorem Xm (ops:Array Oper):msF ops=nN ops.toList []:=EE _ 0 [] rfl
theorem EF: ∀(l:List Oper) (acc:List Nat),(nN l acc).length=acc.length+l.length
 | [],acc=>rfl
 |o::l,acc=>by rw [nN,EF l];simp;omega
theorem GC {all:Array Oper} : ∀(l:List Oper) (ms:List Nat) (i:Nat) (o:Oper) (m:Nat),l[i]? =some o->ms[i]? =some m->(oiL all l ms)[i]? =some ⟨o.dst,jC all o,m⟩
 | [],_,i,o,m,h,_=>by simp at h
 |_::_,[],i,o,m,_,h=>by simp at h
 |p::l,q::ms,0,o,m,h,h'=>by
  simp only [List.getElem?_cons_zero,Option.some.injEq] at h h'
  subst h;subst h';rfl
 |p::l,q::ms,i+1,o,m,h,h'=>by
  simp only [List.getElem?_cons_succ] at h h'
  exact GC l ms i o m h h'
theorem xm {o:OI} : ∀(l:List OI) (j k:Nat),xl o l j k=true-> ∀(t:Nat) (p:OI),t<k->l[t]? =some p->o.m.testBit (j+t)=true\/ M7 o p=true
 | [],j,k,_,t,p,_,h=>by simp at h
 |q::l,j,0,_,t,p,ht,_=>by omega
 |q::l,j,k+1,h,t,p,ht,hp=>by
  simp only [xl,Bool.and_eq_true,Bool.or_eq_true] at h
  match t,hp with
  |0,hp=>
   simp only [List.getElem?_cons_zero,Option.some.injEq] at hp
   subst hp
   exact h.1
  |t+1,hp=>
   have:=xm l (j+1) k h.2 t p (by omega) (by simpa using hp)
   rwa [show j+1+t=j+(t+1) by omega] at this
theorem xk {all:List OI} : ∀(l:List OI) (i:Nat),Aj all l i=true-> ∀(t:Nat) (o:OI),l[t]? =some o->xl o all 0 (i+t)=true
 | [],i,_,t,o,h=>by simp at h
 |q::l,i,h,t,o,ho=>by
  simp only [Aj,Bool.and_eq_true] at h
  match t,ho with
  |0,ho=>
   simp only [List.getElem?_cons_zero,Option.some.injEq] at ho
   subst ho
   exact h.1
  |t+1,ho=>
   have:=xk l (i+1) h.2 t o (by simpa using ho)
   rwa [show i+1+t=i+(t+1) by omega] at this
theorem yD: ∀(l:List Oper) (i:Nat),F5 l i=true-> ∀(t:Nat) (o:Oper),l[t]? =some o-> ∀j∈direct o,j<i+t
 | [],i,_,t,o,h=>by simp at h
 |q::l,i,h,t,o,ho=>by
  simp only [F5,Bool.and_eq_true] at h
  match t,ho with
  |0,ho=>
   simp only [List.getElem?_cons_zero,Option.some.injEq] at ho
   subst ho
   intro j hj
   have:=List.all_eq_true.1 h.1 j hj
   rw [Nat.blt_eq] at this
   exact this
  |t+1,ho=>
   intro j hj
   have:=yD l (i+1) h.2 t o (by simpa using ho) j hj
   omega
theorem AX: ∀(lg:List fR) (ms:List Nat) (k i:Nat) (l:fR) (m:Nat),lg[i]? =some l->ms[i]? =some m->(l.aD= []/\ l.wr= [])\/ DI.mk (k+i) m l.aD l.wr∈NI lg ms k
 | [],_,_,i,_,_,h,_=>by simp at h
 |_::_,[],_,i,_,_,_,h=>by simp at h
 |q::lg,n::ms,k,0,l,m,h,h'=>by
  simp only [List.getElem?_cons_zero,Option.some.injEq] at h h'
  subst h;subst h'
  simp only [NI]
  split
  ·exact .inl ⟨by assumption,by assumption⟩
  ·exact .inr (by simp)
 |q::lg,n::ms,k,i+1,l,m,h,h'=>by
  simp only [List.getElem?_cons_succ] at h h'
  have:=AX lg ms (k+1) i l m h h'
  rw [show k+1+i=k+(i+1) by omega] at this
  rcases this with h1|h1
  ·exact .inl h1
  ·refine .inr ?_
   simp only [NI]
   split
   ·exact h1
   ·exact List.mem_cons_of_mem _ h1
theorem ED (x:Nat): ∀(lg:List fR) (k:Nat),Gs x (Zn lg k)=(vP lg x).map (· +k)
 | [],k=>rfl
 |l::lg,k=>by
  have ih:=ED x lg (k+1)
  have e: ∀(b:Bool),(l.nm<=x&&x<l.nm+l.cnt:Bool)=b->vP (l::lg) x=bif b then some 0 else (vP lg x).map (· +1):=fun b hb=>by
   unfold vP
   rw [List.findIdx?_cons]
   simp only [hb]
   cases b<;>rfl
  simp only [Zn]
  split
  ·rename_i hc
   rw [ih,e false (by rw [hc];simp)]
   simp only [cond_false,Option.map_map]
   congr 1
   funext y
   simp only [Function.comp_apply];omega
  ·rename_i c hc
   simp only [Gs]
   have hb:(Nat.ble l.nm x&&Nat.blt x (l.nm+l.cnt))=(l.nm<=x&&x<l.nm+l.cnt:Bool):=by
    rw [Bool.eq_iff_iff];simp [Nat.blt_eq]
   rw [hb,e _ rfl,ih]
   cases (l.nm<=x&&x<l.nm+l.cnt:Bool)
   ·simp only [cond_false,Option.map_map]
    congr 1
    funext y
    simp only [Function.comp_apply];omega
   ·simp
theorem Lr {all:Array Oper} {o p:Oper} {m n:Nat} (h:M7 ⟨o.dst,jC all o,m⟩ ⟨p.dst,jC all p,n⟩=true):
  ((match p.dst with|some d=>o.dst !=some d&& !(jC all o).contains d|none=>true)&&(match o.dst with|some d=> !(jC all p).contains d|none=>true))=true:=by
 simp only [M7,Bool.and_eq_true,Gw] at h ⊢
 refine ⟨?_,?_⟩
 ·have h:=h.1
  cases hp:p.dst with
  |none=>rfl
  |some d=>
   rw [hp] at h
   simp only [Bool.and_eq_true] at h ⊢
   refine ⟨?_,h.2⟩
   have h:=h.1
   cases ho:o.dst with
   |none=>simp
   |some e=>
    rw [ho] at h
    simp only [Bool.not_eq_true',<- Bool.not_eq_true,Nat.beq_eq] at h
    simp [h]
 ·exact h.2
theorem force_eq {α:Type} (n:Nat) (k:Nat->α):force n k=k n:=by cases n<;>rfl
theorem xP {α:Type} : ∀(l:List Nat) (k:List Nat->α),A6 l k=k l
 | [],_=>rfl
 |x::r,k=>by rw [A6,force_eq,xP r]
theorem A5 {α:Type} : ∀(l:List fR) (k:List fR->α),zX l k=k l
 | [],_=>rfl
 |e::r,k=>by rw [zX,force_eq,force_eq,xP,xP,A5 r]
theorem G4: ∀(D:List DI) (o:DI),o∈D->o.w= []\/ o∈Ye D
 | [],_,h=>by cases h
 |p::r,o,h=>by
  rcases List.mem_cons.1 h with rfl|h
  ·cases hw:o.w with
   |nil=>exact .inl rfl
   |cons a l=>refine .inr ?_;rw [Ye,hw];exact List.mem_cons_self ..
  ·rcases G4 r o h with h1|h1
   ·exact .inl h1
   ·refine .inr ?_
    rw [Ye];split
    ·exact h1
    ·exact List.mem_cons_of_mem _ h1
theorem HS {o p:DI} (ho:o.w= []) (hp:p.w= []):sM o p=true:=by
 simp [sM,ho,hp,vp]
theorem NJ {D:List DI} {mk:List (Nat×Nat×Nat)} (h:Qf D mk=true):(D.all fun o=>Kb mk o&&D.all (sM o))=true:=by
 simp only [Qf,Bool.and_eq_true] at h
 refine List.all_eq_true.2 fun o ho=> ?_
 simp only [Bool.and_eq_true]
 refine ⟨List.all_eq_true.1 h.1 o ho,List.all_eq_true.2 fun p hp=> ?_⟩
 rcases G4 D o ho with h1|h1
 ·rcases G4 D p hp with h2|h2
  ·exact HS h1 h2
  ·have:=List.all_eq_true.1 (List.all_eq_true.1 h.2 p h2) o ho
   simp only [Bool.and_eq_true] at this
   exact this.1
 ·have:=List.all_eq_true.1 (List.all_eq_true.1 h.2 o h1) p hp
  simp only [Bool.and_eq_true] at this
  exact this.2
theorem BV {ops:Array Oper} {lg:List fR} (h:td ops lg=true):Mv ops lg=true:=by
 simp only [td,A5,SL,Bool.and_eq_true] at h
 obtain ⟨⟨h1,h2,h3⟩,h4⟩:=h
 have h4:=NJ h4
 have hlen:lg.length=ops.size:=Nat.eq_of_beq_eq_true h1
 rw [Xm] at h3 h4
 have hml:(nN ops.toList []).length=ops.size:=by rw [EF];simp
 simp only [Mv,Bool.and_eq_true,beq_iff_eq]
 refine ⟨hlen,List.all_eq_true.2 fun i hi=> ?_⟩
 have hi:i<ops.size:=List.mem_range.1 hi
 obtain ⟨o,ho⟩: ∃o,ops.toList[i]? =some o:=⟨ops[i],by simp [hi]⟩
 have xE:ops[i]? =some o:=by simpa using ho
 obtain ⟨l,hl⟩: ∃l,lg[i]? =some l:=⟨_,List.getElem?_eq_getElem (by omega)⟩
 obtain ⟨m,hm⟩: ∃m,(nN ops.toList [])[i]? =some m:=⟨_,List.getElem?_eq_getElem (by omega)⟩
 have hmi:(nN ops.toList []).getD i 0=m:=by rw [List.getD_eq_getElem?_getD,hm];rfl
 generalize (nN ops.toList [])=ms at h3 h4 hml hm hmi ⊢
 unfold K4
 rw [xE,hl]
 simp only [Bool.and_eq_true]
 have hd:=AX lg ms 0 i l m hl hm
 rw [Nat.zero_add] at hd
 have hone:(l.wr.all fun m=>l.aD.contains m)=true/\ (l.aD.all fun x=>match vP lg x with|some j=>j==i||m.testBit j|none=>true)=true:=by
  rcases hd with ⟨e1,e2⟩|hd
  ·rw [e1,e2];exact ⟨rfl,rfl⟩
  ·have:=List.all_eq_true.1 h4 _ hd
   simp only [Bool.and_eq_true,Kb] at this
   obtain ⟨⟨g1,g2⟩,_⟩:=this
   rw [M8] at g1
   refine ⟨g1,List.all_eq_true.2 fun x hx=> ?_⟩
   have:=List.all_eq_true.1 g2 x hx
   rw [ED] at this
   cases hk:vP lg x with
   |none=>rfl
   |some j=>
    rw [hk] at this
    simp only [Option.map_some,Nat.add_zero,Bool.or_eq_true,Nat.beq_eq] at this
    simpa using this
 rw [hmi]
 refine ⟨⟨⟨?_,hone.1⟩,hone.2⟩,List.all_eq_true.2 fun j hj=> ?_⟩
 ·refine List.all_eq_true.2 fun j hj=> ?_
  have:=yD _ _ h2 i o ho j hj
  simpa using this
 ·have hj:j<i:=List.mem_range.1 hj
  obtain ⟨oj,hoj⟩: ∃o,ops.toList[j]? =some o:=⟨ops[j]'(by omega),by simp [show j<ops.size by omega]⟩
  have abr:ops[j]? =some oj:=by simpa using hoj
  obtain ⟨lj,WW⟩: ∃l,lg[j]? =some l:=⟨_,List.getElem?_eq_getElem (by omega)⟩
  obtain ⟨mj,hmj⟩: ∃m,ms[j]? =some m:=⟨_,List.getElem?_eq_getElem (by omega)⟩
  rw [abr,WW]
  simp only [Bool.or_eq_true]
  rcases Bool.eq_false_or_eq_true (m.testBit j) with hb|hb
  ·exact .inl hb
  ·refine .inr ?_
   have hs:=xm _ _ _ (xk _ _ h3 i _ (GC _ _ i o m ho hm)) j _ (by omega) (GC _ _ j oj mj hoj hmj)
   rw [Nat.zero_add,hb] at hs
   have hs:=Lr (hs.resolve_left (by simp))
   simp only [Bool.and_eq_true] at hs ⊢
   refine ⟨⟨?_,hs.1⟩,hs.2⟩
   have Ef:=AX lg ms 0 j lj mj WW hmj
   rw [Nat.zero_add] at Ef
   rcases hd with ⟨e1,e2⟩|hd
   ·rw [e1,e2]
    refine ⟨⟨rfl,?_⟩,rfl⟩
    exact List.all_eq_true.2 fun _ _=>rfl
   ·rcases Ef with ⟨e1,e2⟩|Ef
    ·rw [e1,e2]
     exact ⟨⟨List.all_eq_true.2 fun _ _=>rfl,rfl⟩,List.all_eq_true.2 fun _ _=>rfl⟩
    ·have:=List.all_eq_true.1 h4 _ hd
     simp only [Bool.and_eq_true] at this
     have:=List.all_eq_true.1 this.2 _ Ef
     simp only [sM,Bool.or_eq_true,hb,LW,Bool.and_eq_true] at this
     rcases this with (h|h)|h
     ·rw [Nat.ble_eq] at h;omega
     ·cases h
     ·exact h
structure Good (P:Program) (X:Addr->Value->Prop) (ops:Array Oper) (bG:AS) (tr:List (Option Rec)) (el:List fR):Prop where
 len:tr.length=ops.size
 trace:xG P X ops ops.toList bG tr
 ord:Mv ops el=true
 eff:el=lz ops.toList bG tr\/ el=TG bG.heap (lz ops.toList bG tr)
def GX (el:List fR) (i:Nat):List Nat:=match el[i]? with
 |some l=>l.aD
 |none=> []
variable {X:Addr->Value->Prop} {ops:Array Oper} {bG:AS} {tr:List (Option Rec)} {el:List fR}
theorem Good.at_ (h:Good P X ops bG tr el) {i:Nat} (hi:i<ops.size): ∃o r,ops[i]? =some o/\ ops.toList[i]? =some o/\ tr[i]? =some r/\ dW tr i=r/\ LH P X ops o (xF ops.toList tr bG i) r/\
  xF ops.toList tr bG (i+1)=lH o (xF ops.toList tr bG i) r/\ (lz ops.toList bG tr)[i]? =some (BH o (xF ops.toList tr bG i) r):=by
 have ho:ops.toList[i]? =some ops[i]:=by simp [hi]
 have hr:tr[i]? =some (tr[i]'(by rw [h.len];exact hi)):=List.getElem?_eq_getElem _
 obtain ⟨h1,h2,h3⟩:=JI ops.toList bG tr i _ _ h.trace ho hr
 exact ⟨_,_,by simp [hi],ho,hr,by simp [dW,hr],h1,h2,h3⟩
theorem Good.XJ (h:Good P X ops bG tr el): ∀i,i<=ops.size->(xF ops.toList tr bG i).tmps.length=bG.tmps.length
 |0,_=>by simp [xF,n9]
 |i+1,hi=>by
  obtain ⟨o,r,_,_,_,_,_,hs,_⟩:=h.at_ (i:=i) (by omega)
  rw [hs,Pn,h.XJ i (by omega)]
theorem Good.Mr (h:Good P X ops bG tr el) {i:Nat} (hi:i<ops.size):x3 ops.toList tr bG (i+1)=x3 ops.toList tr bG i+(match dW tr i with|some r=>r.fresh.length|none=>0):=by
 obtain ⟨o,r,_,_,_,hr,_,hs,_⟩:=h.at_ hi
 simp only [x3,hs,Ls,hr]
theorem Good.Ae (h:Good P X ops bG tr el) {i:Nat} : ∀ {j:Nat},i<j->j<=ops.size->x3 ops.toList tr bG i+(match dW tr i with|some r=>r.fresh.length|none=>0)<=x3 ops.toList tr bG j
 |0,hij,_=>by omega
 |j+1,hij,hj=>by
  by_cases e:i=j
  ·subst e;rw [h.Mr (by omega)];exact Nat.le_refl _
  ·have h1:=h.Ae (i:=i) (j:=j) (by omega) (by omega)
   have h2:=h.Mr (i:=j) (by omega)
   rw [h2];omega
theorem Good.Ms:x3 ops.toList tr bG 0=bG.heap.length:=by simp [x3,xF,n9]
theorem Good.V7 (h:Good P X ops bG tr el) {i:Nat} (hi:i<=ops.size):bG.heap.length<=x3 ops.toList tr bG i:=by
 rcases Nat.eq_zero_or_pos i with rfl|h0
 ·rw [Good.Ms];exact Nat.le_refl _
 ·have:=h.Ae (i:=0) h0 hi;rw [Good.Ms] at this;omega
theorem pG {nm:Nat} {r:Option Rec} {m:Nat} :covers nm r m↔nm<=m/\ m<nm+(match r with|some r=>r.fresh.length|none=>0):=by
 cases r with
 |none=>exact ⟨fun h=>h.elim,fun h=>by have h1:=h.1;have h2:=h.2;dsimp only at h2;omega⟩
 |some r=>exact Iff.rfl
theorem Good.qQ (h:Good P X ops bG tr el) {i j m:Nat} (hi:i<ops.size) (hj:j<ops.size) (h1:covers (x3 ops.toList tr bG i) (dW tr i) m) (h2:covers (x3 ops.toList tr bG j) (dW tr j) m):i=j:=by
 rw [pG] at h1 h2
 rcases Nat.lt_trichotomy i j with e|e|e
 ·have:=h.Ae e (by omega);omega
 ·exact e
 ·have:=h.Ae e (by omega);omega
def AG (ops:Array Oper) (i j:Nat):Bool:=((nN ops.toList []).getD i 0).testBit j
theorem sE {i j:Nat} (h:AG ops i j=true):Ng ops.toList i j:=
 BK ops.toList ops.toList [] [] rfl rfl (fun i j hb=>by simp at hb) i j h
theorem KW (o:Oper) (st:AS) (r:Option Rec):(BH o st r).wr=qC r/\ (BH o st r).aD=Am r/\ (BH o st r).nm=st.heap.length/\ (BH o st r).cnt=(match r with|some r=>r.fresh.length|none=>0):=by
 cases r<;>exact ⟨rfl,rfl,rfl,rfl⟩
theorem Kc (h0:List aF) (all:List fR) (l:fR):HU h0 all l=l\/ (∃n q m,l.look=some (n,q)/\ l.aD= [m]/\ l.wr= []/\ n<h0.length/\ q.hit (aj h0 n)=true/\ zD n q all=true/\
  (HU h0 all l).nm=l.nm/\ (HU h0 all l).cnt=l.cnt/\ (HU h0 all l).aD= []/\ (HU h0 all l).wr= []):=by
 unfold HU
 split
 ·rename_i n q m h1 h2 h3
  cases hb:(Nat.beq m n&&Nat.blt n h0.length&&q.hit (aj h0 n)&&zD n q all) with
  |false=>exact .inl rfl
  |true=>
   simp only [Bool.and_eq_true,Nat.blt_eq] at hb
   exact .inr ⟨n,q,m,h1,h2,h3,hb.1.1.2,hb.1.2,hb.2,rfl,rfl,rfl,rfl⟩
 ·exact .inl rfl
theorem FI {n:Nat} {q:Aw} : ∀ {ws:List (Nat×aF)},S9 n q ws=true-> ∀p∈ws,p.1=n->q.hit (live (some p.2))=true
 | [],_,p,hp,_=>by cases hp
 |x::r,h,p,hp,e=>by
  simp only [S9,Bool.and_eq_true,Bool.or_eq_true,Bool.not_eq_true'] at h
  rcases List.mem_cons.1 hp with rfl|hp
  ·have h1:=h.1.resolve_left (by rw [e];simp)
   cases hx:p.2<;>rw [hx] at h1<;>first|exact h1|(cases q<;>cases h1)
  ·exact FI h.2 p hp e
theorem C7 {n:Nat} {q:Aw} : ∀ {lg:List fR},zD n q lg=true-> ∀l∈lg,S9 n q l.ws=true
 | [],_,l,hl=>by cases hl
 |x::r,h,l,hl=>by
  simp only [zD,Bool.and_eq_true] at h
  rcases List.mem_cons.1 hl with rfl|hl
  ·exact h.1
  ·exact C7 h.2 l hl
theorem Good.HV (h:Good P X ops bG tr el) {i:Nat} (hi:i<ops.size): ∃l,el[i]? =some l/\ l.wr=qC (dW tr i)/\ l.nm=x3 ops.toList tr bG i/\ l.cnt=(match dW tr i with|some r=>r.fresh.length|none=>0)/\
  (l.aD=Am (dW tr i)\/ (l.aD= []/\ ∃o r n q,ops[i]? =some o/\ dW tr i=some r/\ dL o.op (eO (xF ops.toList tr bG i).tmps) r.val=some (n,q)/\ n<bG.heap.length/\ q.hit (aj bG.heap n)=true/\ zD n q (lz ops.toList bG tr)=true)):=by
 obtain ⟨o,r,ho,_,_,hr,_,_,T8⟩:=h.at_ hi
 obtain ⟨f1,f2,f3,f4⟩:=KW o (xF ops.toList tr bG i) r
 rw [hr]
 rcases h.eff with e|e
 ·rw [e]
  exact ⟨_,T8,f1,f3,f4,.inl f2⟩
 ·have hl:el[i]? =some (HU bG.heap (lz ops.toList bG tr) (BH o (xF ops.toList tr bG i) r)):=by rw [e,TG,List.getElem?_map,T8];rfl
  rcases Kc bG.heap (lz ops.toList bG tr) (BH o (xF ops.toList tr bG i) r) with e1|⟨n,q,m,g1,g2,g3,g4,g5,g6,g7,g8,g9,g10⟩
  ·exact ⟨_,hl,by rw [e1,f1],by rw [e1,f3];rfl,by rw [e1,f4],.inl (by rw [e1,f2])⟩
  ·refine ⟨_,hl,by rw [g10,←f1,g3],by rw [g7,f3];rfl,by rw [g8,f4],.inr ⟨g9,?_⟩⟩
   cases r with
   |none=>cases g1
   |some r=>exact ⟨o,r,n,q,ho,rfl,g1,g4,g5,g6⟩
theorem GY {i:Nat} {l:fR} (h:el[i]? =some l):GX el i=l.aD:=by unfold GX;rw [h]
theorem uq {a b:List Nat} (h:D7 a b=true): ∀m∈a,m∉b:=by
 intro m hm hb
 have:=List.all_eq_true.1 h m hm
 simp [hb] at this
theorem Good.one (h:Good P X ops bG tr el) {i:Nat} (hi:i<ops.size) {o:Oper} (ho:ops[i]? =some o):
  (∀j∈direct o,j<i)/\ (∀m∈qC (dW tr i),m∈GX el i)/\
  (∀m∈GX el i,∀j,j<ops.size->covers (x3 ops.toList tr bG j) (dW tr j) m->j=i\/ AG ops i j=true)/\
  ∀j p,j<i->ops[j]? =some p->AG ops i j=false->
   (∀m∈qC (dW tr i),m∉GX el j)/\ (∀m∈qC (dW tr j),m∉GX el i)/\ (∀m∈qC (dW tr i),m∉qC (dW tr j))/\
   (∀d,p.dst=some d->o.dst≠some d/\ d∉jC ops o)/\ (∀d,o.dst=some d->d∉jC ops p):=by
 have DB:=h.ord
 simp only [Mv,Bool.and_eq_true] at DB
 have h1:=List.all_eq_true.1 DB.2 i (List.mem_range.2 hi)
 obtain ⟨l,T8,f1,f3,f4,_⟩:=h.HV hi
 have f2:l.aD=GX el i:=(GY T8).symm
 unfold K4 at h1
 rw [ho,T8] at h1
 simp only [Bool.and_eq_true] at h1
 obtain ⟨⟨⟨h1,h2⟩,h3⟩,h4⟩:=h1
 refine ⟨fun j hj=>by simpa using List.all_eq_true.1 h1 j hj,fun m hm=> ?_,fun m hm j hj hc=> ?_,fun j p hj hp hb=> ?_⟩
 ·have:=List.all_eq_true.1 h2 m (by rw [f1];exact hm)
  rw [f2] at this
  simpa using this
 ·have:=List.all_eq_true.1 h3 m (by rw [f2];exact hm)
  have hmk:vP el m=some j:=by
   unfold vP
   rw [List.findIdx?_eq_some_iff_getElem]
   obtain ⟨lj,WW,_,g3,g4,_⟩:=h.HV hj
   obtain ⟨hjl,hje⟩:=List.getElem?_eq_some_iff.1 WW
   refine ⟨hjl,?_,fun k hk=> ?_⟩
   ·rw [hje,g3,g4]
    rw [pG] at hc
    simpa using hc
   ·obtain ⟨lk,hlk,_,k3,k4,_⟩:=h.HV (i:=k) (by omega)
    obtain ⟨Z4,hke⟩:=List.getElem?_eq_some_iff.1 hlk
    rw [hke,k3,k4]
    intro aa1
    have:covers (x3 ops.toList tr bG k) (dW tr k) m:=by
     rw [pG];simpa using aa1
    have:=h.qQ (by omega) hj this hc
    omega
  rw [hmk] at this
  simp only [Bool.or_eq_true,beq_iff_eq] at this
  exact this
 ·have:=List.all_eq_true.1 h4 j (List.mem_range.2 hj)
  obtain ⟨lj,WW,g1,_,_,_⟩:=h.HV (i:=j) (by omega)
  have g2:lj.aD=GX el j:=(GY WW).symm
  have hb':(((nN ops.toList []).getD i 0).testBit j)=false:=hb
  rw [hb',hp,WW] at this
  simp only [Bool.false_or,Bool.and_eq_true,f1,f2,g1,g2] at this
  obtain ⟨⟨⟨⟨a1,a2⟩,a3⟩,a4⟩,a5⟩:=this
  refine ⟨uq a1,uq a2,uq a3,fun d hd=> ?_,fun d hd=> ?_⟩
  ·rw [hd] at a4
   simp only [Bool.and_eq_true,bne_iff_ne,ne_eq,Bool.not_eq_true',List.contains_eq_mem,decide_eq_false_iff_not] at a4
   exact a4
  ·rw [hd] at a5
   simpa using a5
structure PD (ay:iT) (W:World) (df:List Deferred) (N:Nat) (F:FS) (ρ:Env) (a:Act) (w:World):Prop where
 tmps: ∀t,F.T t≠ .dead->a.tmps.getD t undef=(F.T t).af ρ
 ok: ∀t,(F.T t).ok F.Kn
 size:a.tmps.size=N
 defers:a.defers=df
 st:St ay W ρ F.Kn F.G w
theorem Vf {st:AS} {ρ:Env} {a:Act} {w:World} (h:mG ay W df st ρ a w):PD ay W df st.tmps.length (jv st) ρ a w:=⟨h.tmps,h.kn,h.size,h.defers,h.st⟩
theorem Vg {st:AS} {N:Nat} {ρ:Env} {a:Act} {w:World} (h:PD ay W df N (jv st) ρ a w) (hN:st.tmps.length=N):mG ay W df st ρ a w:=⟨h.tmps,by rw [h.size,hN],h.defers,h.ok,h.st⟩
theorem OA {o:Oper} {t:Nat} (h:Operand.tmp t∈o.op.operands):t∈jC ops o:=
 List.mem_append_left _ (List.mem_filterMap.2 ⟨.tmp t,Array.mem_toList_iff.2 h,rfl⟩)
theorem OZ {N i:Nat} {F:FS} {ρ:Env} {a:Act} {w:World} {ro:Option Nat} {n:Nat} {Q:Exit->Act->World->Prop} (hX:yw ay W X) (hR:PD ay W df N F ρ a w) {o:Oper} (ho:ops[i]? =some o) {S:AS} {r:Option Rec}
  (hf:LH P X ops o S r) (hT: ∀t∈jC ops o,F.T t=dD S.tmps t) (hG:(∀m∈Am r,F.G m=aj S.heap m)\/ ∃r' n q,r=some r'/\ dL o.op (eO S.tmps) r'.val=some (n,q)/\ q.hit (F.G n)=true) (hfr: ∀m,covers S.heap.length r m-> ¬F.Kn m):
  wpOpIn (fw ro) n P ops Q i (fun a' w'=> ∃ρ',PD ay W df N (DG N o S.heap.length r F) ρ' a' w') a w:=by
 have nj: ∀x∈o.op.operands,(eO S.tmps x≠ .dead->a.eval x=(eO S.tmps x).af ρ)/\ (eO S.tmps x).ok F.Kn:=by
  intro x hx
  cases x with
  |tmp t=>
   have:=hT t (OA hx)
   refine ⟨?_,?_⟩
   ·show dD S.tmps t≠ .dead→a.tmps.getD t undef=(dD S.tmps t).af ρ
    rw [<- this];exact hR.tmps t
   ·show (dD S.tmps t).ok F.Kn
    rw [<- this];exact hR.ok t
  |const v=>exact ⟨fun _=>(rS v ρ).symm,x5 _ _⟩
  |global g=>exact ⟨fun _=>rfl,trivial⟩
  |func f=>exact ⟨fun _=>rfl,fun r hr=>absurd hr (by simp)⟩
 have hgd: ∀b,kC ops o S b->Region.wanted o (yielded ops a.tmps)=b:=by
  intro b hb
  unfold kC at hb
  split at hb
  ·rename_i hg;rw [hb];simp [Region.wanted,hg]
  ·rename_i j want hg
   obtain ⟨d,hd,hb⟩:=hb
   have h1:=hR.tmps d
   have e1:(ops[j]?).bind (·.dst)=some d:=by
    unfold yE at hd;split at hd
    ·rename_i p hp;simp [hp,hd]
    ·cases hd
   rw [hT d (by unfold jC;rw [hg];exact List.mem_append_right _ (by simp [hd]))] at h1
   rcases hb with ⟨x,hx,hxb⟩|⟨hx,hb⟩
   rotate_left
   ·have h1:=h1 (by rw [hx];simp)
    rw [hx] at h1
    rw [hb]
    rw [Array.getD_eq_getD_getElem?] at h1
    cases hq:a.tmps[d]? with
    |none=>simp [Region.wanted,hg,yielded,e1,hq]
    |some v=>
     rw [hq] at h1
     have e:v= .tuple #[]:=h1
     subst e
     simp [Region.wanted,hg,yielded,e1,hq]
   have ke:dD S.tmps d≠ .dead:=by rw [hx];simp [bC]
   have h1:=h1 ke
   rw [hx] at h1
   have e2:a.tmps[d]? =some (.bool x):=by
    rw [Array.getD_eq_getD_getElem?] at h1
    cases hq:a.tmps[d]? with
    |none=>rw [hq] at h1;cases h1
    |some v=>rw [hq] at h1;exact congrArg some h1
   simp only [Region.wanted,hg,yielded,e1,Option.bind_some,e2]
   rw [<- hxb];cases x<;>cases want<;>rfl
 unfold wpOpIn
 rw [ho]
 dsimp only
 cases r with
 |some r=>
  obtain ⟨hg,ke,hl,hlk⟩:=hf
  rw [if_pos (hgd true hg)]
  obtain ⟨H,hH,hHG⟩: ∃H:HP,bQ P X o (eO S.tmps) H S.heap.length r/\ ∀m∈r.aD,F.G m=H m:=by
   rcases hG with hG|⟨r',n',q,e,h1,h2⟩
   ·exact ⟨_,hl,hG⟩
   ·cases e
    exact ⟨F.G,hlk n' q h1 F.G h2,fun _ _=>rfl⟩
  refine hH.2 ro n ay W ρ F.Kn F.G w a _ Q hX (fun x hx=>(nj x hx).1 (ke x hx)) (fun x hx=>(nj x hx).2) hHG (fun k hk=>hfr _ ⟨by omega,by omega⟩) hR.st ?_
  intro ρ' w' pP Hf hst
  refine ⟨ρ',fun t=> ?_,fun t=> ?_,by rw [wo,hR.size],by rw [put_defers,hR.defers],hst⟩
  ·rw [wk,hR.size]
   simp only [DG]
   have hold:F.T t≠ .dead->a.tmps.getD t undef=(F.T t).af ρ':=fun hd=>by rw [hR.tmps t hd];exact (AV.bH pP _ (hR.ok t)).symm
   cases o.dst with
   |none=>simpa using hold
   |some d=>
    simp only [Option.some.injEq]
    by_cases e:d=t
    ·subst e
     by_cases e2:d<N
     ·simp [e2]
     ·simp only [e2,and_false,if_false];exact hold
    ·have n1: ¬(t=d∧d<N):=fun h=>e h.1.symm
     have n2: ¬(d=t/\ t<N):=fun h=>e h.1
     simp only [n1,n2,if_false];exact hold
  ·simp only [DG]
   split
   ·exact Hf
   ·exact AV.aT (fun m hm=> .inl hm) _ (hR.ok t)
 |none=>
  rw [if_neg (by rw [hgd false hf];simp)]
  refine ⟨fun _ _=>trivial,ρ,fun t=> ?_,fun t=> ?_,by rw [wo,hR.size],by rw [put_defers,hR.defers],hR.st⟩
  ·rw [wk,hR.size]
   simp only [DG]
   cases o.dst with
   |none=>simpa using hR.tmps t
   |some d=>
    simp only [Option.some.injEq]
    by_cases e:d=t
    ·subst e
     by_cases e2:d<N
     ·simp only [e2,and_self,if_true];intro _;rfl
     ·simp only [e2,and_false,if_false];exact hR.tmps d
    ·have n1: ¬(t=d∧d<N):=fun h=>e h.1.symm
     have n2: ¬(d=t/\ t<N):=fun h=>e h.1
     simp only [n1,n2,if_false];exact hR.tmps t
  ·simp only [DG]
   split
   ·exact uY _
   ·exact hR.ok t
theorem Good.text (h:Good P X ops bG tr el): ∀i,i<=ops.size->part bG.tmps.length ops.toList tr bG (fun _=>true) (List.range i) (jv bG)=jv (xF ops.toList tr bG i)
 |0,_=>by simp [part,xF,n9]
 |i+1,hi=>by
  obtain ⟨o,r,_,ho,hr,_,hf,hs,_⟩:=h.at_ (i:=i) (by omega)
  have ih:=h.text i (by omega)
  have e:part bG.tmps.length ops.toList tr bG (fun _=>true) (List.range (i+1)) (jv bG)=xj bG.tmps.length ops.toList tr bG i (part bG.tmps.length ops.toList tr bG (fun _=>true) (List.range i) (jv bG)):=by
   rw [List.range_succ];simp [part,List.foldl_append]
  rw [e,ih,hs]
  unfold xj
  rw [ho,hr]
  exact RP (h.XJ i (by omega)) r fun q hq p hp=>by subst hq;exact hf.2.2.1.1 p hp
theorem UT {N:Nat} {ops:List Oper} {tr:List (Option Rec)} {bG:AS} {n i:Nat} (hi:i<=n) (s:FS):part N ops tr bG (fun j=>decide (j<i)) (List.range n) s=part N ops tr bG (fun _=>true) (List.range i) s:=by
 have e:List.range n=List.range i++List.range' i (n- i):=by
  have e1:=List.range'_append_1 (s:=0) (m:=i) (n:=n- i)
  rw [Nat.zero_add] at e1
  rw [List.range_eq_range',List.range_eq_range',e1];congr 1;omega
 have h1: ∀(is:List Nat) (s:FS),(∀j∈is,j<i)->part N ops tr bG (fun j=>decide (j<i)) is s=part N ops tr bG (fun _=>true) is s:=by
  intro is
  induction is with
  |nil=>intro s _;rfl
  |cons j r ih=>
   intro s hj
   show part N ops tr bG _ r _=part N ops tr bG _ r _
   simp only [hj j (by simp),decide_true,if_true]
   exact ih _ (fun k hk=>hj k (by simp [hk]))
 have h2: ∀(is:List Nat) (s:FS),(∀j∈is,i<=j)->part N ops tr bG (fun j=>decide (j<i)) is s=s:=by
  intro is
  induction is with
  |nil=>intro s _;rfl
  |cons j r ih=>
   intro s hj
   show part N ops tr bG _ r _=s
   have:decide (j<i)=false:=by have:=hj j (by simp);simpa using this
   simp only [this,Bool.false_eq_true,if_false]
   exact ih _ (fun k hk=>hj k (by simp [hk]))
 rw [e]
 show List.foldl _ s (_++_)=_
 rw [List.foldl_append]
 show part N ops tr bG _ _ (part N ops tr bG _ _ s)=_
 rw [h1 _ _ (fun j hj=>List.mem_range.1 hj),h2 _ _ (fun j hj=>(List.mem_range'_1.1 hj).1)]
theorem Good.Qd (h:Good P X ops bG tr el) {i j:Nat} (hd:Ng ops.toList i j):j<i:=by
 induction hd with
 | @edge i' j' o' xE hj'=>
  have hi':i'<ops.size:=by have:=(List.getElem?_eq_some_iff.1 xE).1;simpa using this
  exact (h.one hi' (by rw [<- Array.getElem?_toList];exact xE)).1 _ hj'
 | @trans i' j' k' o' xE hk' _ ih=>
  have hi':i'<ops.size:=by have:=(List.getElem?_eq_some_iff.1 xE).1;simpa using this
  have:=(h.one hi' (by rw [<- Array.getElem?_toList];exact xE)).1 _ hk'
  omega
theorem count_set: ∀(l:List Bool) (i:Nat),l[i]? =some false->(l.set i true).countP (!·)+1=l.countP (!·)
 | [],_,h=>by simp at h
 |b::r,0,h=>by simp at h;subst h;simp
 |b::r,i+1,h=>by
  have:=count_set r i (by simpa using h)
  simp only [List.set_cons_succ,List.countP_cons];omega
theorem KO {ws:List (Nat×aF)} {m:Nat} {o:aF} (h:cg ws m=some o):(m,o)∈ws:=by
 induction ws with
 |nil=>cases h
 |cons p r ih=>
  simp only [cg] at h
  split at h
  ·rename_i o' ho
   cases h
   exact List.mem_cons_of_mem _ (ih ho)
  ·split at h
   ·rename_i e
    cases h
    rw [<- e]
    exact List.mem_cons_self ..
   ·cases h
theorem IL (h:Good P X ops bG tr el) {N n:Nat} {q:Aw} {L:Nat->Bool} (hn:n<bG.heap.length) (hv:zD n q (lz ops.toList bG tr)=true): ∀(is:List Nat) (s:FS),q.hit (s.G n)=true->q.hit ((part N ops.toList tr bG L is s).G n)=true
 | [],s,hs=>hs
 |i::r,s,hs=>by
  refine IL h hn hv r _ ?_
  dsimp only
  split
  rotate_left
  ·exact hs
  unfold xj
  split
  rotate_left
  ·exact hs
  rename_i o x ho hx
  cases x with
  |none=>exact hs
  |some x=>
   have hi:i<ops.size:=by have:=(List.getElem?_eq_some_iff.1 ho).1;simpa using this
   obtain ⟨o',r',_,X9,htr,_,_,_,T8⟩:=h.at_ hi
   rw [htr] at hx
   cases hx
   have hw:=C7 hv _ (List.mem_of_getElem? T8)
   have hnm:=h.V7 (i:=i) (by omega)
   simp only [DG,bX]
   rw [if_neg (by intro hc;have:=hc.1;simp only [x3] at hnm;omega)]
   split
   ·rename_i o2 ho2
    exact FI hw _ (KO ho2) rfl
   ·exact hs
theorem IX (hm:P.follows .mixedOrders=true) (hX:yw ay W X) (h:Good P X ops bG tr el) (ro:Option Nat) (n id:Nat) {Q:Exit->Act->World->Prop} {ρ:Env} {a:Act} {w:World} (bB:mG ay W df bG ρ a w)
    (hQ: ∀ρ' a' w',mG ay W df (xF ops.toList tr bG ops.size) ρ' a' w'->Q .normal a' w'):(Code.region id ops true).wpIn (fw ro) n P Q a w:=by
  refine wpIn_region_any hm ?_
  let N:=bG.tmps.length
  let Inv:Array Bool->Act->World->Prop:=fun L a w=>L.size=ops.size/\ (∀i o,L.getD i false=true->ops.toList[i]? =some o-> ∀j∈direct o,L.getD j false=true)/\
    ∃ρ,PD ay W df N (part N ops.toList tr bG (fun i=>L.getD i false) (List.range ops.size) (jv bG)) ρ a w
  have hsz:ops.toList.length=ops.size:=by simp
  have hstep: ∀L a w i,Inv L a w->i∈Region.ready .any ops L->wpOpIn (fw ro) n P ops Q i (fun a' w'=>Inv (L.setIfInBounds i true) a' w') a w/\ i<ops.size/\ L[i]? =some false:=by
    rintro L a w i ⟨hL,hdc,ρ,hR⟩ hi
    simp only [Region.ready,List.mem_filter,List.mem_range,Bool.and_eq_true,Bool.not_eq_true'] at hi
    obtain ⟨hin,hnl,Kv⟩:=hi
    have Yy:L[i]? =some false:=by
      rw [Array.getElem?_eq_getElem (by omega)]
      rw [Array.getD_eq_getD_getElem?,Array.getElem?_eq_getElem (by omega)] at hnl
      simpa using hnl
    have Yx:L.getD i false=false:=by rw [Array.getD_eq_getD_getElem?,Yy];rfl
    obtain ⟨o,r,ho,X9,htr,hri,hf,hs,_⟩:=h.at_ hin
    have YK: ∀j∈direct o,L.getD j false=true:=by
      intro j hj
      simp only [direct,List.mem_map,List.mem_filter] at hj
      obtain ⟨e,⟨he,hb⟩,rfl⟩:=hj
      rw [ho] at Kv
      simp only [Option.map_some,Option.getD_some] at Kv
      have:=Array.all_eq_true_iff_forall_mem.1 Kv e (Array.mem_toList_iff.1 he)
      simpa [hb] using this
    have YJ: ∀j,Ng ops.toList i j->L.getD j false=true:=fun j hd=>hd.OP (L:=fun j=>L.getD j false=true) hdc X9 YK
    have Qt: ∀j,L.getD j false=true-> ¬Ng ops.toList j i:=fun j hj hd=>by
      have:=hd.closed (L:=fun j=>L.getD j false=true) hdc hj
      rw [Yx] at this;cases this
    obtain ⟨_,hwt,htm,VY⟩:=h.one hin ho
    have DB: ∀j,j<ops.size->j≠i->(L.getD j false=decide (j<i))\/ ((j<i/\ AG ops i j=false)\/ (i<j/\ AG ops j i=false)):=by
      intro j hj hne
      rcases Nat.lt_or_gt_of_ne hne with hlt|hlt
      · cases hb:AG ops i j with
        |true=>left;rw [YJ j (sE hb)];simp [hlt]
        |false=>exact .inr (.inl ⟨hlt,rfl⟩)
      · cases hb:AG ops j i with
        | true=>
          left
          cases X2:L.getD j false with
          |true=>exact absurd (sE hb) (Qt j X2)
          |false=>simp;omega
        |false=>exact .inr (.inr ⟨hlt,rfl⟩)
    have hsi:jv (xF ops.toList tr bG i)=part N ops.toList tr bG (fun j=>decide (j<i)) (List.range ops.size) (jv bG):=by
      rw [UT (by omega),h.text i (by omega)]
    have hT: ∀t∈jC ops o,(part N ops.toList tr bG (fun i=>L.getD i false) (List.range ops.size) (jv bG)).T t=dD (xF ops.toList tr bG i).tmps t:=by
      intro t ht
      show _=(jv (xF ops.toList tr bG i)).T t
      rw [hsi]
      refine K9 _ _ _ rfl fun j hj hd=> ?_
      have hj:=List.mem_range.1 hj
      by_cases hne:j=i
      · subst hne;rw [Yx];simp
      · obtain ⟨p,_,hp,u7,_⟩:=h.at_ hj
        have hpd:p.dst=some t:=by simpa [Dt,u7] using hd
        rcases DB j hj hne with e|⟨hlt,hb⟩|⟨hlt,hb⟩
        · exact e
        · exact absurd ht ((VY j p hlt hp hb).2.2.2.1 t hpd).2
        · exact absurd ht ((h.one hj hp).2.2.2 i o hlt ho hb|>.2.2.2.2 t hpd)
    have hG0: ∀m∈GX el i,(part N ops.toList tr bG (fun i=>L.getD i false) (List.range ops.size) (jv bG)).G m=aj (xF ops.toList tr bG i).heap m:=by
      intro m hm'
      show _=(jv (xF ops.toList tr bG i)).G m
      rw [hsi]
      refine K8 _ _ _ rfl fun j hj hd=> ?_
      have hj:=List.mem_range.1 hj
      by_cases hne:j=i
      · subst hne;rw [Yx];simp
      · obtain ⟨p,_,hp,u7,_⟩:=h.at_ hj
        rcases hd with hc|hwj
        · rcases htm m hm' j hj hc with e|e
          · exact absurd e hne
          · have hji:j<i:=by
              rcases DB j hj hne with _|_
              all_goals
                rcases Nat.lt_or_gt_of_ne hne with h1|h1
                · exact h1
                · exfalso
                  have:=h.Qd (sE e)
                  omega
            rw [YJ j (sE e)];simp [hji]
        · rcases DB j hj hne with e|⟨hlt,hb⟩|⟨hlt,hb⟩
          · exact e
          · exact absurd hm' ((VY j p hlt hp hb).2.1 m hwj)
          · exact absurd hm' (((h.one hj hp).2.2.2 i o hlt ho hb).1 m hwj)
    have hG:(∀m∈Am r,(part N ops.toList tr bG (fun i=>L.getD i false) (List.range ops.size) (jv bG)).G m=aj (xF ops.toList tr bG i).heap m)\/ ∃r' n q,r=some r'/\ dL o.op (eO (xF ops.toList tr bG i).tmps) r'.val=some (n,q)/\ q.hit ((part N ops.toList tr bG (fun i=>L.getD i false) (List.range ops.size) (jv bG)).G n)=true:=by
      obtain ⟨l,T8,_,_,_,ht|⟨_,o',r',n',q,xE,hr',h1,h2,h3,h4⟩⟩:=h.HV hin
      · left
        rw [GY T8,ht,hri] at hG0
        exact hG0
      · right
        rw [ho] at xE;cases xE
        rw [hri] at hr'
        refine ⟨r',n',q,hr',h1, ?_⟩
        exact IL h h2 h4 (List.range ops.size) _ h3
    have hfr: ∀m,covers (xF ops.toList tr bG i).heap.length r m-> ¬(part N ops.toList tr bG (fun i=>L.getD i false) (List.range ops.size) (jv bG)).Kn m:=by
      intro m hc hk
      have Ig:covers (x3 ops.toList tr bG i) (dW tr i) m:=by rw [hri];exact hc
      rw [Ai _ _ (fun j hj=>by rw [hsz];exact List.mem_range.1 hj)] at hk
      rcases hk with hk|⟨j,hj,X2,hcj⟩
      · have h1:=h.V7 (i:=i) (by omega)
        rw [pG] at Ig
        have:m<bG.heap.length:=hk
        omega
      · have:=h.qQ (List.mem_range.1 hj) hin hcj Ig
        subst this;rw [Yx] at X2;cases X2
    refine ⟨?_,hin,Yy⟩
    refine wpOpIn_mono ?_ (OZ hX hR ho hf hT hG hfr)
    rintro a' w' ⟨ρ',hR'⟩
    have Dy: ∀j,(L.setIfInBounds i true).getD j false=(L.getD j false||j==i):=by
      intro j
      simp only [Array.getD_eq_getD_getElem?,Array.getElem?_setIfInBounds]
      by_cases e:i=j
      · subst e;simp [hL,hin]
      · simp [e,Ne.symm e]
    refine ⟨by simp [hL],fun j p hj hp k hk=> ?_,ρ', ?_⟩
    · rw [Dy] at hj ⊢
      rw [Bool.or_eq_true] at hj ⊢
      rcases hj with hj|hj
      · exact .inl (hdc j p hj hp k hk)
      · have:j=i:=by simpa using hj
        subst this
        rw [X9] at hp;cases hp
        exact .inl (YK k hk)
    · have Dw:=RV (N:=N) (ops:=ops.toList) (tr:=tr) (bG:=bG) (L:=fun i=>L.getD i false) (n:=ops.size) (i:=i) (by omega) hin Yx (fun j hj hij X2=>by
          obtain ⟨p,_,hp,u7,_⟩:=h.at_ hj
          have hb:AG ops j i=false:=by
            cases hb:AG ops j i with
            |true=>exact absurd (sE hb) (Qt j X2)
            |false=>rfl
          have hbi:AG ops i j=false:=by
            cases hb:AG ops i j with
            | true=>
              exfalso
              have:=h.Qd (sE hb)
              omega
            |false=>rfl
          obtain ⟨_,abM,abJ,hpj⟩:=h.one hj hp
          have hp1:=hpj i o hij ho hb
          refine ⟨fun d hd Ee=> ?_,fun m Bm Tf=>hp1.2.2.1 m Tf Bm,fun m h1 h2=> ?_,fun m h1 h2=> ?_,fun m h1 h2=> ?_⟩
          · have e1:o.dst=some d:=by simpa [Dt,X9] using hd
            have e2:p.dst=some d:=by simpa [Dt,u7] using Ee
            exact (hp1.2.2.2.1 d e1).1 e2
          · have:=h.qQ hin hj h1 h2;omega
          · rcases htm m (hwt m h1) j hj h2 with e|e
            · omega
            · rw [hbi] at e;cases e
          · rcases abJ m (abM m h1) i hin h2 with e|e
            · omega
            · rw [hb] at e;cases e) (jv bG)
      have e1:(fun j=>(L.setIfInBounds i true).getD j false)=(fun j=>L.getD j false||j==i):=funext Dy
      rw [e1,Dw]
      have e2:xj N ops.toList tr bG i (part N ops.toList tr bG (fun i=>L.getD i false) (List.range ops.size) (jv bG))=DG N o (xF ops.toList tr bG i).heap.length r (part N ops.toList tr bG (fun i=>L.getD i false) (List.range ops.size) (jv bG)):=by
        conv=>lhs;unfold xj
        rw [X9,htr]
      rw [e2];exact hR'
  have hend: ∀L a w,Inv L a w->Region.ready .any ops L= []->Q .normal a w:=by
    rintro L a w ⟨hL,hdc,ρ,hR⟩ hr
    have hall: ∀i,i<ops.size->L.getD i false=true:=by
      intro i
      induction i using Nat.strongRecOn with
      | _ i ih=>
        intro hi
        cases Yy:L.getD i false with
        |true=>rfl
        | false=>
          exfalso
          obtain ⟨o,r,ho,X9,_⟩:=h.at_ hi
          have:i∈Region.ready .any ops L:=by
            simp only [Region.ready,List.mem_filter,List.mem_range,Bool.and_eq_true,Bool.not_eq_true']
            refine ⟨hi, ?_, ?_⟩
            · rw [Array.getD_eq_getD_getElem?,Array.getElem?_eq_getElem (by omega)] at Yy ⊢
              simpa using Yy
            · rw [ho]
              simp only [Option.map_some,Option.getD_some]
              refine Array.all_eq_true_iff_forall_mem.2 fun e he=> ?_
              cases hb:Region.binds .any e with
              |false=>simp
              | true=>
                have hmem:e.on∈direct o:=List.mem_map.2 ⟨e,List.mem_filter.2 ⟨Array.mem_toList_iff.2 he,hb⟩,rfl⟩
                have hlt:=(h.one hi ho).1 _ hmem
                simp [ih e.on hlt (by omega)]
          rw [hr] at this;cases this
    have e:part N ops.toList tr bG (fun i=>L.getD i false) (List.range ops.size) (jv bG)=jv (xF ops.toList tr bG ops.size):=by
      rw [<- h.text ops.size (Nat.le_refl _)]
      refine FS.ext' (fun t=>K9 _ _ _ rfl fun i hi _=>by rw [hall i (List.mem_range.1 hi)]) (fun m=>K8 _ _ _ rfl fun i hi _=>by rw [hall i (List.mem_range.1 hi)]) (fun m=> ?_)
      rw [Ai _ _ (fun j hj=>by rw [hsz];exact List.mem_range.1 hj),Ai _ _ (fun j hj=>by rw [hsz];exact List.mem_range.1 hj)]
      constructor
      · rintro (h1|⟨i,hi,_,hc⟩)
        · exact .inl h1
        · exact .inr ⟨i,hi,rfl,hc⟩
      · rintro (h1|⟨i,hi,_,hc⟩)
        · exact .inl h1
        · exact .inr ⟨i,hi,hall i (List.mem_range.1 hi),hc⟩
    rw [e] at hR
    exact hQ ρ a w (Vg hR (h.XJ ops.size (Nat.le_refl _)))
  have main: ∀fuel L a w,L.toList.countP (!·)<=fuel->Inv L a w->wpAnyIn (fw ro) n P .any ops Q fuel L a w:=by
    intro fuel
    induction fuel with
    | zero=>
      intro L a w hc hI
      have hr:Region.ready .any ops L= []:=by
        rcases hq:Region.ready .any ops L with _|⟨i,r⟩
        · rfl
        · exfalso
          obtain ⟨_,_,hf⟩:=hstep L a w i hI (by rw [hq];simp)
          have:=count_set L.toList i (by simpa using hf)
          omega
      exact ⟨hr,hend L a w hI hr⟩
    | succ fuel ih=>
      intro L a w hc hI
      refine ⟨hend L a w hI,fun i hi=> ?_⟩
      obtain ⟨h1,_,hf⟩:=hstep L a w i hI hi
      refine wpOpIn_mono (fun a' w' Yw=>ih _ a' w' ?_ Yw) h1
      have:=count_set L.toList i (by simpa using hf)
      rw [Array.toList_setIfInBounds];omega
  refine main _ _ _ _ (by have:=List.countP_le_length (p:=(!·)) (l:=(Array.replicate ops.size false).toList);simpa using this) ⟨by simp,fun i o hi=> ?_,ρ, ?_⟩
  · rw [Array.getD_eq_getD_getElem?,Array.getElem?_replicate] at hi
    split at hi<;>simp at hi
  · have e:part N ops.toList tr bG (fun i=>(Array.replicate ops.size false).getD i false) (List.range ops.size) (jv bG)=jv bG:=by
      have:(fun i=>(Array.replicate ops.size false).getD i false)=fun _=>false:=by
        funext i;rw [Array.getD_eq_getD_getElem?,Array.getElem?_replicate];split<;>rfl
      rw [this]
      generalize List.range ops.size=is
      induction is with
      |nil=>rfl
      |cons j r ih=>exact ih
    rw [e]
    exact Vf (bB.drawn _ (by first|exact Nat.le_succ _|exact Nat.le_add_right _ _|omega))
theorem TE (hT:aO P ctx.tt) (hS:ah P ctx.specs) (hm:P.follows .mixedOrders=true) (hX:yw ay W ctx.X) (ro:Option Nat) (n id:Nat) (ops:Array Oper) (st:AS) (K:AS->Prop) (h:ME ctx ops true st K):
  ∀ρ a w,mG ay W df st ρ a w->(Code.region id ops true).wpIn (fw ro) n P (fun e a w=> ∃st ρ,(e= .normal/\ K st)/\ mG ay W df st ρ a w) a w:=by
 intro ρ a w bB
 have h:mT {ctx with ys:= [],dR:= []} ops ops.toList [] st [] fun st' lg=>if td ops lg then K st' else if td ops (TG st.heap lg) then K st' else False:=h
 obtain ⟨tr,h1,h2,h3⟩:=uE (ctx:= {ctx with ys:= [],dR:= []}) hT ⟨hS,rfl,rfl⟩ ops _ _ _ _ _ h
 simp only [List.nil_append] at h3
 have fin: ∀el,Good P ctx.X ops st tr el->K (n9 ops.toList st tr)->(Code.region id ops true).wpIn (fw ro) n P (fun e a w=> ∃st ρ,(e= .normal/\ K st)/\ mG ay W df st ρ a w) a w:=fun el hg h3=>by
  refine IX hm hX hg ro n id bB fun ρ' a' w' jT=> ?_
  have e:xF ops.toList tr st ops.size=n9 ops.toList st tr:=by
   unfold xF
   rw [List.take_of_length_le (by simp),List.take_of_length_le (by rw [h1];simp)]
  rw [e] at jT
  exact ⟨_,ρ',⟨rfl,h3⟩,jT⟩
 split at h3
 ·rename_i DB
  exact fin _ ⟨by simpa using h1,h2,BV DB,.inl rfl⟩ h3
 ·split at h3
  ·rename_i DB
   exact fin _ ⟨by simpa using h1,h2,BV DB,.inr rfl⟩ h3
  ·exact h3.elim
end
end Go.Ev
