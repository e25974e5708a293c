/- A region that draws its order: whatever order the edges allow comes to what the text's order comes to. -/
import Derived.Test.YtfgdjlhilladhaaGreatEvF
noncomputable section
set_option linter.unusedSectionVars false
set_option linter.unusedVariables false
set_option linter.unusedSimpArgs false
namespace Go.Ev
open Go.RowKit
def nE (all:Array Oper) (o:Oper) (st:AS) (b:Bool):Prop:=match o.guard with
 |none=>b=true
 |some (j,want)=> ∃d,GZ all j=some d/\ ((∃x,dG st.tmps d=cf x/\ (x==want)=b)\/ (dG st.tmps d= .AH []/\ b=false))
def o9 (o:Oper) (st:AS):Option Rec->AS
 |some r=>st.app o.dst r
 |none=> {st with tmps:=kg st.tmps o.dst aH}
def Rs (st:AS):Option Rec->pe
 |some r=>OC st.heap.length r
 |none=>nN st.heap.length
def tK:List Oper->AS->List (Option Rec)->AS
 |o::l,st,r::tr=>tK l (o9 o st r) tr
 |_,st,_=>st
def tS:List Oper->AS->List (Option Rec)->List pe
 |o::l,st,r::tr=>Rs st r::tS l (o9 o st r) tr
 |_,_,_=> []
section
variable {P:Program} {ctx:Ctx}
def YA (P:Program) (X:Addr->Value->Prop) (all:Array Oper) (o:Oper) (st:AS):Option Rec->Prop
 |some r=>nE all o st true/\ (∀x∈o.op.operands,pK st.tmps x≠ .dead)/\ cm P X o (pK st.tmps) (aA st.heap) st.heap.length r
 |none=>nE all o st false
def FJ (P:Program) (X:Addr->Value->Prop) (all:Array Oper):List Oper->AS->List (Option Rec)->Prop
 |o::l,st,r::tr=>YA P X all o st r/\ FJ P X all l (o9 o st r) tr
 |_,_,_=>True
theorem B5 (hT:aW P ctx.tt) (hS:VS P ctx) (all:Array Oper): ∀(l:List Oper) (dec:List Nat) (st:AS) (lg:List pe) (K:AS->List pe->Prop),qH ctx all l dec st lg K->
  ∃tr:List (Option Rec),tr.length=l.length/\ FJ P ctx.X all l st tr/\ K (tK l st tr) (lg++tS l st tr)
 | [],dec,st,lg,K,h=>⟨[],rfl,trivial,by have h:K st lg:=h;simpa [tK,tS] using h⟩
 |o::rest,dec,st,lg,K,h=>by
  have exec: ∀JW,nE all o st true->uF ctx o.op st (fun r=>qH ctx all rest JW (st.app o.dst r) (lg++ [OC st.heap.length r]) K)->
    ∃tr:List (Option Rec),tr.length=(o::rest).length/\ FJ P ctx.X all (o::rest) st tr/\ K (tK (o::rest) st tr) (lg++tS (o::rest) st tr):=by
   intro JW hg h
   obtain ⟨Tt,h⟩:=MG h
   obtain ⟨r,hl,hk⟩:=Zf hT hS h
   obtain ⟨tr,h1,h2,h3⟩:=B5 hT hS all rest JW _ _ K hk
   exact ⟨some r::tr,by simp [h1],⟨⟨hg,Tt,hl⟩,h2⟩,by simpa [tK,tS,o9,Rs] using h3⟩
  have skip: ∀JW,nE all o st false->qH ctx all rest JW {st with tmps:=kg st.tmps o.dst aH} (lg++ [nN st.heap.length]) K->
    ∃tr:List (Option Rec),tr.length=(o::rest).length/\ FJ P ctx.X all (o::rest) st tr/\ K (tK (o::rest) st tr) (lg++tS (o::rest) st tr):=by
   intro JW hg h
   obtain ⟨tr,h1,h2,h3⟩:=B5 hT hS all rest JW _ _ K h
   exact ⟨none::tr,by simp [h1],⟨hg,h2⟩,by simpa [tK,tS,o9,Rs] using h3⟩
  unfold qH at h
  split at h
  ·rename_i hg
   exact exec dec (by simp [nE,hg]) h
  ·rename_i j want hg
   split at h
   ·rename_i d hd
    split at h
    ·rename_i x hx
     have G: ∀b,(x==want)=b->nE all o st b:=fun b hb=>by simp only [nE,hg];exact ⟨d,hd,.inl ⟨x,hx,hb⟩⟩
     split at h
     ·split at h
      ·rename_i e;exact exec dec (G true (by simp [e])) h
      ·rename_i e;exact skip dec (G false (by simpa using e)) h
     ·cases want with
      |true=>
       dsimp only at h
       cases x with
       |true=>
        have h:uF ctx o.op {st with tmps:=st.tmps.set d (cf true)} _:=h
        rw [oY hx] at h
        exact exec _ (G true rfl) h
       |false=>
        have h:qH ctx all rest (d::dec) {st with tmps:=kg (st.tmps.set d (cf false)) o.dst aH} (lg++ [nN st.heap.length]) K:=h
        rw [oY hx] at h
        exact skip _ (G false rfl) h
      |false=>
       dsimp only at h
       cases x with
       |false=>
        have h:uF ctx o.op {st with tmps:=st.tmps.set d (cf false)} _:=h
        rw [oY hx] at h
        exact exec _ (G true rfl) h
       |true=>
        have h:qH ctx all rest (d::dec) {st with tmps:=kg (st.tmps.set d (cf true)) o.dst aH} (lg++ [nN st.heap.length]) K:=h
        rw [oY hx] at h
        exact skip _ (G false rfl) h
    ·rename_i hx
     exact skip dec (by simp only [nE,hg];exact ⟨d,hd,.inr ⟨hx,trivial⟩⟩) h
    ·exact h.elim
   ·exact h.elim
theorem VI {X:Addr->Value->Prop} {all:Array Oper} : ∀(l:List Oper) (st:AS) (tr:List (Option Rec)) (i:Nat) (o:Oper) (r:Option Rec),FJ P X all l st tr->l[i]? =some o->tr[i]? =some r->
  YA P X all o (tK (l.take i) st (tr.take i)) r/\ tK (l.take (i+1)) st (tr.take (i+1))=o9 o (tK (l.take i) st (tr.take i)) r/\
  (tS l st tr)[i]? =some (Rs (tK (l.take i) st (tr.take i)) r)
 |o'::l,st,r'::tr,0,o,r,h,ho,hr=>by
  simp at ho hr;subst ho;subst hr
  exact ⟨by simpa [tK] using h.1,by simp [tK],by simp [tS,tK]⟩
 |o'::l,st,r'::tr,i+1,o,r,h,ho,hr=>by
  have:=VI l (o9 o' st r') tr i o r h.2 (by simpa using ho) (by simpa using hr)
  simpa [tK,tS] using this
 | [],_,_,_,_,_,_,ho,_=>by simp at ho
 |_::_,_,[],_,_,_,_,_,hr=>by simp at hr
end
inductive Z5 (ops:List Oper):Nat->Nat->Prop
 |edge {i j:Nat} {o:Oper} :ops[i]? =some o->j∈direct o->Z5 ops i j
 |trans {i j k:Nat} {o:Oper} :ops[i]? =some o->k∈direct o->Z5 ops k j->Z5 ops i j
theorem Tm (acc:List Nat): ∀(ds:List Nat) (s j:Nat),(ds.foldl (fun s j=>s|||(2^j|||acc.getD j 0)) s).testBit j=true->s.testBit j=true\/ ∃k∈ds,j=k\/ (acc.getD k 0).testBit j=true
 | [],s,j,h=> .inl h
 |d::r,s,j,h=>by
  rcases Tm acc r _ j h with h1|⟨k,hk,h1⟩
  ·rw [Nat.testBit_or,Nat.testBit_or,Bool.or_eq_true,Bool.or_eq_true] at h1
   rcases h1 with h1|h1|h1
   ·exact .inl h1
   ·rw [Nat.testBit_two_pow] at h1
    exact .inr ⟨d,by simp,.inl (by simpa using (of_decide_eq_true h1).symm)⟩
   ·exact .inr ⟨d,by simp,.inr h1⟩
  ·exact .inr ⟨k,by simp [hk],h1⟩
theorem KL (ops:List Oper): ∀(l pre:List Oper) (acc:List Nat),ops=pre++l->acc.length=pre.length->(∀i j,(acc.getD i 0).testBit j=true->Z5 ops i j)->
  ∀i j,((rX l acc).getD i 0).testBit j=true->Z5 ops i j
 | [],pre,acc,_,_,h,i,j,hb=>h i j hb
 |o::l,pre,acc,he,hl,h,i,j,hb=>by
  refine KL ops l (pre++ [o]) _ (by simp [he]) (by simp [hl]) (fun i j hb=> ?_) i j hb
  simp only [List.getD,List.getElem?_append] at hb
  split at hb
  ·exact h i j hb
  ·rename_i hi
   by_cases e:i=pre.length
   ·subst e
    rw [hl,Nat.sub_self] at hb
    simp only [List.getElem?_cons_zero,Option.getD_some] at hb
    have ho:ops[pre.length]? =some o:=by rw [he];simp
    rcases Tm acc _ _ _ hb with h1|⟨k,hk,h1⟩
    ·simp at h1
    ·rcases h1 with rfl|h1
     ·exact .edge ho hk
     ·exact .trans ho hk (h k j h1)
   ·rw [List.getElem?_eq_none (by simp;omega)] at hb
    simp at hb
structure FS where
 T:Nat->AV
 G:HP
 Kn:Nat->Prop
theorem FS.ext' {a b:FS} (h1: ∀t,a.T t=b.T t) (h2: ∀m,a.G m=b.G m) (h3: ∀m,a.Kn m↔b.Kn m):a=b:=by
 obtain ⟨T,G,K⟩:=a
 obtain ⟨T',G',K'⟩:=b
 have e1:T=T':=funext h1
 have e2:G=G':=funext h2
 have e3:K=K':=funext fun m=>propext (h3 m)
 rw [e1,e2,e3]
def m5 (st:AS):FS:=⟨dG st.tmps,aA st.heap,(· <st.heap.length)⟩
def OQ (N:Nat) (o:Oper) (nm:Nat):Option Rec->FS->FS
 |some r,s=>⟨fun t=>if o.dst=some t/\ t<N then r.val else s.T t,dO r nm s.G,tP s.Kn nm r⟩
 |none,s=>⟨fun t=>if o.dst=some t/\ t<N then aH else s.T t,s.G,s.Kn⟩
theorem aee (d t N:Nat) (v w:AV):(if d=t/\ t<N then v else w)=if t=d/\ d<N then v else w:=by
 by_cases e:d=t
 ·subst e;simp
 ·rw [if_neg (fun h=>e h.1),if_neg (fun h=>e h.1.symm)]
theorem aeK {N:Nat} {o:Oper} {st:AS} (hN:st.tmps.length=N): ∀(r:Option Rec),(∀q,r=some q-> ∀p∈q.writes,aA st.heap p.1≠none)->OQ N o st.heap.length r (m5 st)=m5 (o9 o st r)
 |some r,h=>by
  refine FS.ext' (fun t=> ?_) (fun m=> ?_) (fun m=> ?_)
  ·simp only [OQ,m5,o9,AS.app,lC]
   cases o.dst with
   |none=>simp
   |some d=>simp only [Option.some.injEq,hN];exact aee d t N _ _
  ·simp only [OQ,m5,o9];rw [S0 st o.dst r (h r rfl)]
  ·simp only [OQ,m5,o9,tP,pg];omega
 |none,h=>by
  refine FS.ext' (fun t=> ?_) (fun m=>rfl) (fun m=>Iff.rfl)
  simp only [OQ,m5,o9,lC]
  cases o.dst with
  |none=>simp
  |some d=>simp only [Option.some.injEq,hN];exact aee d t N _ _
def covers (nm:Nat) (r:Option Rec) (m:Nat):Prop:=match r with
 |some r=>nm<=m/\ m<nm+r.fresh.length
 |none=>False
def zg:Option Rec->List Nat
 |some r=>r.writes.map (·.1)
 |none=> []
def wu:Option Rec->List Nat
 |some r=>r.aO
 |none=> []
theorem WN {ws:List (Nat×aX)} {m:Nat} (h:m∉ws.map (·.1)):dP ws m=none:=by
 induction ws with
 |nil=>rfl
 |cons p r ih=>
  simp only [List.map_cons,List.mem_cons,not_or] at h
  simp only [dP,ih h.2]
  rw [if_neg (fun e=>h.1 e.symm)]
theorem al3 {N nm:Nat} {o:Oper} {r:Option Rec} {s s':FS} {m:Nat} (h:s.G m=s'.G m):(OQ N o nm r s).G m=(OQ N o nm r s').G m:=by
 cases r with
 |none=>exact h
 |some r=>simp only [OQ,dO,h]
theorem abk {N nm:Nat} {o:Oper} {r:Option Rec} {s:FS} {m:Nat} (h1: ¬covers nm r m) (h2:m∉zg r):(OQ N o nm r s).G m=s.G m:=by
 cases r with
 |none=>rfl
 |some r=>
  have h1: ¬(nm<=m/\ m<nm+r.fresh.length):=h1
  have h2:m∉r.writes.map (·.1):=h2
  simp only [OQ,dO];rw [if_neg h1,WN h2]
section
variable (N:Nat) (ops:List Oper) (tr:List (Option Rec)) (bQ:AS)
def HR (i:Nat):AS:=tK (ops.take i) bQ (tr.take i)
def FE (i:Nat) (s:FS):FS:=match ops[i]?,tr[i]? with
 |some o,some r=>OQ N o (HR ops tr bQ i).heap.length r s
 |_,_=>s
def part (L:Nat->Bool) (is:List Nat) (s:FS):FS:=is.foldl (fun s i=>if L i then FE N ops tr bQ i s else s) s
def M8 (i:Nat):Option Nat:=(ops[i]?).bind (·.dst)
def fy (i:Nat):Option Rec:=(tr[i]?).join
def Ge (i:Nat):Nat:=(HR ops tr bQ i).heap.length
end
section
variable {N:Nat} {ops:List Oper} {tr:List (Option Rec)} {bQ:AS}
theorem af3 {i t:Nat} {s s':FS} (h:s.T t=s'.T t):(FE N ops tr bQ i s).T t=(FE N ops tr bQ i s').T t:=by
 unfold FE;split
 ·rename_i o r _ _
  cases r<;>simp only [OQ,h]
 ·exact h
theorem uE {i t:Nat} {s:FS} (h:M8 ops i≠some t):(FE N ops tr bQ i s).T t=s.T t:=by
 unfold FE;split
 ·rename_i o r ho _
  have:o.dst≠some t:=by simpa [M8,ho] using h
  cases r<;>simp only [OQ]<;>rw [if_neg (fun e=>this e.1)]
 ·rfl
theorem af2 {i m:Nat} {s s':FS} (h:s.G m=s'.G m):(FE N ops tr bQ i s).G m=(FE N ops tr bQ i s').G m:=by
 unfold FE;split
 ·exact al3 h
 ·exact h
theorem uD {i m:Nat} {s:FS} (h1: ¬covers (Ge ops tr bQ i) (fy tr i) m) (h2:m∉zg (fy tr i)):(FE N ops tr bQ i s).G m=s.G m:=by
 unfold FE;split
 ·rename_i o r _ hr
  have e:fy tr i=r:=by simp [fy,hr]
  rw [e] at h1 h2
  exact abk h1 h2
 ·rfl
theorem MF {i m:Nat} {s:FS} (hi:i<ops.length):(FE N ops tr bQ i s).Kn m↔s.Kn m\/ covers (Ge ops tr bQ i) (fy tr i) m:=by
 unfold FE;split
 ·rename_i o r _ hr
  have e:fy tr i=r:=by simp [fy,hr]
  rw [e]
  cases r with
  |none=>simp [OQ,covers]
  |some r=>exact Iff.rfl
 ·rename_i hh
  have:tr[i]? =none:=by
   cases hr:tr[i]? with
   |none=>rfl
   |some r=>exact (hh _ r (List.getElem?_eq_getElem hi) hr).elim
  simp [fy,this,covers]
theorem W9 {L L':Nat->Bool} {t:Nat} : ∀(is:List Nat) (s s':FS),s.T t=s'.T t->(∀i∈is,M8 ops i=some t->L i=L' i)->(part N ops tr bQ L is s).T t=(part N ops tr bQ L' is s').T t
 | [],s,s',h,_=>h
 |i::r,s,s',h,hl=>by
  refine W9 r _ _ ?_ (fun j hj=>hl j (by simp [hj]))
  by_cases e:M8 ops i=some t
  ·dsimp only
   rw [hl i (by simp) e]
   split
   ·exact af3 h
   ·exact h
  ·have h1: ∀(b:Bool) (s:FS),(if b then FE N ops tr bQ i s else s).T t=s.T t:=fun b s=>by
    cases b
    ·rfl
    ·exact uE e
   rw [h1,h1];exact h
theorem W8 {L L':Nat->Bool} {m:Nat} : ∀(is:List Nat) (s s':FS),s.G m=s'.G m->(∀i∈is,(covers (Ge ops tr bQ i) (fy tr i) m\/ m∈zg (fy tr i))->L i=L' i)->(part N ops tr bQ L is s).G m=(part N ops tr bQ L' is s').G m
 | [],s,s',h,_=>h
 |i::r,s,s',h,hl=>by
  refine W8 r _ _ ?_ (fun j hj=>hl j (by simp [hj]))
  by_cases e:covers (Ge ops tr bQ i) (fy tr i) m\/ m∈zg (fy tr i)
  ·dsimp only
   rw [hl i (by simp) e]
   split
   ·exact af2 h
   ·exact h
  ·have h1: ∀(b:Bool) (s:FS),(if b then FE N ops tr bQ i s else s).G m=s.G m:=fun b s=>by
    cases b
    ·rfl
    ·exact uD (fun c=>e (.inl c)) (fun c=>e (.inr c))
   rw [h1,h1];exact h
theorem Jr {L:Nat->Bool} {m:Nat} : ∀(is:List Nat) (s:FS),(∀i∈is,i<ops.length)->((part N ops tr bQ L is s).Kn m↔s.Kn m\/ ∃i∈is,L i=true/\ covers (Ge ops tr bQ i) (fy tr i) m)
 | [],s,_=>by simp [part]
 |i::r,s,hi=>by
  show (part N ops tr bQ L r _).Kn m↔_
  rw [Jr r _ (fun j hj=>hi j (by simp [hj]))]
  dsimp only
  by_cases e:L i=true
  ·rw [if_pos e,MF (hi i (by simp))]
   constructor
   ·rintro ((h|h)|⟨j,hj,h⟩)
    ·exact .inl h
    ·exact .inr ⟨i,by simp,e,h⟩
    ·exact .inr ⟨j,by simp [hj],h⟩
   ·rintro (h|⟨j,hj,h⟩)
    ·exact .inl (.inl h)
    ·rcases List.mem_cons.1 hj with rfl|hj
     ·exact .inl (.inr h.2)
     ·exact .inr ⟨j,hj,h⟩
  ·rw [if_neg e]
   constructor
   ·rintro (h|⟨j,hj,h⟩)
    ·exact .inl h
    ·exact .inr ⟨j,by simp [hj],h⟩
   ·rintro (h|⟨j,hj,h⟩)
    ·exact .inl h
    ·rcases List.mem_cons.1 hj with rfl|hj
     ·exact absurd h.1 e
     ·exact .inr ⟨j,hj,h⟩
structure acS (ops:List Oper) (tr:List (Option Rec)) (bQ:AS) (i j:Nat):Prop where
 dst: ∀d,M8 ops i=some d->M8 ops j≠some d
 wr: ∀m,m∈zg (fy tr i)->m∉zg (fy tr j)
 fr: ∀m,covers (Ge ops tr bQ i) (fy tr i) m-> ¬covers (Ge ops tr bQ j) (fy tr j) m
 wf: ∀m,m∈zg (fy tr i)-> ¬covers (Ge ops tr bQ j) (fy tr j) m
 fw: ∀m,m∈zg (fy tr j)-> ¬covers (Ge ops tr bQ i) (fy tr i) m
theorem af4 {i j:Nat} (h:acS ops tr bQ i j) (hi:i<ops.length) (hj:j<ops.length) (s:FS):FE N ops tr bQ j (FE N ops tr bQ i s)=FE N ops tr bQ i (FE N ops tr bQ j s):=by
 refine FS.ext' (fun t=> ?_) (fun m=> ?_) (fun m=> ?_)
 ·by_cases e:M8 ops i=some t
  ·rw [uE (h.dst t e)]
   exact af3 (uE (h.dst t e)).symm
  ·rw [uE (i:=i) e]
   exact af3 (uE e)
 ·by_cases e:covers (Ge ops tr bQ i) (fy tr i) m∨m∈zg (fy tr i)
  ·have e2: ¬covers (Ge ops tr bQ j) (fy tr j) m:=e.elim (h.fr m) (h.wf m)
   have e3:m∉zg (fy tr j):=fun hm=>e.elim (h.fw m hm) (fun hi=>h.wr m hi hm)
   rw [uD e2 e3]
   exact af2 (uD e2 e3).symm
  ·have e2: ¬covers (Ge ops tr bQ i) (fy tr i) m:=fun c=>e (.inl c)
   have e3:m∉zg (fy tr i):=fun c=>e (.inr c)
   rw [uD (i:=i) e2 e3]
   exact af2 (uD e2 e3)
 ·rw [MF hj,MF hi,MF hi,MF hj]
  constructor
  ·rintro ((h|h)|h)
   ·exact .inl (.inl h)
   ·exact .inr h
   ·exact .inl (.inr h)
  ·rintro ((h|h)|h)
   ·exact .inl (.inl h)
   ·exact .inr h
   ·exact .inl (.inr h)
theorem OY {L:Nat->Bool} {i:Nat} (hi:i<ops.length): ∀(is:List Nat) (s:FS),(∀j∈is,j<ops.length)->(∀j∈is,L j=true->acS ops tr bQ i j)->part N ops tr bQ L is (FE N ops tr bQ i s)=FE N ops tr bQ i (part N ops tr bQ L is s)
 | [],s,_,_=>rfl
 |j::r,s,hlt,h=>by
  show part N ops tr bQ L r _=FE N ops tr bQ i (part N ops tr bQ L r _)
  rw [<- OY hi r _ (fun k hk=>hlt k (by simp [hk])) (fun k hk=>h k (by simp [hk]))]
  congr 1
  dsimp only
  by_cases e:L j=true
  ·rw [if_pos e,if_pos e,af4 (h j (by simp) e) hi (hlt j (by simp))]
  ·rw [if_neg e,if_neg e]
theorem aeO {L:Nat->Bool} {n i:Nat} (hn:n<=ops.length) (hi:i<n) (hL:L i=false) (h: ∀j,j<n->i<j->L j=true->acS ops tr bQ i j) (s:FS):
  part N ops tr bQ (fun j=>L j||j==i) (List.range n) s=FE N ops tr bQ i (part N ops tr bQ L (List.range n) s):=by
 have e:List.range n=List.range i++i::List.range' (i+1) (n- (i+1)):=by
  have e1:=List.range'_append_1 (s:=0) (m:=i) (n:=n- (i+1)+1)
  rw [List.range_eq_range',List.range_eq_range',<- List.range'_succ]
  rw [Nat.zero_add] at e1
  rw [e1];congr 1;omega
 have ald: ∀(L:Nat->Bool) (s:FS),part N ops tr bQ L (List.range n) s=part N ops tr bQ L (List.range' (i+1) (n- (i+1))) (if L i then FE N ops tr bQ i (part N ops tr bQ L (List.range i) s) else part N ops tr bQ L (List.range i) s):=by
  intro L s;rw [e];simp [part,List.foldl_append]
 rw [ald,ald]
 have hsame: ∀(is:List Nat) (s:FS),(∀j∈is,j≠i)->part N ops tr bQ (fun j=>L j||j==i) is s=part N ops tr bQ L is s:=by
  intro is
  induction is with
  |nil=>intro s _;rfl
  |cons j r ih=>
   intro s hj
   show part N ops tr bQ _ r _=part N ops tr bQ L r _
   have:(j==i)=false:=by simpa using hj j (by simp)
   simp only [this,Bool.or_false]
   exact ih _ (fun k hk=>hj k (by simp [hk]))
 rw [hsame _ _ (fun j hj=>by have:=List.mem_range'_1.1 hj;omega),hsame _ _ (fun j hj=>by have:=List.mem_range.1 hj;omega)]
 simp only [hL,Bool.false_or,beq_self_eq_true,if_true,Bool.false_eq_true,if_false]
 exact OY (by omega) _ _ (fun j hj=>by have:=List.mem_range'_1.1 hj;omega) (fun j hj hl=>by have:=List.mem_range'_1.1 hj;exact h j (by omega) (by omega) hl)
end
section
variable {P:Program} {ctx:Ctx} {aC:mY} {W:World} {df:List Deferred}
theorem Z5.closed {ops:List Oper} {L:Nat->Prop} (hL: ∀i o,L i->ops[i]? =some o-> ∀j∈direct o,L j) {i j:Nat} (h:Z5 ops i j):L i->L j:=by
 induction h with
 |edge ho hj=>intro h;exact hL _ _ h ho _ hj
 |trans ho hk _ ih=>intro h;exact ih (hL _ _ h ho _ hk)
theorem Z5.abh {ops:List Oper} {L:Nat->Prop} (hL: ∀i o,L i->ops[i]? =some o-> ∀j∈direct o,L j) {i j:Nat} {o:Oper} (ho:ops[i]? =some o) (hd: ∀j∈direct o,L j) (h:Z5 ops i j):L j:=by
 cases h with
 |edge Cx hj=>rw [ho] at Cx;cases Cx;exact hd _ hj
 |trans Cx hk h'=>rw [ho] at Cx;cases Cx;exact h'.closed hL (hd _ hk)
theorem acA (o:Oper) (st:AS) (r:Option Rec):(o9 o st r).tmps.length=st.tmps.length:=by
 cases r<;>simp [o9,AS.app,tj]
theorem Yk (o:Oper) (st:AS) (r:Option Rec):(o9 o st r).heap.length=st.heap.length+(match r with|some r=>r.fresh.length|none=>0):=by
 cases r<;>simp [o9,AS.app,dU]
theorem TV {x:Nat} : ∀ {l:List Nat},IW x l=true↔x∈l
 | []=>by simp [IW]
 |y::r=>by simp [IW,TV (l:=r),Nat.beq_eq]
theorem Rz {x:Nat} {l:List Nat} :IW x l=l.contains x:=by
 rw [Bool.eq_iff_iff,TV];simp
theorem ZX: ∀ {a b:List Nat},aic a b=a.all fun m=>b.contains m
 | [],_=>rfl
 |x::r,b=>by simp only [aic,List.all_cons,ZX (a:=r),Rz]
theorem YL: ∀ {a b:List Nat},Wa a b=Ob a b
 | [],_=>rfl
 |x::r,b=>by
  have:=YL (a:=r) (b:=b)
  unfold Ob at this ⊢
  simp only [Wa,List.all_cons,this,Rz]
theorem OF: ∀(l:List Oper) (k:Nat) (acc:List Nat),acc.length=k->(Ry l k acc).reverse=rX l acc.reverse
 | [],k,acc,_=>rfl
 |o::l,k,acc,h=>by
  have h1:=OF l (k+1) ((direct o).foldl (fun s j=>s|||(2^j|||(bif Nat.blt j k then acc.getD (k- 1- j) 0 else 0))) 0::acc) (by simp [h])
  have e:(fun (s j:Nat)=>s|||(2^j|||(bif Nat.blt j k then acc.getD (k- 1- j) 0 else 0)))=fun s j=>s|||(2^j|||acc.reverse.getD j 0):=by
   funext s j
   rcases Nat.lt_or_ge j k with hj|hj
   ·have hb:Nat.blt j k=true:=by simpa [Nat.blt_eq] using hj
    rw [hb,cond_true,List.getD_eq_getElem?_getD,List.getD_eq_getElem?_getD,List.getElem?_reverse (by omega),h]
   ·have hb:Nat.blt j k=false:=by
     rw [Bool.eq_false_iff];simp only [ne_eq,Nat.blt_eq];omega
    rw [hb,cond_false,List.getD_eq_getElem?_getD,List.getElem?_eq_none (by simp;omega)]
    rfl
  rw [Ry,h1,rX,List.reverse_cons,e]
theorem ajO (ops:Array Oper):msF ops=rX ops.toList []:=OF _ 0 [] rfl
theorem OG: ∀(l:List Oper) (acc:List Nat),(rX l acc).length=acc.length+l.length
 | [],acc=>rfl
 |o::l,acc=>by rw [rX,OG l];simp;omega
theorem RH {all:Array Oper} : ∀(l:List Oper) (ms:List Nat) (i:Nat) (o:Oper) (m:Nat),l[i]? =some o->ms[i]? =some m->(oiL all l ms)[i]? =some ⟨o.dst,lZ all o,m⟩
 | [],_,i,o,m,h,_=>by simp at h
 |_::_,[],i,o,m,_,h=>by simp at h
 |p::l,q::ms,0,o,m,h,h'=>by
  simp only [List.getElem?_cons_zero,Option.some.injEq] at h h'
  subst h;subst h';rfl
 |p::l,q::ms,i+1,o,m,h,h'=>by
  simp only [List.getElem?_cons_succ] at h h'
  exact RH l ms i o m h h'
theorem Fq {o:OI} : ∀(l:List OI) (j k:Nat),Fp o l j k=true-> ∀(t:Nat) (p:OI),t<k->l[t]? =some p->o.m.testBit (j+t)=true\/ ZW o p=true
 | [],j,k,_,t,p,_,h=>by simp at h
 |q::l,j,0,_,t,p,ht,_=>by omega
 |q::l,j,k+1,h,t,p,ht,hp=>by
  simp only [Fp,Bool.and_eq_true,Bool.or_eq_true] at h
  match t,hp with
  |0,hp=>
   simp only [List.getElem?_cons_zero,Option.some.injEq] at hp
   subst hp
   exact h.1
  |t+1,hp=>
   have:=Fq l (j+1) k h.2 t p (by omega) (by simpa using hp)
   rwa [show j+1+t=j+(t+1) by omega] at this
theorem Fo {all:List OI} : ∀(l:List OI) (i:Nat),JE all l i=true-> ∀(t:Nat) (o:OI),l[t]? =some o->Fp o all 0 (i+t)=true
 | [],i,_,t,o,h=>by simp at h
 |q::l,i,h,t,o,ho=>by
  simp only [JE,Bool.and_eq_true] at h
  match t,ho with
  |0,ho=>
   simp only [List.getElem?_cons_zero,Option.some.injEq] at ho
   subst ho
   exact h.1
  |t+1,ho=>
   have:=Fo l (i+1) h.2 t o (by simpa using ho)
   rwa [show i+1+t=i+(t+1) by omega] at this
theorem GY: ∀(l:List Oper) (i:Nat),Q0 l i=true-> ∀(t:Nat) (o:Oper),l[t]? =some o-> ∀j∈direct o,j<i+t
 | [],i,_,t,o,h=>by simp at h
 |q::l,i,h,t,o,ho=>by
  simp only [Q0,Bool.and_eq_true] at h
  match t,ho with
  |0,ho=>
   simp only [List.getElem?_cons_zero,Option.some.injEq] at ho
   subst ho
   intro j hj
   have:=List.all_eq_true.1 h.1 j hj
   rw [Nat.blt_eq] at this
   exact this
  |t+1,ho=>
   intro j hj
   have:=GY l (i+1) h.2 t o (by simpa using ho) j hj
   omega
theorem J1: ∀(lg:List pe) (ms:List Nat) (k i:Nat) (l:pe) (m:Nat),lg[i]? =some l->ms[i]? =some m->(l.aO= []/\ l.wr= [])\/ DI.mk (k+i) m l.aO l.wr∈aaq lg ms k
 | [],_,_,i,_,_,h,_=>by simp at h
 |_::_,[],_,i,_,_,_,h=>by simp at h
 |q::lg,n::ms,k,0,l,m,h,h'=>by
  simp only [List.getElem?_cons_zero,Option.some.injEq] at h h'
  subst h;subst h'
  simp only [aaq]
  split
  ·exact .inl ⟨by assumption,by assumption⟩
  ·exact .inr (by simp)
 |q::lg,n::ms,k,i+1,l,m,h,h'=>by
  simp only [List.getElem?_cons_succ] at h h'
  have:=J1 lg ms (k+1) i l m h h'
  rw [show k+1+i=k+(i+1) by omega] at this
  rcases this with h1|h1
  ·exact .inl h1
  ·refine .inr ?_
   simp only [aaq]
   split
   ·exact h1
   ·exact List.mem_cons_of_mem _ h1
theorem OD (x:Nat): ∀(lg:List pe) (k:Nat),Rx x (mkL lg k)=(Dl lg x).map (· +k)
 | [],k=>rfl
 |l::lg,k=>by
  have ih:=OD x lg (k+1)
  have e: ∀(b:Bool),(l.nm<=x&&x<l.nm+l.cnt:Bool)=b->Dl (l::lg) x=bif b then some 0 else (Dl lg x).map (· +1):=fun b hb=>by
   unfold Dl
   rw [List.findIdx?_cons]
   simp only [hb]
   cases b<;>rfl
  simp only [mkL]
  split
  ·rename_i hc
   rw [ih,e false (by rw [hc];simp)]
   simp only [cond_false,Option.map_map]
   congr 1
   funext y
   simp only [Function.comp_apply];omega
  ·rename_i c hc
   simp only [Rx]
   have hb:(Nat.ble l.nm x&&Nat.blt x (l.nm+l.cnt))=(l.nm<=x&&x<l.nm+l.cnt:Bool):=by
    rw [Bool.eq_iff_iff];simp [Nat.blt_eq]
   rw [hb,e _ rfl,ih]
   cases (l.nm<=x&&x<l.nm+l.cnt:Bool)
   ·simp only [cond_false,Option.map_map]
    congr 1
    funext y
    simp only [Function.comp_apply];omega
   ·simp
theorem Yj {all:Array Oper} {o p:Oper} {m n:Nat} (h:ZW ⟨o.dst,lZ all o,m⟩ ⟨p.dst,lZ all p,n⟩=true):
  ((match p.dst with|some d=>o.dst !=some d&& !(lZ all o).contains d|none=>true)&&(match o.dst with|some d=> !(lZ all p).contains d|none=>true))=true:=by
 simp only [ZW,Bool.and_eq_true,Rz] at h ⊢
 refine ⟨?_,?_⟩
 ·have h:=h.1
  cases hp:p.dst with
  |none=>rfl
  |some d=>
   rw [hp] at h
   simp only [Bool.and_eq_true] at h ⊢
   refine ⟨?_,h.2⟩
   have h:=h.1
   cases ho:o.dst with
   |none=>simp
   |some e=>
    rw [ho] at h
    simp only [Bool.not_eq_true',<- Bool.not_eq_true,Nat.beq_eq] at h
    simp [h]
 ·exact h.2
theorem force_eq {α:Type} (n:Nat) (k:Nat->α):force n k=k n:=by cases n<;>rfl
theorem F4 {α:Type} : ∀(l:List Nat) (k:List Nat->α),Kf l k=k l
 | [],_=>rfl
 |x::r,k=>by rw [Kf,force_eq,F4 r]
theorem Ke {α:Type} : ∀(l:List pe) (k:List pe->α),Je l k=k l
 | [],_=>rfl
 |e::r,k=>by rw [Je,force_eq,force_eq,F4,F4,Ke r]
theorem SQ: ∀(D:List DI) (o:DI),o∈D->o.w= []\/ o∈wsL D
 | [],_,h=>by cases h
 |p::r,o,h=>by
  rcases List.mem_cons.1 h with rfl|h
  ·cases hw:o.w with
   |nil=>exact .inl rfl
   |cons a l=>refine .inr ?_;rw [wsL,hw];exact List.mem_cons_self ..
  ·rcases SQ r o h with h1|h1
   ·exact .inl h1
   ·refine .inr ?_
    rw [wsL];split
    ·exact h1
    ·exact List.mem_cons_of_mem _ h1
theorem Td {o p:DI} (ho:o.w= []) (hp:p.w= []):zu o p=true:=by
 simp [zu,ho,hp,Wa]
theorem aar {D:List DI} {mk:List (Nat×Nat×Nat)} (h:adj D mk=true):(D.all fun o=>Wb mk o&&D.all (zu o))=true:=by
 simp only [adj,Bool.and_eq_true] at h
 refine List.all_eq_true.2 fun o ho=> ?_
 simp only [Bool.and_eq_true]
 refine ⟨List.all_eq_true.1 h.1 o ho,List.all_eq_true.2 fun p hp=> ?_⟩
 rcases SQ D o ho with h1|h1
 ·rcases SQ D p hp with h2|h2
  ·exact Td h1 h2
  ·have:=List.all_eq_true.1 (List.all_eq_true.1 h.2 p h2) o ho
   simp only [Bool.and_eq_true] at this
   exact this.1
 ·have:=List.all_eq_true.1 (List.all_eq_true.1 h.2 o h1) p hp
  simp only [Bool.and_eq_true] at this
  exact this.2
theorem W5 {ops:Array Oper} {lg:List pe} (h:Jp ops lg=true):Zg ops lg=true:=by
 simp only [Jp,Ke,af5,Bool.and_eq_true] at h
 obtain ⟨⟨h1,h2,h3⟩,h4⟩:=h
 have h4:=aar h4
 have hlen:lg.length=ops.size:=Nat.eq_of_beq_eq_true h1
 rw [ajO] at h3 h4
 have hml:(rX ops.toList []).length=ops.size:=by rw [OG];simp
 simp only [Zg,Bool.and_eq_true,beq_iff_eq]
 refine ⟨hlen,List.all_eq_true.2 fun i hi=> ?_⟩
 have hi:i<ops.size:=List.mem_range.1 hi
 obtain ⟨o,ho⟩: ∃o,ops.toList[i]? =some o:=⟨ops[i],by simp [hi]⟩
 have Cx:ops[i]? =some o:=by simpa using ho
 obtain ⟨l,hl⟩: ∃l,lg[i]? =some l:=⟨_,List.getElem?_eq_getElem (by omega)⟩
 obtain ⟨m,hm⟩: ∃m,(rX ops.toList [])[i]? =some m:=⟨_,List.getElem?_eq_getElem (by omega)⟩
 have hmi:(rX ops.toList []).getD i 0=m:=by rw [List.getD_eq_getElem?_getD,hm];rfl
 generalize (rX ops.toList [])=ms at h3 h4 hml hm hmi ⊢
 unfold W6
 rw [Cx,hl]
 simp only [Bool.and_eq_true]
 have hd:=J1 lg ms 0 i l m hl hm
 rw [Nat.zero_add] at hd
 have hone:(l.wr.all fun m=>l.aO.contains m)=true/\ (l.aO.all fun x=>match Dl lg x with|some j=>j==i||m.testBit j|none=>true)=true:=by
  rcases hd with ⟨e1,e2⟩|hd
  ·rw [e1,e2];exact ⟨rfl,rfl⟩
  ·have:=List.all_eq_true.1 h4 _ hd
   simp only [Bool.and_eq_true,Wb] at this
   obtain ⟨⟨g1,g2⟩,_⟩:=this
   rw [ZX] at g1
   refine ⟨g1,List.all_eq_true.2 fun x hx=> ?_⟩
   have:=List.all_eq_true.1 g2 x hx
   rw [OD] at this
   cases hk:Dl lg x with
   |none=>rfl
   |some j=>
    rw [hk] at this
    simp only [Option.map_some,Nat.add_zero,Bool.or_eq_true,Nat.beq_eq] at this
    simpa using this
 rw [hmi]
 refine ⟨⟨⟨?_,hone.1⟩,hone.2⟩,List.all_eq_true.2 fun j hj=> ?_⟩
 ·refine List.all_eq_true.2 fun j hj=> ?_
  have:=GY _ _ h2 i o ho j hj
  simpa using this
 ·have hj:j<i:=List.mem_range.1 hj
  obtain ⟨oj,hoj⟩: ∃o,ops.toList[j]? =some o:=⟨ops[j]'(by omega),by simp [show j<ops.size by omega]⟩
  have anc:ops[j]? =some oj:=by simpa using hoj
  obtain ⟨lj,hlj⟩: ∃l,lg[j]? =some l:=⟨_,List.getElem?_eq_getElem (by omega)⟩
  obtain ⟨mj,hmj⟩: ∃m,ms[j]? =some m:=⟨_,List.getElem?_eq_getElem (by omega)⟩
  rw [anc,hlj]
  simp only [Bool.or_eq_true]
  rcases Bool.eq_false_or_eq_true (m.testBit j) with hb|hb
  ·exact .inl hb
  ·refine .inr ?_
   have hs:=Fq _ _ _ (Fo _ _ h3 i _ (RH _ _ i o m ho hm)) j _ (by omega) (RH _ _ j oj mj hoj hmj)
   rw [Nat.zero_add,hb] at hs
   have hs:=Yj (hs.resolve_left (by simp))
   simp only [Bool.and_eq_true] at hs ⊢
   refine ⟨⟨?_,hs.1⟩,hs.2⟩
   have hdj:=J1 lg ms 0 j lj mj hlj hmj
   rw [Nat.zero_add] at hdj
   rcases hd with ⟨e1,e2⟩|hd
   ·rw [e1,e2]
    refine ⟨⟨rfl,?_⟩,rfl⟩
    exact List.all_eq_true.2 fun _ _=>rfl
   ·rcases hdj with ⟨e1,e2⟩|hdj
    ·rw [e1,e2]
     exact ⟨⟨List.all_eq_true.2 fun _ _=>rfl,rfl⟩,List.all_eq_true.2 fun _ _=>rfl⟩
    ·have:=List.all_eq_true.1 h4 _ hd
     simp only [Bool.and_eq_true] at this
     have:=List.all_eq_true.1 this.2 _ hdj
     simp only [zu,Bool.or_eq_true,hb,YL,Bool.and_eq_true] at this
     rcases this with (h|h)|h
     ·rw [Nat.ble_eq] at h;omega
     ·cases h
     ·exact h
structure Good (P:Program) (X:Addr->Value->Prop) (ops:Array Oper) (bQ:AS) (tr:List (Option Rec)):Prop where
 len:tr.length=ops.size
 trace:FJ P X ops ops.toList bQ tr
 ord:Zg ops (tS ops.toList bQ tr)=true
variable {X:Addr->Value->Prop} {ops:Array Oper} {bQ:AS} {tr:List (Option Rec)}
theorem Good.at_ (h:Good P X ops bQ tr) {i:Nat} (hi:i<ops.size): ∃o r,ops[i]? =some o/\ ops.toList[i]? =some o/\ tr[i]? =some r/\ fy tr i=r/\ YA P X ops o (HR ops.toList tr bQ i) r/\
  HR ops.toList tr bQ (i+1)=o9 o (HR ops.toList tr bQ i) r/\ (tS ops.toList bQ tr)[i]? =some (Rs (HR ops.toList tr bQ i) r):=by
 have ho:ops.toList[i]? =some ops[i]:=by simp [hi]
 have hr:tr[i]? =some (tr[i]'(by rw [h.len];exact hi)):=List.getElem?_eq_getElem _
 obtain ⟨h1,h2,h3⟩:=VI ops.toList bQ tr i _ _ h.trace ho hr
 exact ⟨_,_,by simp [hi],ho,hr,by simp [fy,hr],h1,h2,h3⟩
theorem Good.akg (h:Good P X ops bQ tr): ∀i,i<=ops.size->(HR ops.toList tr bQ i).tmps.length=bQ.tmps.length
 |0,_=>by simp [HR,tK]
 |i+1,hi=>by
  obtain ⟨o,r,_,_,_,_,_,hs,_⟩:=h.at_ (i:=i) (by omega)
  rw [hs,acA,h.akg i (by omega)]
theorem Good.Za (h:Good P X ops bQ tr) {i:Nat} (hi:i<ops.size):Ge ops.toList tr bQ (i+1)=Ge ops.toList tr bQ i+(match fy tr i with|some r=>r.fresh.length|none=>0):=by
 obtain ⟨o,r,_,_,_,hr,_,hs,_⟩:=h.at_ hi
 simp only [Ge,hs,Yk,hr]
theorem Good.Jn (h:Good P X ops bQ tr) {i:Nat} : ∀ {j:Nat},i<j->j<=ops.size->Ge ops.toList tr bQ i+(match fy tr i with|some r=>r.fresh.length|none=>0)<=Ge ops.toList tr bQ j
 |0,hij,_=>by omega
 |j+1,hij,hj=>by
  by_cases e:i=j
  ·subst e;rw [h.Za (by omega)];exact Nat.le_refl _
  ·have h1:=h.Jn (i:=i) (j:=j) (by omega) (by omega)
   have h2:=h.Za (i:=j) (by omega)
   rw [h2];omega
theorem Good.Zb:Ge ops.toList tr bQ 0=bQ.heap.length:=by simp [Ge,HR,tK]
theorem Good.alZ (h:Good P X ops bQ tr) {i:Nat} (hi:i<=ops.size):bQ.heap.length<=Ge ops.toList tr bQ i:=by
 rcases Nat.eq_zero_or_pos i with rfl|h0
 ·rw [Good.Zb];exact Nat.le_refl _
 ·have:=h.Jn (i:=0) h0 hi;rw [Good.Zb] at this;omega
theorem uQ {nm:Nat} {r:Option Rec} {m:Nat} :covers nm r m↔nm<=m/\ m<nm+(match r with|some r=>r.fresh.length|none=>0):=by
 cases r with
 |none=>exact ⟨fun h=>h.elim,fun h=>by have h1:=h.1;have h2:=h.2;dsimp only at h2;omega⟩
 |some r=>exact Iff.rfl
theorem Good.xp (h:Good P X ops bQ tr) {i j m:Nat} (hi:i<ops.size) (hj:j<ops.size) (h1:covers (Ge ops.toList tr bQ i) (fy tr i) m) (h2:covers (Ge ops.toList tr bQ j) (fy tr j) m):i=j:=by
 rw [uQ] at h1 h2
 rcases Nat.lt_trichotomy i j with e|e|e
 ·have:=h.Jn e (by omega);omega
 ·exact e
 ·have:=h.Jn e (by omega);omega
def JP (ops:Array Oper) (i j:Nat):Bool:=((rX ops.toList []).getD i 0).testBit j
theorem zk {i j:Nat} (h:JP ops i j=true):Z5 ops.toList i j:=
 KL ops.toList ops.toList [] [] rfl rfl (fun i j hb=>by simp at hb) i j h
theorem u9 (st:AS) (r:Option Rec):(Rs st r).wr=zg r/\ (Rs st r).aO=wu r/\ (Rs st r).nm=st.heap.length/\ (Rs st r).cnt=(match r with|some r=>r.fresh.length|none=>0):=by
 cases r<;>exact ⟨rfl,rfl,rfl,rfl⟩
theorem BQ {a b:List Nat} (h:Ob a b=true): ∀m∈a,m∉b:=by
 intro m hm hb
 have:=List.all_eq_true.1 h m hm
 simp [hb] at this
theorem Good.one (h:Good P X ops bQ tr) {i:Nat} (hi:i<ops.size) {o:Oper} (ho:ops[i]? =some o):
  (∀j∈direct o,j<i)/\ (∀m∈zg (fy tr i),m∈wu (fy tr i))/\
  (∀m∈wu (fy tr i),∀j,j<ops.size->covers (Ge ops.toList tr bQ j) (fy tr j) m->j=i\/ JP ops i j=true)/\
  ∀j p,j<i->ops[j]? =some p->JP ops i j=false->
   (∀m∈zg (fy tr i),m∉wu (fy tr j))/\ (∀m∈zg (fy tr j),m∉wu (fy tr i))/\ (∀m∈zg (fy tr i),m∉zg (fy tr j))/\
   (∀d,p.dst=some d->o.dst≠some d/\ d∉lZ ops o)/\ (∀d,o.dst=some d->d∉lZ ops p):=by
 have Tv:=h.ord
 simp only [Zg,Bool.and_eq_true] at Tv
 have h1:=List.all_eq_true.1 Tv.2 i (List.mem_range.2 hi)
 obtain ⟨o',r,Cx,_,_,hr,_,_,hlg⟩:=h.at_ hi
 rw [ho] at Cx;cases Cx
 obtain ⟨f1,f2,f3,f4⟩:=u9 (HR ops.toList tr bQ i) r
 unfold W6 at h1
 rw [ho,hlg] at h1
 simp only [Bool.and_eq_true] at h1
 obtain ⟨⟨⟨h1,h2⟩,h3⟩,h4⟩:=h1
 refine ⟨fun j hj=>by simpa using List.all_eq_true.1 h1 j hj,fun m hm=> ?_,fun m hm j hj hc=> ?_,fun j p hj hp hb=> ?_⟩
 ·rw [hr] at hm ⊢
  have:=List.all_eq_true.1 h2 m (by rw [f1];exact hm)
  rw [f2] at this
  simpa using this
 ·rw [hr] at hm
  have:=List.all_eq_true.1 h3 m (by rw [f2];exact hm)
  have hmk:Dl (tS ops.toList bQ tr) m=some j:=by
   unfold Dl
   rw [List.findIdx?_eq_some_iff_getElem]
   obtain ⟨oj,rj,_,_,_,hrj,_,_,hlj⟩:=h.at_ hj
   obtain ⟨hjl,hje⟩:=List.getElem?_eq_some_iff.1 hlj
   obtain ⟨_,_,g3,g4⟩:=u9 (HR ops.toList tr bQ j) rj
   refine ⟨hjl,?_,fun k hk=> ?_⟩
   ·rw [hje,g3,g4]
    rw [uQ,hrj] at hc
    simp only [Ge] at hc
    simpa using hc
   ·obtain ⟨ok,rk,_,_,_,C5,_,_,hlk⟩:=h.at_ (i:=k) (by omega)
    obtain ⟨hkl,hke⟩:=List.getElem?_eq_some_iff.1 hlk
    obtain ⟨_,_,k3,k4⟩:=u9 (HR ops.toList tr bQ k) rk
    rw [hke,k3,k4]
    intro amU
    have:covers (Ge ops.toList tr bQ k) (fy tr k) m:=by
     rw [uQ,C5];simpa [Ge] using amU
    have:=h.xp (by omega) hj this hc
    omega
  rw [hmk] at this
  simp only [Bool.or_eq_true,beq_iff_eq] at this
  exact this
 ·have:=List.all_eq_true.1 h4 j (List.mem_range.2 hj)
  obtain ⟨oj,rj,hoj,_,_,hrj,_,_,hlj⟩:=h.at_ (i:=j) (by omega)
  rw [hp] at hoj;cases hoj
  obtain ⟨g1,g2,_,_⟩:=u9 (HR ops.toList tr bQ j) rj
  have hb':(((rX ops.toList []).getD i 0).testBit j)=false:=hb
  rw [hb',hp,hlj] at this
  simp only [Bool.false_or,Bool.and_eq_true,f1,f2,g1,g2] at this
  obtain ⟨⟨⟨⟨a1,a2⟩,a3⟩,a4⟩,a5⟩:=this
  rw [hr,hrj]
  refine ⟨BQ a1,BQ a2,BQ a3,fun d hd=> ?_,fun d hd=> ?_⟩
  ·rw [hd] at a4
   simp only [Bool.and_eq_true,bne_iff_ne,ne_eq,Bool.not_eq_true',List.contains_eq_mem,decide_eq_false_iff_not] at a4
   exact a4
  ·rw [hd] at a5
   simpa using a5
structure acX (aC:mY) (W:World) (df:List Deferred) (N:Nat) (F:FS) (ρ:Env) (a:Act) (w:World):Prop where
 tmps: ∀t,F.T t≠ .dead->a.tmps.getD t undef=(F.T t).af ρ
 ok: ∀t,(F.T t).ok F.Kn
 size:a.tmps.size=N
 defers:a.defers=df
 st:St aC W ρ F.Kn F.G w
theorem ahY {st:AS} {ρ:Env} {a:Act} {w:World} (h:ry aC W df st ρ a w):acX aC W df st.tmps.length (m5 st) ρ a w:=⟨h.tmps,h.kn,h.size,h.defers,h.st⟩
theorem ahZ {st:AS} {N:Nat} {ρ:Env} {a:Act} {w:World} (h:acX aC W df N (m5 st) ρ a w) (hN:st.tmps.length=N):ry aC W df st ρ a w:=⟨h.tmps,by rw [h.size,hN],h.defers,h.ok,h.st⟩
theorem aa1 {o:Oper} {t:Nat} (h:Operand.tmp t∈o.op.operands):t∈lZ ops o:=
 List.mem_append_left _ (List.mem_filterMap.2 ⟨.tmp t,Array.mem_toList_iff.2 h,rfl⟩)
theorem ace {N i:Nat} {F:FS} {ρ:Env} {a:Act} {w:World} {ro:Option Nat} {n:Nat} {Q:Exit->Act->World->Prop} (hX:GU aC W X) (hR:acX aC W df N F ρ a w) {o:Oper} (ho:ops[i]? =some o) {S:AS} {r:Option Rec}
  (hf:YA P X ops o S r) (hT: ∀t∈lZ ops o,F.T t=dG S.tmps t) (hG: ∀m∈wu r,F.G m=aA S.heap m) (hfr: ∀m,covers S.heap.length r m-> ¬F.Kn m):
  wpOpIn (fw ro) n P ops Q i (fun a' w'=> ∃ρ',acX aC W df N (OQ N o S.heap.length r F) ρ' a' w') a w:=by
 have Rh: ∀x∈o.op.operands,(pK S.tmps x≠ .dead->a.eval x=(pK S.tmps x).af ρ)/\ (pK S.tmps x).ok F.Kn:=by
  intro x hx
  cases x with
  |tmp t=>
   have:=hT t (aa1 hx)
   refine ⟨?_,?_⟩
   ·show dG S.tmps t≠ .dead→a.tmps.getD t undef=(dG S.tmps t).af ρ
    rw [<- this];exact hR.tmps t
   ·show (dG S.tmps t).ok F.Kn
    rw [<- this];exact hR.ok t
  |const v=>exact ⟨fun _=>(xZ v ρ).symm,Gf _ _⟩
  |global g=>exact ⟨fun _=>rfl,trivial⟩
  |func f=>exact ⟨fun _=>rfl,fun r hr=>absurd hr (by simp)⟩
 have hgd: ∀b,nE ops o S b->Region.wanted o (yielded ops a.tmps)=b:=by
  intro b hb
  unfold nE at hb
  split at hb
  ·rename_i hg;rw [hb];simp [Region.wanted,hg]
  ·rename_i j want hg
   obtain ⟨d,hd,hb⟩:=hb
   have h1:=hR.tmps d
   have e1:(ops[j]?).bind (·.dst)=some d:=by
    unfold GZ at hd;split at hd
    ·rename_i p hp;simp [hp,hd]
    ·cases hd
   rw [hT d (by unfold lZ;rw [hg];exact List.mem_append_right _ (by simp [hd]))] at h1
   rcases hb with ⟨x,hx,hxb⟩|⟨hx,hb⟩
   rotate_left
   ·have h1:=h1 (by rw [hx];simp)
    rw [hx] at h1
    rw [hb]
    rw [Array.getD_eq_getD_getElem?] at h1
    cases hq:a.tmps[d]? with
    |none=>simp [Region.wanted,hg,yielded,e1,hq]
    |some v=>
     rw [hq] at h1
     have e:v= .tuple #[]:=h1
     subst e
     simp [Region.wanted,hg,yielded,e1,hq]
   have Tt:dG S.tmps d≠ .dead:=by rw [hx];simp [cf]
   have h1:=h1 Tt
   rw [hx] at h1
   have e2:a.tmps[d]? =some (.bool x):=by
    rw [Array.getD_eq_getD_getElem?] at h1
    cases hq:a.tmps[d]? with
    |none=>rw [hq] at h1;cases h1
    |some v=>rw [hq] at h1;exact congrArg some h1
   simp only [Region.wanted,hg,yielded,e1,Option.bind_some,e2]
   rw [<- hxb];cases x<;>cases want<;>rfl
 unfold wpOpIn
 rw [ho]
 dsimp only
 cases r with
 |some r=>
  obtain ⟨hg,Tt,hl⟩:=hf
  rw [if_pos (hgd true hg)]
  refine hl.2 ro n aC W ρ F.Kn F.G w a _ Q hX (fun x hx=>(Rh x hx).1 (Tt x hx)) (fun x hx=>(Rh x hx).2) hG (fun k hk=>hfr _ ⟨by omega,by omega⟩) hR.st ?_
  intro ρ' w' uI SS hst
  refine ⟨ρ',fun t=> ?_,fun t=> ?_,by rw [DE,hR.size],by rw [put_defers,hR.defers],hst⟩
  ·rw [DD,hR.size]
   simp only [OQ]
   have hold:F.T t≠ .dead->a.tmps.getD t undef=(F.T t).af ρ':=fun hd=>by rw [hR.tmps t hd];exact (AV.bZ uI _ (hR.ok t)).symm
   cases o.dst with
   |none=>simpa using hold
   |some d=>
    simp only [Option.some.injEq]
    by_cases e:d=t
    ·subst e
     by_cases e2:d<N
     ·simp [e2]
     ·simp only [e2,and_false,if_false];exact hold
    ·have n1: ¬(t=d∧d<N):=fun h=>e h.1.symm
     have n2: ¬(d=t/\ t<N):=fun h=>e h.1
     simp only [n1,n2,if_false];exact hold
  ·simp only [OQ]
   split
   ·exact SS
   ·exact AV.bG (fun m hm=> .inl hm) _ (hR.ok t)
 |none=>
  rw [if_neg (by rw [hgd false hf];simp)]
  refine ⟨fun _ _=>trivial,ρ,fun t=> ?_,fun t=> ?_,by rw [DE,hR.size],by rw [put_defers,hR.defers],hR.st⟩
  ·rw [DD,hR.size]
   simp only [OQ]
   cases o.dst with
   |none=>simpa using hR.tmps t
   |some d=>
    simp only [Option.some.injEq]
    by_cases e:d=t
    ·subst e
     by_cases e2:d<N
     ·simp only [e2,and_self,if_true];intro _;rfl
     ·simp only [e2,and_false,if_false];exact hR.tmps d
    ·have n1: ¬(t=d∧d<N):=fun h=>e h.1.symm
     have n2: ¬(d=t/\ t<N):=fun h=>e h.1
     simp only [n1,n2,if_false];exact hR.tmps t
  ·simp only [OQ]
   split
   ·exact MO _
   ·exact hR.ok t
theorem Good.text (h:Good P X ops bQ tr): ∀i,i<=ops.size->part bQ.tmps.length ops.toList tr bQ (fun _=>true) (List.range i) (m5 bQ)=m5 (HR ops.toList tr bQ i)
 |0,_=>by simp [part,HR,tK]
 |i+1,hi=>by
  obtain ⟨o,r,_,ho,hr,_,hf,hs,_⟩:=h.at_ (i:=i) (by omega)
  have ih:=h.text i (by omega)
  have e:part bQ.tmps.length ops.toList tr bQ (fun _=>true) (List.range (i+1)) (m5 bQ)=FE bQ.tmps.length ops.toList tr bQ i (part bQ.tmps.length ops.toList tr bQ (fun _=>true) (List.range i) (m5 bQ)):=by
   rw [List.range_succ];simp [part,List.foldl_append]
  rw [e,ih,hs]
  unfold FE
  rw [ho,hr]
  exact aeK (h.akg i (by omega)) r fun q hq p hp=>by subst hq;exact hf.2.2.1 p hp
theorem ahF {N:Nat} {ops:List Oper} {tr:List (Option Rec)} {bQ:AS} {n i:Nat} (hi:i<=n) (s:FS):part N ops tr bQ (fun j=>decide (j<i)) (List.range n) s=part N ops tr bQ (fun _=>true) (List.range i) s:=by
 have e:List.range n=List.range i++List.range' i (n- i):=by
  have e1:=List.range'_append_1 (s:=0) (m:=i) (n:=n- i)
  rw [Nat.zero_add] at e1
  rw [List.range_eq_range',List.range_eq_range',e1];congr 1;omega
 have h1: ∀(is:List Nat) (s:FS),(∀j∈is,j<i)->part N ops tr bQ (fun j=>decide (j<i)) is s=part N ops tr bQ (fun _=>true) is s:=by
  intro is
  induction is with
  |nil=>intro s _;rfl
  |cons j r ih=>
   intro s hj
   show part N ops tr bQ _ r _=part N ops tr bQ _ r _
   simp only [hj j (by simp),decide_true,if_true]
   exact ih _ (fun k hk=>hj k (by simp [hk]))
 have h2: ∀(is:List Nat) (s:FS),(∀j∈is,i<=j)->part N ops tr bQ (fun j=>decide (j<i)) is s=s:=by
  intro is
  induction is with
  |nil=>intro s _;rfl
  |cons j r ih=>
   intro s hj
   show part N ops tr bQ _ r _=s
   have:decide (j<i)=false:=by have:=hj j (by simp);simpa using this
   simp only [this,Bool.false_eq_true,if_false]
   exact ih _ (fun k hk=>hj k (by simp [hk]))
 rw [e]
 show List.foldl _ s (_++_)=_
 rw [List.foldl_append]
 show part N ops tr bQ _ _ (part N ops tr bQ _ _ s)=_
 rw [h1 _ _ (fun j hj=>List.mem_range.1 hj),h2 _ _ (fun j hj=>(List.mem_range'_1.1 hj).1)]
theorem Good.adh (h:Good P X ops bQ tr) {i j:Nat} (hd:Z5 ops.toList i j):j<i:=by
 induction hd with
 | @edge i' j' o' Cx hj'=>
  have hi':i'<ops.size:=by have:=(List.getElem?_eq_some_iff.1 Cx).1;simpa using this
  exact (h.one hi' (by rw [<- Array.getElem?_toList];exact Cx)).1 _ hj'
 | @trans i' j' k' o' Cx hk' _ ih=>
  have hi':i'<ops.size:=by have:=(List.getElem?_eq_some_iff.1 Cx).1;simpa using this
  have:=(h.one hi' (by rw [<- Array.getElem?_toList];exact Cx)).1 _ hk'
  omega
theorem count_set: ∀(l:List Bool) (i:Nat),l[i]? =some false->(l.set i true).countP (!·)+1=l.countP (!·)
 | [],_,h=>by simp at h
 |b::r,0,h=>by simp at h;subst h;simp
 |b::r,i+1,h=>by
  have:=count_set r i (by simpa using h)
  simp only [List.set_cons_succ,List.countP_cons];omega
theorem UY (hm:P.follows .mixedOrders=true) (hX:GU aC W X) (h:Good P X ops bQ tr) (ro:Option Nat) (n id:Nat) {Q:Exit->Act->World->Prop} {ρ:Env} {a:Act} {w:World} (bE:ry aC W df bQ ρ a w)
    (hQ: ∀ρ' a' w',ry aC W df (HR ops.toList tr bQ ops.size) ρ' a' w'->Q .normal a' w'):(Code.region id ops true).wpIn (fw ro) n P Q a w:=by
  refine wpIn_region_any hm ?_
  let N:=bQ.tmps.length
  let Inv:Array Bool->Act->World->Prop:=fun L a w=>L.size=ops.size/\ (∀i o,L.getD i false=true->ops.toList[i]? =some o-> ∀j∈direct o,L.getD j false=true)/\
    ∃ρ,acX aC W df N (part N ops.toList tr bQ (fun i=>L.getD i false) (List.range ops.size) (m5 bQ)) ρ a w
  have hsz:ops.toList.length=ops.size:=by simp
  have hstep: ∀L a w i,Inv L a w->i∈Region.ready .any ops L->wpOpIn (fw ro) n P ops Q i (fun a' w'=>Inv (L.setIfInBounds i true) a' w') a w/\ i<ops.size/\ L[i]? =some false:=by
    rintro L a w i ⟨hL,hdc,ρ,hR⟩ hi
    simp only [Region.ready,List.mem_filter,List.mem_range,Bool.and_eq_true,Bool.not_eq_true'] at hi
    obtain ⟨hin,hnl,Wt⟩:=hi
    have hLi:L[i]? =some false:=by
      rw [Array.getElem?_eq_getElem (by omega)]
      rw [Array.getD_eq_getD_getElem?,Array.getElem?_eq_getElem (by omega)] at hnl
      simpa using hnl
    have hLf:L.getD i false=false:=by rw [Array.getD_eq_getD_getElem?,hLi];rfl
    obtain ⟨o,r,ho,hol,htr,hri,hf,hs,_⟩:=h.at_ hin
    have alf: ∀j∈direct o,L.getD j false=true:=by
      intro j hj
      simp only [direct,List.mem_map,List.mem_filter] at hj
      obtain ⟨e,⟨he,hb⟩,rfl⟩:=hj
      rw [ho] at Wt
      simp only [Option.map_some,Option.getD_some] at Wt
      have:=Array.all_eq_true_iff_forall_mem.1 Wt e (Array.mem_toList_iff.1 he)
      simpa [hb] using this
    have ale: ∀j,Z5 ops.toList i j->L.getD j false=true:=fun j hd=>hd.abh (L:=fun j=>L.getD j false=true) hdc hol alf
    have adE: ∀j,L.getD j false=true-> ¬Z5 ops.toList j i:=fun j hj hd=>by
      have:=hd.closed (L:=fun j=>L.getD j false=true) hdc hj
      rw [hLf] at this;cases this
    obtain ⟨_,hwt,htm,aiC⟩:=h.one hin ho
    have Tv: ∀j,j<ops.size->j≠i->(L.getD j false=decide (j<i))\/ ((j<i/\ JP ops i j=false)\/ (i<j/\ JP ops j i=false)):=by
      intro j hj hne
      rcases Nat.lt_or_gt_of_ne hne with hlt|hlt
      · cases hb:JP ops i j with
        |true=>left;rw [ale j (zk hb)];simp [hlt]
        |false=>exact .inr (.inl ⟨hlt,rfl⟩)
      · cases hb:JP ops j i with
        | true=>
          left
          cases hLj:L.getD j false with
          |true=>exact absurd (zk hb) (adE j hLj)
          |false=>simp;omega
        |false=>exact .inr (.inr ⟨hlt,rfl⟩)
    have hsi:m5 (HR ops.toList tr bQ i)=part N ops.toList tr bQ (fun j=>decide (j<i)) (List.range ops.size) (m5 bQ):=by
      rw [ahF (by omega),h.text i (by omega)]
    have hT: ∀t∈lZ ops o,(part N ops.toList tr bQ (fun i=>L.getD i false) (List.range ops.size) (m5 bQ)).T t=dG (HR ops.toList tr bQ i).tmps t:=by
      intro t ht
      show _=(m5 (HR ops.toList tr bQ i)).T t
      rw [hsi]
      refine W9 _ _ _ rfl fun j hj hd=> ?_
      have hj:=List.mem_range.1 hj
      by_cases hne:j=i
      · subst hne;rw [hLf];simp
      · obtain ⟨p,_,hp,FD,_⟩:=h.at_ hj
        have hpd:p.dst=some t:=by simpa [M8,FD] using hd
        rcases Tv j hj hne with e|⟨hlt,hb⟩|⟨hlt,hb⟩
        · exact e
        · exact absurd ht ((aiC j p hlt hp hb).2.2.2.1 t hpd).2
        · exact absurd ht ((h.one hj hp).2.2.2 i o hlt ho hb|>.2.2.2.2 t hpd)
    have hG: ∀m∈wu r,(part N ops.toList tr bQ (fun i=>L.getD i false) (List.range ops.size) (m5 bQ)).G m=aA (HR ops.toList tr bQ i).heap m:=by
      intro m hm'
      show _=(m5 (HR ops.toList tr bQ i)).G m
      rw [hsi]
      refine W8 _ _ _ rfl fun j hj hd=> ?_
      have hj:=List.mem_range.1 hj
      by_cases hne:j=i
      · subst hne;rw [hLf];simp
      · obtain ⟨p,_,hp,FD,_⟩:=h.at_ hj
        rcases hd with hc|hwj
        · rcases htm m (by rw [hri];exact hm') j hj hc with e|e
          · exact absurd e hne
          · have hji:j<i:=by
              rcases Tv j hj hne with _|_
              all_goals
                rcases Nat.lt_or_gt_of_ne hne with h1|h1
                · exact h1
                · exfalso
                  have:=h.adh (zk e)
                  omega
            rw [ale j (zk e)];simp [hji]
        · rcases Tv j hj hne with e|⟨hlt,hb⟩|⟨hlt,hb⟩
          · exact e
          · exact absurd (by rw [hri];exact hm') ((aiC j p hlt hp hb).2.1 m hwj)
          · exact absurd (by rw [hri];exact hm') (((h.one hj hp).2.2.2 i o hlt ho hb).1 m hwj)
    have hfr: ∀m,covers (HR ops.toList tr bQ i).heap.length r m-> ¬(part N ops.toList tr bQ (fun i=>L.getD i false) (List.range ops.size) (m5 bQ)).Kn m:=by
      intro m hc hk
      have Wo:covers (Ge ops.toList tr bQ i) (fy tr i) m:=by rw [hri];exact hc
      rw [Jr _ _ (fun j hj=>by rw [hsz];exact List.mem_range.1 hj)] at hk
      rcases hk with hk|⟨j,hj,hLj,hcj⟩
      · have h1:=h.alZ (i:=i) (by omega)
        rw [uQ] at Wo
        have:m<bQ.heap.length:=hk
        omega
      · have:=h.xp (List.mem_range.1 hj) hin hcj Wo
        subst this;rw [hLf] at hLj;cases hLj
    refine ⟨?_,hin,hLi⟩
    refine wpOpIn_mono ?_ (ace hX hR ho hf hT hG hfr)
    rintro a' w' ⟨ρ',hR'⟩
    have IQ: ∀j,(L.setIfInBounds i true).getD j false=(L.getD j false||j==i):=by
      intro j
      simp only [Array.getD_eq_getD_getElem?,Array.getElem?_setIfInBounds]
      by_cases e:i=j
      · subst e;simp [hL,hin]
      · simp [e,Ne.symm e]
    refine ⟨by simp [hL],fun j p hj hp k hk=> ?_,ρ', ?_⟩
    · rw [IQ] at hj ⊢
      rw [Bool.or_eq_true] at hj ⊢
      rcases hj with hj|hj
      · exact .inl (hdc j p hj hp k hk)
      · have:j=i:=by simpa using hj
        subst this
        rw [hol] at hp;cases hp
        exact .inl (alf k hk)
    · have amP:=aeO (N:=N) (ops:=ops.toList) (tr:=tr) (bQ:=bQ) (L:=fun i=>L.getD i false) (n:=ops.size) (i:=i) (by omega) hin hLf (fun j hj hij hLj=>by
          obtain ⟨p,_,hp,FD,_⟩:=h.at_ hj
          have hb:JP ops j i=false:=by
            cases hb:JP ops j i with
            |true=>exact absurd (zk hb) (adE j hLj)
            |false=>rfl
          have hbi:JP ops i j=false:=by
            cases hb:JP ops i j with
            | true=>
              exfalso
              have:=h.adh (zk hb)
              omega
            |false=>rfl
          obtain ⟨_,anA,anv,hpj⟩:=h.one hj hp
          have hp1:=hpj i o hij ho hb
          refine ⟨fun d hd hd2=> ?_,fun m hm1 hm2=>hp1.2.2.1 m hm2 hm1,fun m h1 h2=> ?_,fun m h1 h2=> ?_,fun m h1 h2=> ?_⟩
          · have e1:o.dst=some d:=by simpa [M8,hol] using hd
            have e2:p.dst=some d:=by simpa [M8,FD] using hd2
            exact (hp1.2.2.2.1 d e1).1 e2
          · have:=h.xp hin hj h1 h2;omega
          · rcases htm m (hwt m h1) j hj h2 with e|e
            · omega
            · rw [hbi] at e;cases e
          · rcases anv m (anA m h1) i hin h2 with e|e
            · omega
            · rw [hb] at e;cases e) (m5 bQ)
      have e1:(fun j=>(L.setIfInBounds i true).getD j false)=(fun j=>L.getD j false||j==i):=funext IQ
      rw [e1,amP]
      have e2:FE N ops.toList tr bQ i (part N ops.toList tr bQ (fun i=>L.getD i false) (List.range ops.size) (m5 bQ))=OQ N o (HR ops.toList tr bQ i).heap.length r (part N ops.toList tr bQ (fun i=>L.getD i false) (List.range ops.size) (m5 bQ)):=by
        conv=>lhs;unfold FE
        rw [hol,htr]
      rw [e2];exact hR'
  have hend: ∀L a w,Inv L a w->Region.ready .any ops L= []->Q .normal a w:=by
    rintro L a w ⟨hL,hdc,ρ,hR⟩ hr
    have pA: ∀i,i<ops.size->L.getD i false=true:=by
      intro i
      induction i using Nat.strongRecOn with
      | _ i ih=>
        intro hi
        cases hLi:L.getD i false with
        |true=>rfl
        | false=>
          exfalso
          obtain ⟨o,r,ho,hol,_⟩:=h.at_ hi
          have:i∈Region.ready .any ops L:=by
            simp only [Region.ready,List.mem_filter,List.mem_range,Bool.and_eq_true,Bool.not_eq_true']
            refine ⟨hi, ?_, ?_⟩
            · rw [Array.getD_eq_getD_getElem?,Array.getElem?_eq_getElem (by omega)] at hLi ⊢
              simpa using hLi
            · rw [ho]
              simp only [Option.map_some,Option.getD_some]
              refine Array.all_eq_true_iff_forall_mem.2 fun e he=> ?_
              cases hb:Region.binds .any e with
              |false=>simp
              | true=>
                have hmem:e.on∈direct o:=List.mem_map.2 ⟨e,List.mem_filter.2 ⟨Array.mem_toList_iff.2 he,hb⟩,rfl⟩
                have hlt:=(h.one hi ho).1 _ hmem
                simp [ih e.on hlt (by omega)]
          rw [hr] at this;cases this
    have e:part N ops.toList tr bQ (fun i=>L.getD i false) (List.range ops.size) (m5 bQ)=m5 (HR ops.toList tr bQ ops.size):=by
      rw [<- h.text ops.size (Nat.le_refl _)]
      refine FS.ext' (fun t=>W9 _ _ _ rfl fun i hi _=>by rw [pA i (List.mem_range.1 hi)]) (fun m=>W8 _ _ _ rfl fun i hi _=>by rw [pA i (List.mem_range.1 hi)]) (fun m=> ?_)
      rw [Jr _ _ (fun j hj=>by rw [hsz];exact List.mem_range.1 hj),Jr _ _ (fun j hj=>by rw [hsz];exact List.mem_range.1 hj)]
      constructor
      · rintro (h1|⟨i,hi,_,hc⟩)
        · exact .inl h1
        · exact .inr ⟨i,hi,rfl,hc⟩
      · rintro (h1|⟨i,hi,_,hc⟩)
        · exact .inl h1
        · exact .inr ⟨i,hi,pA i (List.mem_range.1 hi),hc⟩
    rw [e] at hR
    exact hQ ρ a w (ahZ hR (h.akg ops.size (Nat.le_refl _)))
  have main: ∀fuel L a w,L.toList.countP (!·)<=fuel->Inv L a w->wpAnyIn (fw ro) n P .any ops Q fuel L a w:=by
    intro fuel
    induction fuel with
    | zero=>
      intro L a w hc hI
      have hr:Region.ready .any ops L= []:=by
        rcases hq:Region.ready .any ops L with _|⟨i,r⟩
        · rfl
        · exfalso
          obtain ⟨_,_,hf⟩:=hstep L a w i hI (by rw [hq];simp)
          have:=count_set L.toList i (by simpa using hf)
          omega
      exact ⟨hr,hend L a w hI hr⟩
    | succ fuel ih=>
      intro L a w hc hI
      refine ⟨hend L a w hI,fun i hi=> ?_⟩
      obtain ⟨h1,_,hf⟩:=hstep L a w i hI hi
      refine wpOpIn_mono (fun a' w' hI'=>ih _ a' w' ?_ hI') h1
      have:=count_set L.toList i (by simpa using hf)
      rw [Array.toList_setIfInBounds];omega
  refine main _ _ _ _ (by have:=List.countP_le_length (p:=(!·)) (l:=(Array.replicate ops.size false).toList);simpa using this) ⟨by simp,fun i o hi=> ?_,ρ, ?_⟩
  · rw [Array.getD_eq_getD_getElem?,Array.getElem?_replicate] at hi
    split at hi<;>simp at hi
  · have e:part N ops.toList tr bQ (fun i=>(Array.replicate ops.size false).getD i false) (List.range ops.size) (m5 bQ)=m5 bQ:=by
      have:(fun i=>(Array.replicate ops.size false).getD i false)=fun _=>false:=by
        funext i;rw [Array.getD_eq_getD_getElem?,Array.getElem?_replicate];split<;>rfl
      rw [this]
      generalize List.range ops.size=is
      induction is with
      |nil=>rfl
      |cons j r ih=>exact ih
    rw [e]
    exact ahY (bE.drawn _)
theorem agS (hT:aW P ctx.tt) (hS:ae P ctx.specs) (hm:P.follows .mixedOrders=true) (hX:GU aC W ctx.X) (ro:Option Nat) (n id:Nat) (ops:Array Oper) (st:AS) (K:AS->Prop) (h:Zt ctx ops true st K):
  ∀ρ a w,ry aC W df st ρ a w->(Code.region id ops true).wpIn (fw ro) n P (fun e a w=> ∃st ρ,(e= .normal/\ K st)/\ ry aC W df st ρ a w) a w:=by
 intro ρ a w bE
 have h:qH {ctx with ys:= [],its:= []} ops ops.toList [] st [] fun st' lg=>if Jp ops lg then K st' else False:=h
 obtain ⟨tr,h1,h2,h3⟩:=B5 (ctx:= {ctx with ys:= [],its:= []}) hT ⟨hS,rfl,rfl⟩ ops _ _ _ _ _ h
 simp only [List.nil_append] at h3
 split at h3
 ·rename_i Tv
  have hg:Good P ctx.X ops st tr:=⟨by simpa using h1,h2,W5 Tv⟩
  refine UY hm hX hg ro n id bE fun ρ' a' w' mV=> ?_
  have e:HR ops.toList tr st ops.size=tK ops.toList st tr:=by
   unfold HR
   rw [List.take_of_length_le (by simp),List.take_of_length_le (by rw [h1];simp)]
  rw [e] at mV
  exact ⟨_,ρ',⟨rfl,h3⟩,mV⟩
 ·exact h3.elim
end
end Go.Ev
