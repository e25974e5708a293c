/- A region that draws its order: whatever order the edges allow comes to what the text's order comes to. -/
import Derived.Test.YtaipcbdilkcdbaaEvF
noncomputable section
set_option linter.unusedSectionVars false
set_option linter.unusedVariables false
set_option linter.unusedSimpArgs false
namespace Go.Ev
open Go.RowKit
def kX (all:Array Oper) (o:Oper) (st:AS) (b:Bool):Prop:=match o.guard with
 |none=>b=true
 |some (j,want)=> ∃d,yn all j=some d/\ ((∃x,dK st.tmps d=cw x/\ (x==want)=b)\/ (dK st.tmps d= .oP []/\ b=false))
def lS (o:Oper) (st:AS):Option Rec->AS
 |some r=>st.app o.dst r
 |none=> {st with tmps:=iU st.tmps o.dst aW}
def Fa (st:AS):Option Rec->lT
 |some r=>Du st.heap.length r
 |none=>lu st.heap.length
def o9:List Oper->AS->List (Option Rec)->AS
 |o::l,st,r::tr=>o9 l (lS o st r) tr
 |_,st,_=>st
def pA:List Oper->AS->List (Option Rec)->List lT
 |o::l,st,r::tr=>Fa st r::pA l (lS o st r) tr
 |_,_,_=> []
section
variable {P:Program} {ctx:Ctx}
def J7 (P:Program) (X:Addr->Value->Prop) (all:Array Oper) (o:Oper) (st:AS):Option Rec->Prop
 |some r=>kX all o st true/\ (∀x∈o.op.operands,mg st.tmps x≠ .dead)/\ cg P X o (mg st.tmps) (aj st.heap) st.heap.length r
 |none=>kX all o st false
def xp (P:Program) (X:Addr->Value->Prop) (all:Array Oper):List Oper->AS->List (Option Rec)->Prop
 |o::l,st,r::tr=>J7 P X all o st r/\ xp P X all l (lS o st r) tr
 |_,_,_=>True
theorem uC (hT:br P ctx.tt) (hS:Ip P ctx) (all:Array Oper): ∀(l:List Oper) (dec:List Nat) (st:AS) (lg:List lT) (K:AS->List lT->Prop),mZ ctx all l dec st lg K->
  ∃tr:List (Option Rec),tr.length=l.length/\ xp P ctx.X all l st tr/\ K (o9 l st tr) (lg++pA l st tr)
 | [],dec,st,lg,K,h=>⟨[],rfl,trivial,by have h:K st lg:=h;simpa [o9,pA] using h⟩
 |o::rest,dec,st,lg,K,h=>by
  have exec: ∀Aw,kX all o st true->pK ctx o.op st (fun r=>mZ ctx all rest Aw (st.app o.dst r) (lg++ [Du st.heap.length r]) K)->
    ∃tr:List (Option Rec),tr.length=(o::rest).length/\ xp P ctx.X all (o::rest) st tr/\ K (o9 (o::rest) st tr) (lg++pA (o::rest) st tr):=by
   intro Aw hg h
   obtain ⟨nE,h⟩:=Cm h
   obtain ⟨r,hl,hk⟩:=KO hT hS h
   obtain ⟨tr,h1,h2,h3⟩:=uC hT hS all rest Aw _ _ K hk
   exact ⟨some r::tr,by simp [h1],⟨⟨hg,nE,hl⟩,h2⟩,by simpa [o9,pA,lS,Fa] using h3⟩
  have skip: ∀Aw,kX all o st false->mZ ctx all rest Aw {st with tmps:=iU st.tmps o.dst aW} (lg++ [lu st.heap.length]) K->
    ∃tr:List (Option Rec),tr.length=(o::rest).length/\ xp P ctx.X all (o::rest) st tr/\ K (o9 (o::rest) st tr) (lg++pA (o::rest) st tr):=by
   intro Aw hg h
   obtain ⟨tr,h1,h2,h3⟩:=uC hT hS all rest Aw _ _ K h
   exact ⟨none::tr,by simp [h1],⟨hg,h2⟩,by simpa [o9,pA,lS,Fa] using h3⟩
  unfold mZ at h
  split at h
  ·rename_i hg
   exact exec dec (by simp [kX,hg]) h
  ·rename_i j want hg
   split at h
   ·rename_i d hd
    split at h
    ·rename_i x hx
     have G: ∀b,(x==want)=b->kX all o st b:=fun b hb=>by simp only [kX,hg];exact ⟨d,hd,.inl ⟨x,hx,hb⟩⟩
     split at h
     ·split at h
      ·rename_i e;exact exec dec (G true (by simp [e])) h
      ·rename_i e;exact skip dec (G false (by simpa using e)) h
     ·cases want with
      |true=>
       dsimp only at h
       cases x with
       |true=>
        have h:pK ctx o.op {st with tmps:=st.tmps.set d (cw true)} _:=h
        rw [lR hx] at h
        exact exec _ (G true rfl) h
       |false=>
        have h:mZ ctx all rest (d::dec) {st with tmps:=iU (st.tmps.set d (cw false)) o.dst aW} (lg++ [lu st.heap.length]) K:=h
        rw [lR hx] at h
        exact skip _ (G false rfl) h
      |false=>
       dsimp only at h
       cases x with
       |false=>
        have h:pK ctx o.op {st with tmps:=st.tmps.set d (cw false)} _:=h
        rw [lR hx] at h
        exact exec _ (G true rfl) h
       |true=>
        have h:mZ ctx all rest (d::dec) {st with tmps:=iU (st.tmps.set d (cw true)) o.dst aW} (lg++ [lu st.heap.length]) K:=h
        rw [lR hx] at h
        exact skip _ (G false rfl) h
    ·rename_i hx
     exact skip dec (by simp only [kX,hg];exact ⟨d,hd,.inr ⟨hx,trivial⟩⟩) h
    ·exact h.elim
   ·exact h.elim
theorem H7 {X:Addr->Value->Prop} {all:Array Oper} : ∀(l:List Oper) (st:AS) (tr:List (Option Rec)) (i:Nat) (o:Oper) (r:Option Rec),xp P X all l st tr->l[i]? =some o->tr[i]? =some r->
  J7 P X all o (o9 (l.take i) st (tr.take i)) r/\ o9 (l.take (i+1)) st (tr.take (i+1))=lS o (o9 (l.take i) st (tr.take i)) r/\
  (pA l st tr)[i]? =some (Fa (o9 (l.take i) st (tr.take i)) r)
 |o'::l,st,r'::tr,0,o,r,h,ho,hr=>by
  simp at ho hr;subst ho;subst hr
  exact ⟨by simpa [o9] using h.1,by simp [o9],by simp [pA,o9]⟩
 |o'::l,st,r'::tr,i+1,o,r,h,ho,hr=>by
  have:=H7 l (lS o' st r') tr i o r h.2 (by simpa using ho) (by simpa using hr)
  simpa [o9,pA] using this
 | [],_,_,_,_,_,_,ho,_=>by simp at ho
 |_::_,_,[],_,_,_,_,_,hr=>by simp at hr
end
inductive Lu (ops:List Oper):Nat->Nat->Prop
 |edge {i j:Nat} {o:Oper} :ops[i]? =some o->j∈direct o->Lu ops i j
 |trans {i j k:Nat} {o:Oper} :ops[i]? =some o->k∈direct o->Lu ops k j->Lu ops i j
theorem Gg (acc:List Nat): ∀(ds:List Nat) (s j:Nat),(ds.foldl (fun s j=>s|||(2^j|||acc.getD j 0)) s).testBit j=true->s.testBit j=true\/ ∃k∈ds,j=k\/ (acc.getD k 0).testBit j=true
 | [],s,j,h=> .inl h
 |d::r,s,j,h=>by
  rcases Gg acc r _ j h with h1|⟨k,hk,h1⟩
  ·rw [Nat.testBit_or,Nat.testBit_or,Bool.or_eq_true,Bool.or_eq_true] at h1
   rcases h1 with h1|h1|h1
   ·exact .inl h1
   ·rw [Nat.testBit_two_pow] at h1
    exact .inr ⟨d,by simp,.inl (by simpa using (of_decide_eq_true h1).symm)⟩
   ·exact .inr ⟨d,by simp,.inr h1⟩
  ·exact .inr ⟨k,by simp [hk],h1⟩
theorem Bn (ops:List Oper): ∀(l pre:List Oper) (acc:List Nat),ops=pre++l->acc.length=pre.length->(∀i j,(acc.getD i 0).testBit j=true->Lu ops i j)->
  ∀i j,((nX l acc).getD i 0).testBit j=true->Lu ops i j
 | [],pre,acc,_,_,h,i,j,hb=>h i j hb
 |o::l,pre,acc,he,hl,h,i,j,hb=>by
  refine Bn ops l (pre++ [o]) _ (by simp [he]) (by simp [hl]) (fun i j hb=> ?_) i j hb
  simp only [List.getD,List.getElem?_append] at hb
  split at hb
  ·exact h i j hb
  ·rename_i hi
   by_cases e:i=pre.length
   ·subst e
    rw [hl,Nat.sub_self] at hb
    simp only [List.getElem?_cons_zero,Option.getD_some] at hb
    have ho:ops[pre.length]? =some o:=by rw [he];simp
    rcases Gg acc _ _ _ hb with h1|⟨k,hk,h1⟩
    ·simp at h1
    ·rcases h1 with rfl|h1
     ·exact .edge ho hk
     ·exact .trans ho hk (h k j h1)
   ·rw [List.getElem?_eq_none (by simp;omega)] at hb
    simp at hb
structure FS where
 T:Nat->AV
 G:HP
 Kn:Nat->Prop
theorem FS.ext' {a b:FS} (h1: ∀t,a.T t=b.T t) (h2: ∀m,a.G m=b.G m) (h3: ∀m,a.Kn m↔b.Kn m):a=b:=by
 obtain ⟨T,G,K⟩:=a
 obtain ⟨T',G',K'⟩:=b
 have e1:T=T':=funext h1
 have e2:G=G':=funext h2
 have e3:K=K':=funext fun m=>propext (h3 m)
 rw [e1,e2,e3]
def kB (st:AS):FS:=⟨dK st.tmps,aj st.heap,(· <st.heap.length)⟩
def DD (N:Nat) (o:Oper) (nm:Nat):Option Rec->FS->FS
 |some r,s=>⟨fun t=>if o.dst=some t/\ t<N then r.val else s.T t,bB r nm s.G,iQ s.Kn nm r⟩
 |none,s=>⟨fun t=>if o.dst=some t/\ t<N then aW else s.T t,s.G,s.Kn⟩
theorem O4 (d t N:Nat) (v w:AV):(if d=t/\ t<N then v else w)=if t=d/\ d<N then v else w:=by
 by_cases e:d=t
 ·subst e;simp
 ·rw [if_neg (fun h=>e h.1),if_neg (fun h=>e h.1.symm)]
theorem Pu {N:Nat} {o:Oper} {st:AS} (hN:st.tmps.length=N): ∀(r:Option Rec),(∀q,r=some q-> ∀p∈q.writes,aj st.heap p.1≠none)->DD N o st.heap.length r (kB st)=kB (lS o st r)
 |some r,h=>by
  refine FS.ext' (fun t=> ?_) (fun m=> ?_) (fun m=> ?_)
  ·simp only [DD,kB,lS,AS.app,jv]
   cases o.dst with
   |none=>simp
   |some d=>simp only [Option.some.injEq,hN];exact O4 d t N _ _
  ·simp only [DD,kB,lS];rw [FT st o.dst r (h r rfl)]
  ·simp only [DD,kB,lS,iQ,lW];omega
 |none,h=>by
  refine FS.ext' (fun t=> ?_) (fun m=>rfl) (fun m=>Iff.rfl)
  simp only [DD,kB,lS,jv]
  cases o.dst with
  |none=>simp
  |some d=>simp only [Option.some.injEq,hN];exact O4 d t N _ _
def covers (nm:Nat) (r:Option Rec) (m:Nat):Prop:=match r with
 |some r=>nm<=m/\ m<nm+r.fresh.length
 |none=>False
def sr:Option Rec->List Nat
 |some r=>r.writes.map (·.1)
 |none=> []
def qC:Option Rec->List Nat
 |some r=>r.az
 |none=> []
theorem Jo {ws:List (Nat×aG)} {m:Nat} (h:m∉ws.map (·.1)):bW ws m=none:=by
 induction ws with
 |nil=>rfl
 |cons p r ih=>
  simp only [List.map_cons,List.mem_cons,not_or] at h
  simp only [bW,ih h.2]
  rw [if_neg (fun e=>h.1 e.symm)]
theorem Xb {N nm:Nat} {o:Oper} {r:Option Rec} {s s':FS} {m:Nat} (h:s.G m=s'.G m):(DD N o nm r s).G m=(DD N o nm r s').G m:=by
 cases r with
 |none=>exact h
 |some r=>simp only [DD,bB,h]
theorem MM {N nm:Nat} {o:Oper} {r:Option Rec} {s:FS} {m:Nat} (h1: ¬covers nm r m) (h2:m∉sr r):(DD N o nm r s).G m=s.G m:=by
 cases r with
 |none=>rfl
 |some r=>
  have h1: ¬(nm<=m/\ m<nm+r.fresh.length):=h1
  have h2:m∉r.writes.map (·.1):=h2
  simp only [DD,bB];rw [if_neg h1,Jo h2]
section
variable (N:Nat) (ops:List Oper) (tr:List (Option Rec)) (b9:AS)
def yX (i:Nat):AS:=o9 (ops.take i) b9 (tr.take i)
def xo (i:Nat) (s:FS):FS:=match ops[i]?,tr[i]? with
 |some o,some r=>DD N o (yX ops tr b9 i).heap.length r s
 |_,_=>s
def part (L:Nat->Bool) (is:List Nat) (s:FS):FS:=is.foldl (fun s i=>if L i then xo N ops tr b9 i s else s) s
def CF (i:Nat):Option Nat:=(ops[i]?).bind (·.dst)
def eA (i:Nat):Option Rec:=(tr[i]?).join
def xS (i:Nat):Nat:=(yX ops tr b9 i).heap.length
end
section
variable {N:Nat} {ops:List Oper} {tr:List (Option Rec)} {b9:AS}
theorem Qr {i t:Nat} {s s':FS} (h:s.T t=s'.T t):(xo N ops tr b9 i s).T t=(xo N ops tr b9 i s').T t:=by
 unfold xo;split
 ·rename_i o r _ _
  cases r<;>simp only [DD,h]
 ·exact h
theorem pJ {i t:Nat} {s:FS} (h:CF ops i≠some t):(xo N ops tr b9 i s).T t=s.T t:=by
 unfold xo;split
 ·rename_i o r ho _
  have:o.dst≠some t:=by simpa [CF,ho] using h
  cases r<;>simp only [DD]<;>rw [if_neg (fun e=>this e.1)]
 ·rfl
theorem Qq {i m:Nat} {s s':FS} (h:s.G m=s'.G m):(xo N ops tr b9 i s).G m=(xo N ops tr b9 i s').G m:=by
 unfold xo;split
 ·exact Xb h
 ·exact h
theorem pH {i m:Nat} {s:FS} (h1: ¬covers (xS ops tr b9 i) (eA tr i) m) (h2:m∉sr (eA tr i)):(xo N ops tr b9 i s).G m=s.G m:=by
 unfold xo;split
 ·rename_i o r _ hr
  have e:eA tr i=r:=by simp [eA,hr]
  rw [e] at h1 h2
  exact MM h1 h2
 ·rfl
theorem Cl {i m:Nat} {s:FS} (hi:i<ops.length):(xo N ops tr b9 i s).Kn m↔s.Kn m\/ covers (xS ops tr b9 i) (eA tr i) m:=by
 unfold xo;split
 ·rename_i o r _ hr
  have e:eA tr i=r:=by simp [eA,hr]
  rw [e]
  cases r with
  |none=>simp [DD,covers]
  |some r=>exact Iff.rfl
 ·rename_i hh
  have:tr[i]? =none:=by
   cases hr:tr[i]? with
   |none=>rfl
   |some r=>exact (hh _ r (List.getElem?_eq_getElem hi) hr).elim
  simp [eA,this,covers]
theorem JD {L L':Nat->Bool} {t:Nat} : ∀(is:List Nat) (s s':FS),s.T t=s'.T t->(∀i∈is,CF ops i=some t->L i=L' i)->(part N ops tr b9 L is s).T t=(part N ops tr b9 L' is s').T t
 | [],s,s',h,_=>h
 |i::r,s,s',h,hl=>by
  refine JD r _ _ ?_ (fun j hj=>hl j (by simp [hj]))
  by_cases e:CF ops i=some t
  ·dsimp only
   rw [hl i (by simp) e]
   split
   ·exact Qr h
   ·exact h
  ·have h1: ∀(b:Bool) (s:FS),(if b then xo N ops tr b9 i s else s).T t=s.T t:=fun b s=>by
    cases b
    ·rfl
    ·exact pJ e
   rw [h1,h1];exact h
theorem JC {L L':Nat->Bool} {m:Nat} : ∀(is:List Nat) (s s':FS),s.G m=s'.G m->(∀i∈is,(covers (xS ops tr b9 i) (eA tr i) m\/ m∈sr (eA tr i))->L i=L' i)->(part N ops tr b9 L is s).G m=(part N ops tr b9 L' is s').G m
 | [],s,s',h,_=>h
 |i::r,s,s',h,hl=>by
  refine JC r _ _ ?_ (fun j hj=>hl j (by simp [hj]))
  by_cases e:covers (xS ops tr b9 i) (eA tr i) m\/ m∈sr (eA tr i)
  ·dsimp only
   rw [hl i (by simp) e]
   split
   ·exact Qq h
   ·exact h
  ·have h1: ∀(b:Bool) (s:FS),(if b then xo N ops tr b9 i s else s).G m=s.G m:=fun b s=>by
    cases b
    ·rfl
    ·exact pH (fun c=>e (.inl c)) (fun c=>e (.inr c))
   rw [h1,h1];exact h
theorem z6 {L:Nat->Bool} {m:Nat} : ∀(is:List Nat) (s:FS),(∀i∈is,i<ops.length)->((part N ops tr b9 L is s).Kn m↔s.Kn m\/ ∃i∈is,L i=true/\ covers (xS ops tr b9 i) (eA tr i) m)
 | [],s,_=>by simp [part]
 |i::r,s,hi=>by
  show (part N ops tr b9 L r _).Kn m↔_
  rw [z6 r _ (fun j hj=>hi j (by simp [hj]))]
  dsimp only
  by_cases e:L i=true
  ·rw [if_pos e,Cl (hi i (by simp))]
   constructor
   ·rintro ((h|h)|⟨j,hj,h⟩)
    ·exact .inl h
    ·exact .inr ⟨i,by simp,e,h⟩
    ·exact .inr ⟨j,by simp [hj],h⟩
   ·rintro (h|⟨j,hj,h⟩)
    ·exact .inl (.inl h)
    ·rcases List.mem_cons.1 hj with rfl|hj
     ·exact .inl (.inr h.2)
     ·exact .inr ⟨j,hj,h⟩
  ·rw [if_neg e]
   constructor
   ·rintro (h|⟨j,hj,h⟩)
    ·exact .inl h
    ·exact .inr ⟨j,by simp [hj],h⟩
   ·rintro (h|⟨j,hj,h⟩)
    ·exact .inl h
    ·rcases List.mem_cons.1 hj with rfl|hj
     ·exact absurd h.1 e
     ·exact .inr ⟨j,hj,h⟩
structure Nz (ops:List Oper) (tr:List (Option Rec)) (b9:AS) (i j:Nat):Prop where
 dst: ∀d,CF ops i=some d->CF ops j≠some d
 wr: ∀m,m∈sr (eA tr i)->m∉sr (eA tr j)
 fr: ∀m,covers (xS ops tr b9 i) (eA tr i) m-> ¬covers (xS ops tr b9 j) (eA tr j) m
 wf: ∀m,m∈sr (eA tr i)-> ¬covers (xS ops tr b9 j) (eA tr j) m
 fw: ∀m,m∈sr (eA tr j)-> ¬covers (xS ops tr b9 i) (eA tr i) m
theorem Qs {i j:Nat} (h:Nz ops tr b9 i j) (hi:i<ops.length) (hj:j<ops.length) (s:FS):xo N ops tr b9 j (xo N ops tr b9 i s)=xo N ops tr b9 i (xo N ops tr b9 j s):=by
 refine FS.ext' (fun t=> ?_) (fun m=> ?_) (fun m=> ?_)
 ·by_cases e:CF ops i=some t
  ·rw [pJ (h.dst t e)]
   exact Qr (pJ (h.dst t e)).symm
  ·rw [pJ (i:=i) e]
   exact Qr (pJ e)
 ·by_cases e:covers (xS ops tr b9 i) (eA tr i) m∨m∈sr (eA tr i)
  ·have e2: ¬covers (xS ops tr b9 j) (eA tr j) m:=e.elim (h.fr m) (h.wf m)
   have e3:m∉sr (eA tr j):=fun hm=>e.elim (h.fw m hm) (fun hi=>h.wr m hi hm)
   rw [pH e2 e3]
   exact Qq (pH e2 e3).symm
  ·have e2: ¬covers (xS ops tr b9 i) (eA tr i) m:=fun c=>e (.inl c)
   have e3:m∉sr (eA tr i):=fun c=>e (.inr c)
   rw [pH (i:=i) e2 e3]
   exact Qq (pH e2 e3)
 ·rw [Cl hj,Cl hi,Cl hi,Cl hj]
  constructor
  ·rintro ((h|h)|h)
   ·exact .inl (.inl h)
   ·exact .inr h
   ·exact .inl (.inr h)
  ·rintro ((h|h)|h)
   ·exact .inl (.inl h)
   ·exact .inr h
   ·exact .inl (.inr h)
theorem DL {L:Nat->Bool} {i:Nat} (hi:i<ops.length): ∀(is:List Nat) (s:FS),(∀j∈is,j<ops.length)->(∀j∈is,L j=true->Nz ops tr b9 i j)->part N ops tr b9 L is (xo N ops tr b9 i s)=xo N ops tr b9 i (part N ops tr b9 L is s)
 | [],s,_,_=>rfl
 |j::r,s,hlt,h=>by
  show part N ops tr b9 L r _=xo N ops tr b9 i (part N ops tr b9 L r _)
  rw [<- DL hi r _ (fun k hk=>hlt k (by simp [hk])) (fun k hk=>h k (by simp [hk]))]
  congr 1
  dsimp only
  by_cases e:L j=true
  ·rw [if_pos e,if_pos e,Qs (h j (by simp) e) hi (hlt j (by simp))]
  ·rw [if_neg e,if_neg e]
theorem PB {L:Nat->Bool} {n i:Nat} (hn:n<=ops.length) (hi:i<n) (hL:L i=false) (h: ∀j,j<n->i<j->L j=true->Nz ops tr b9 i j) (s:FS):
  part N ops tr b9 (fun j=>L j||j==i) (List.range n) s=xo N ops tr b9 i (part N ops tr b9 L (List.range n) s):=by
 have e:List.range n=List.range i++i::List.range' (i+1) (n- (i+1)):=by
  have e1:=List.range'_append_1 (s:=0) (m:=i) (n:=n- (i+1)+1)
  rw [List.range_eq_range',List.range_eq_range',<- List.range'_succ]
  rw [Nat.zero_add] at e1
  rw [e1];congr 1;omega
 have V9: ∀(L:Nat->Bool) (s:FS),part N ops tr b9 L (List.range n) s=part N ops tr b9 L (List.range' (i+1) (n- (i+1))) (if L i then xo N ops tr b9 i (part N ops tr b9 L (List.range i) s) else part N ops tr b9 L (List.range i) s):=by
  intro L s;rw [e];simp [part,List.foldl_append]
 rw [V9,V9]
 have hsame: ∀(is:List Nat) (s:FS),(∀j∈is,j≠i)->part N ops tr b9 (fun j=>L j||j==i) is s=part N ops tr b9 L is s:=by
  intro is
  induction is with
  |nil=>intro s _;rfl
  |cons j r ih=>
   intro s hj
   show part N ops tr b9 _ r _=part N ops tr b9 L r _
   have:(j==i)=false:=by simpa using hj j (by simp)
   simp only [this,Bool.or_false]
   exact ih _ (fun k hk=>hj k (by simp [hk]))
 rw [hsame _ _ (fun j hj=>by have:=List.mem_range'_1.1 hj;omega),hsame _ _ (fun j hj=>by have:=List.mem_range.1 hj;omega)]
 simp only [hL,Bool.false_or,beq_self_eq_true,if_true,Bool.false_eq_true,if_false]
 exact DL (by omega) _ _ (fun j hj=>by have:=List.mem_range'_1.1 hj;omega) (fun j hj hl=>by have:=List.mem_range'_1.1 hj;exact h j (by omega) (by omega) hl)
end
section
variable {P:Program} {ctx:Ctx} {ax:iV} {W:World} {df:List Deferred}
theorem Lu.closed {ops:List Oper} {L:Nat->Prop} (hL: ∀i o,L i->ops[i]? =some o-> ∀j∈direct o,L j) {i j:Nat} (h:Lu ops i j):L i->L j:=by
 induction h with
 |edge ho hj=>intro h;exact hL _ _ h ho _ hj
 |trans ho hk _ ih=>intro h;exact ih (hL _ _ h ho _ hk)
theorem Lu.MJ {ops:List Oper} {L:Nat->Prop} (hL: ∀i o,L i->ops[i]? =some o-> ∀j∈direct o,L j) {i j:Nat} {o:Oper} (ho:ops[i]? =some o) (hd: ∀j∈direct o,L j) (h:Lu ops i j):L j:=by
 cases h with
 |edge tG hj=>rw [ho] at tG;cases tG;exact hd _ hj
 |trans tG hk h'=>rw [ho] at tG;cases tG;exact h'.closed hL (hd _ hk)
theorem Nk (o:Oper) (st:AS) (r:Option Rec):(lS o st r).tmps.length=st.tmps.length:=by
 cases r<;>simp [lS,AS.app,oK]
theorem JX (o:Oper) (st:AS) (r:Option Rec):(lS o st r).heap.length=st.heap.length+(match r with|some r=>r.fresh.length|none=>0):=by
 cases r<;>simp [lS,AS.app,dF]
theorem Bp {x:Nat} : ∀ {l:List Nat},zA x l=true↔x∈l
 | []=>by simp [zA]
 |y::r=>by simp [zA,Bp (l:=r),Nat.beq_eq]
theorem Fi {x:Nat} {l:List Nat} :zA x l=l.contains x:=by
 rw [Bool.eq_iff_iff,Bp];simp
theorem Ll: ∀ {a b:List Nat},SH a b=a.all fun m=>b.contains m
 | [],_=>rfl
 |x::r,b=>by simp only [SH,List.all_cons,Ll (a:=r),Fi]
theorem Kh: ∀ {a b:List Nat},AB a b=C9 a b
 | [],_=>rfl
 |x::r,b=>by
  have:=Kh (a:=r) (b:=b)
  unfold C9 at this ⊢
  simp only [AB,List.all_cons,this,Fi]
theorem Dx: ∀(l:List Oper) (k:Nat) (acc:List Nat),acc.length=k->(Fg l k acc).reverse=nX l acc.reverse
 | [],k,acc,_=>rfl
 |o::l,k,acc,h=>by
  have h1:=Dx l (k+1) ((direct o).foldl (fun s j=>s|||(2^j|||(bif Nat.blt j k then acc.getD (k- 1- j) 0 else 0))) 0::acc) (by simp [h])
  have e:(fun (s j:Nat)=>s|||(2^j|||(bif Nat.blt j k then acc.getD (k- 1- j) 0 else 0)))=fun s j=>s|||(2^j|||acc.reverse.getD j 0):=by
   funext s j
   rcases Nat.lt_or_ge j k with hj|hj
   ·have hb:Nat.blt j k=true:=by simpa [Nat.blt_eq] using hj
    rw [hb,cond_true,List.getD_eq_getElem?_getD,List.getD_eq_getElem?_getD,List.getElem?_reverse (by omega),h]
   ·have hb:Nat.blt j k=false:=by
     rw [Bool.eq_false_iff];simp only [ne_eq,Nat.blt_eq];omega
    rw [hb,cond_false,List.getD_eq_getElem?_getD,List.getElem?_eq_none (by simp;omega)]
    rfl
  rw [Fg,h1,nX,List.reverse_cons,e]
theorem UC (ops:Array Oper):XO ops=nX ops.toList []:=Dx _ 0 [] rfl
theorem Dy: ∀(l:List Oper) (acc:List Nat),(nX l acc).length=acc.length+l.length
 | [],acc=>rfl
 |o::l,acc=>by rw [nX,Dy l];simp;omega
theorem Fq {all:Array Oper} : ∀(l:List Oper) (ms:List Nat) (i:Nat) (o:Oper) (m:Nat),l[i]? =some o->ms[i]? =some m->(XQ all l ms)[i]? =some ⟨o.dst,jO all o,m⟩
 | [],_,i,o,m,h,_=>by simp at h
 |_::_,[],i,o,m,_,h=>by simp at h
 |p::l,q::ms,0,o,m,h,h'=>by
  simp only [List.getElem?_cons_zero,Option.some.injEq] at h h'
  subst h;subst h';rfl
 |p::l,q::ms,i+1,o,m,h,h'=>by
  simp only [List.getElem?_cons_succ] at h h'
  exact Fq l ms i o m h h'
theorem xg {o:OI} : ∀(l:List OI) (j k:Nat),xe o l j k=true-> ∀(t:Nat) (p:OI),t<k->l[t]? =some p->o.m.testBit (j+t)=true\/ Lk o p=true
 | [],j,k,_,t,p,_,h=>by simp at h
 |q::l,j,0,_,t,p,ht,_=>by omega
 |q::l,j,k+1,h,t,p,ht,hp=>by
  simp only [xe,Bool.and_eq_true,Bool.or_eq_true] at h
  match t,hp with
  |0,hp=>
   simp only [List.getElem?_cons_zero,Option.some.injEq] at hp
   subst hp
   exact h.1
  |t+1,hp=>
   have:=xg l (j+1) k h.2 t p (by omega) (by simpa using hp)
   rwa [show j+1+t=j+(t+1) by omega] at this
theorem xd {all:List OI} : ∀(l:List OI) (i:Nat),z9 all l i=true-> ∀(t:Nat) (o:OI),l[t]? =some o->xe o all 0 (i+t)=true
 | [],i,_,t,o,h=>by simp at h
 |q::l,i,h,t,o,ho=>by
  simp only [z9,Bool.and_eq_true] at h
  match t,ho with
  |0,ho=>
   simp only [List.getElem?_cons_zero,Option.some.injEq] at ho
   subst ho
   exact h.1
  |t+1,ho=>
   have:=xd l (i+1) h.2 t o (by simpa using ho)
   rwa [show i+1+t=i+(t+1) by omega] at this
theorem ym: ∀(l:List Oper) (i:Nat),EN l i=true-> ∀(t:Nat) (o:Oper),l[t]? =some o-> ∀j∈direct o,j<i+t
 | [],i,_,t,o,h=>by simp at h
 |q::l,i,h,t,o,ho=>by
  simp only [EN,Bool.and_eq_true] at h
  match t,ho with
  |0,ho=>
   simp only [List.getElem?_cons_zero,Option.some.injEq] at ho
   subst ho
   intro j hj
   have:=List.all_eq_true.1 h.1 j hj
   rw [Nat.blt_eq] at this
   exact this
  |t+1,ho=>
   intro j hj
   have:=ym l (i+1) h.2 t o (by simpa using ho) j hj
   omega
theorem AF: ∀(lg:List lT) (ms:List Nat) (k i:Nat) (l:lT) (m:Nat),lg[i]? =some l->ms[i]? =some m->(l.az= []/\ l.wr= [])\/ DI.mk (k+i) m l.az l.wr∈LY lg ms k
 | [],_,_,i,_,_,h,_=>by simp at h
 |_::_,[],_,i,_,_,_,h=>by simp at h
 |q::lg,n::ms,k,0,l,m,h,h'=>by
  simp only [List.getElem?_cons_zero,Option.some.injEq] at h h'
  subst h;subst h'
  simp only [LY]
  split
  ·exact .inl ⟨by assumption,by assumption⟩
  ·exact .inr (by simp)
 |q::lg,n::ms,k,i+1,l,m,h,h'=>by
  simp only [List.getElem?_cons_succ] at h h'
  have:=AF lg ms (k+1) i l m h h'
  rw [show k+1+i=k+(i+1) by omega] at this
  rcases this with h1|h1
  ·exact .inl h1
  ·refine .inr ?_
   simp only [LY]
   split
   ·exact h1
   ·exact List.mem_cons_of_mem _ h1
theorem Dw (x:Nat): ∀(lg:List lT) (k:Nat),Ff x (W2 lg k)=(vQ lg x).map (· +k)
 | [],k=>rfl
 |l::lg,k=>by
  have ih:=Dw x lg (k+1)
  have e: ∀(b:Bool),(l.nm<=x&&x<l.nm+l.cnt:Bool)=b->vQ (l::lg) x=bif b then some 0 else (vQ lg x).map (· +1):=fun b hb=>by
   unfold vQ
   rw [List.findIdx?_cons]
   simp only [hb]
   cases b<;>rfl
  simp only [W2]
  split
  ·rename_i hc
   rw [ih,e false (by rw [hc];simp)]
   simp only [cond_false,Option.map_map]
   congr 1
   funext y
   simp only [Function.comp_apply];omega
  ·rename_i c hc
   simp only [Ff]
   have hb:(Nat.ble l.nm x&&Nat.blt x (l.nm+l.cnt))=(l.nm<=x&&x<l.nm+l.cnt:Bool):=by
    rw [Bool.eq_iff_iff];simp [Nat.blt_eq]
   rw [hb,e _ rfl,ih]
   cases (l.nm<=x&&x<l.nm+l.cnt:Bool)
   ·simp only [cond_false,Option.map_map]
    congr 1
    funext y
    simp only [Function.comp_apply];omega
   ·simp
theorem JW {all:Array Oper} {o p:Oper} {m n:Nat} (h:Lk ⟨o.dst,jO all o,m⟩ ⟨p.dst,jO all p,n⟩=true):
  ((match p.dst with|some d=>o.dst !=some d&& !(jO all o).contains d|none=>true)&&(match o.dst with|some d=> !(jO all p).contains d|none=>true))=true:=by
 simp only [Lk,Bool.and_eq_true,Fi] at h ⊢
 refine ⟨?_,?_⟩
 ·have h:=h.1
  cases hp:p.dst with
  |none=>rfl
  |some d=>
   rw [hp] at h
   simp only [Bool.and_eq_true] at h ⊢
   refine ⟨?_,h.2⟩
   have h:=h.1
   cases ho:o.dst with
   |none=>simp
   |some e=>
    rw [ho] at h
    simp only [Bool.not_eq_true',<- Bool.not_eq_true,Nat.beq_eq] at h
    simp [h]
 ·exact h.2
theorem force_eq {α:Type} (n:Nat) (k:Nat->α):force n k=k n:=by cases n<;>rfl
theorem xJ {α:Type} : ∀(l:List Nat) (k:List Nat->α),AN l k=k l
 | [],_=>rfl
 |x::r,k=>by rw [AN,force_eq,xJ r]
theorem AL {α:Type} : ∀(l:List lT) (k:List lT->α),zP l k=k l
 | [],_=>rfl
 |e::r,k=>by rw [zP,force_eq,force_eq,xJ,xJ,AL r]
theorem FH: ∀(D:List DI) (o:DI),o∈D->o.w= []\/ o∈VD D
 | [],_,h=>by cases h
 |p::r,o,h=>by
  rcases List.mem_cons.1 h with rfl|h
  ·cases hw:o.w with
   |nil=>exact .inl rfl
   |cons a l=>refine .inr ?_;rw [VD,hw];exact List.mem_cons_self ..
  ·rcases FH r o h with h1|h1
   ·exact .inl h1
   ·refine .inr ?_
    rw [VD];split
    ·exact h1
    ·exact List.mem_cons_of_mem _ h1
theorem Gb {o p:DI} (ho:o.w= []) (hp:p.w= []):sA o p=true:=by
 simp [sA,ho,hp,AB]
theorem LZ {D:List DI} {mk:List (Nat×Nat×Nat)} (h:N4 D mk=true):(D.all fun o=>IE mk o&&D.all (sA o))=true:=by
 simp only [N4,Bool.and_eq_true] at h
 refine List.all_eq_true.2 fun o ho=> ?_
 simp only [Bool.and_eq_true]
 refine ⟨List.all_eq_true.1 h.1 o ho,List.all_eq_true.2 fun p hp=> ?_⟩
 rcases FH D o ho with h1|h1
 ·rcases FH D p hp with h2|h2
  ·exact Gb h1 h2
  ·have:=List.all_eq_true.1 (List.all_eq_true.1 h.2 p h2) o ho
   simp only [Bool.and_eq_true] at this
   exact this.1
 ·have:=List.all_eq_true.1 (List.all_eq_true.1 h.2 o h1) p hp
  simp only [Bool.and_eq_true] at this
  exact this.2
theorem Jx {ops:Array Oper} {lg:List lT} (h:zZ ops lg=true):KP ops lg=true:=by
 simp only [zZ,AL,Qt,Bool.and_eq_true] at h
 obtain ⟨⟨h1,h2,h3⟩,h4⟩:=h
 have h4:=LZ h4
 have hlen:lg.length=ops.size:=Nat.eq_of_beq_eq_true h1
 rw [UC] at h3 h4
 have hml:(nX ops.toList []).length=ops.size:=by rw [Dy];simp
 simp only [KP,Bool.and_eq_true,beq_iff_eq]
 refine ⟨hlen,List.all_eq_true.2 fun i hi=> ?_⟩
 have hi:i<ops.size:=List.mem_range.1 hi
 obtain ⟨o,ho⟩: ∃o,ops.toList[i]? =some o:=⟨ops[i],by simp [hi]⟩
 have tG:ops[i]? =some o:=by simpa using ho
 obtain ⟨l,hl⟩: ∃l,lg[i]? =some l:=⟨_,List.getElem?_eq_getElem (by omega)⟩
 obtain ⟨m,hm⟩: ∃m,(nX ops.toList [])[i]? =some m:=⟨_,List.getElem?_eq_getElem (by omega)⟩
 have Wm:(nX ops.toList []).getD i 0=m:=by rw [List.getD_eq_getElem?_getD,hm];rfl
 generalize (nX ops.toList [])=ms at h3 h4 hml hm Wm ⊢
 unfold Jy
 rw [tG,hl]
 simp only [Bool.and_eq_true]
 have hd:=AF lg ms 0 i l m hl hm
 rw [Nat.zero_add] at hd
 have hone:(l.wr.all fun m=>l.az.contains m)=true/\ (l.az.all fun x=>match vQ lg x with|some j=>j==i||m.testBit j|none=>true)=true:=by
  rcases hd with ⟨e1,e2⟩|hd
  ·rw [e1,e2];exact ⟨rfl,rfl⟩
  ·have:=List.all_eq_true.1 h4 _ hd
   simp only [Bool.and_eq_true,IE] at this
   obtain ⟨⟨g1,g2⟩,_⟩:=this
   rw [Ll] at g1
   refine ⟨g1,List.all_eq_true.2 fun x hx=> ?_⟩
   have:=List.all_eq_true.1 g2 x hx
   rw [Dw] at this
   cases hk:vQ lg x with
   |none=>rfl
   |some j=>
    rw [hk] at this
    simp only [Option.map_some,Nat.add_zero,Bool.or_eq_true,Nat.beq_eq] at this
    simpa using this
 rw [Wm]
 refine ⟨⟨⟨?_,hone.1⟩,hone.2⟩,List.all_eq_true.2 fun j hj=> ?_⟩
 ·refine List.all_eq_true.2 fun j hj=> ?_
  have:=ym _ _ h2 i o ho j hj
  simpa using this
 ·have hj:j<i:=List.mem_range.1 hj
  obtain ⟨oj,Ws⟩: ∃o,ops.toList[j]? =some o:=⟨ops[j]'(by omega),by simp [show j<ops.size by omega]⟩
  have YR:ops[j]? =some oj:=by simpa using Ws
  obtain ⟨lj,Vp⟩: ∃l,lg[j]? =some l:=⟨_,List.getElem?_eq_getElem (by omega)⟩
  obtain ⟨mj,Z9⟩: ∃m,ms[j]? =some m:=⟨_,List.getElem?_eq_getElem (by omega)⟩
  rw [YR,Vp]
  simp only [Bool.or_eq_true]
  rcases Bool.eq_false_or_eq_true (m.testBit j) with hb|hb
  ·exact .inl hb
  ·refine .inr ?_
   have hs:=xg _ _ _ (xd _ _ h3 i _ (Fq _ _ i o m ho hm)) j _ (by omega) (Fq _ _ j oj mj Ws Z9)
   rw [Nat.zero_add,hb] at hs
   have hs:=JW (hs.resolve_left (by simp))
   simp only [Bool.and_eq_true] at hs ⊢
   refine ⟨⟨?_,hs.1⟩,hs.2⟩
   have Nt:=AF lg ms 0 j lj mj Vp Z9
   rw [Nat.zero_add] at Nt
   rcases hd with ⟨e1,e2⟩|hd
   ·rw [e1,e2]
    refine ⟨⟨rfl,?_⟩,rfl⟩
    exact List.all_eq_true.2 fun _ _=>rfl
   ·rcases Nt with ⟨e1,e2⟩|Nt
    ·rw [e1,e2]
     exact ⟨⟨List.all_eq_true.2 fun _ _=>rfl,rfl⟩,List.all_eq_true.2 fun _ _=>rfl⟩
    ·have:=List.all_eq_true.1 h4 _ hd
     simp only [Bool.and_eq_true] at this
     have:=List.all_eq_true.1 this.2 _ Nt
     simp only [sA,Bool.or_eq_true,hb,Kh,Bool.and_eq_true] at this
     rcases this with (h|h)|h
     ·rw [Nat.ble_eq] at h;omega
     ·cases h
     ·exact h
structure Good (P:Program) (X:Addr->Value->Prop) (ops:Array Oper) (b9:AS) (tr:List (Option Rec)):Prop where
 len:tr.length=ops.size
 trace:xp P X ops ops.toList b9 tr
 ord:KP ops (pA ops.toList b9 tr)=true
variable {X:Addr->Value->Prop} {ops:Array Oper} {b9:AS} {tr:List (Option Rec)}
theorem Good.at_ (h:Good P X ops b9 tr) {i:Nat} (hi:i<ops.size): ∃o r,ops[i]? =some o/\ ops.toList[i]? =some o/\ tr[i]? =some r/\ eA tr i=r/\ J7 P X ops o (yX ops.toList tr b9 i) r/\
  yX ops.toList tr b9 (i+1)=lS o (yX ops.toList tr b9 i) r/\ (pA ops.toList b9 tr)[i]? =some (Fa (yX ops.toList tr b9 i) r):=by
 have ho:ops.toList[i]? =some ops[i]:=by simp [hi]
 have hr:tr[i]? =some (tr[i]'(by rw [h.len];exact hi)):=List.getElem?_eq_getElem _
 obtain ⟨h1,h2,h3⟩:=H7 ops.toList b9 tr i _ _ h.trace ho hr
 exact ⟨_,_,by simp [hi],ho,hr,by simp [eA,hr],h1,h2,h3⟩
theorem Good.Va (h:Good P X ops b9 tr): ∀i,i<=ops.size->(yX ops.toList tr b9 i).tmps.length=b9.tmps.length
 |0,_=>by simp [yX,o9]
 |i+1,hi=>by
  obtain ⟨o,r,_,_,_,_,_,hs,_⟩:=h.at_ (i:=i) (by omega)
  rw [hs,Nk,h.Va i (by omega)]
theorem Good.KK (h:Good P X ops b9 tr) {i:Nat} (hi:i<ops.size):xS ops.toList tr b9 (i+1)=xS ops.toList tr b9 i+(match eA tr i with|some r=>r.fresh.length|none=>0):=by
 obtain ⟨o,r,_,_,_,hr,_,hs,_⟩:=h.at_ hi
 simp only [xS,hs,JX,hr]
theorem Good.zW (h:Good P X ops b9 tr) {i:Nat} : ∀ {j:Nat},i<j->j<=ops.size->xS ops.toList tr b9 i+(match eA tr i with|some r=>r.fresh.length|none=>0)<=xS ops.toList tr b9 j
 |0,hij,_=>by omega
 |j+1,hij,hj=>by
  by_cases e:i=j
  ·subst e;rw [h.KK (by omega)];exact Nat.le_refl _
  ·have h1:=h.zW (i:=i) (j:=j) (by omega) (by omega)
   have h2:=h.KK (i:=j) (by omega)
   rw [h2];omega
theorem Good.KL:xS ops.toList tr b9 0=b9.heap.length:=by simp [xS,yX,o9]
theorem Good.W7 (h:Good P X ops b9 tr) {i:Nat} (hi:i<=ops.size):b9.heap.length<=xS ops.toList tr b9 i:=by
 rcases Nat.eq_zero_or_pos i with rfl|h0
 ·rw [Good.KL];exact Nat.le_refl _
 ·have:=h.zW (i:=0) h0 hi;rw [Good.KL] at this;omega
theorem pT {nm:Nat} {r:Option Rec} {m:Nat} :covers nm r m↔nm<=m/\ m<nm+(match r with|some r=>r.fresh.length|none=>0):=by
 cases r with
 |none=>exact ⟨fun h=>h.elim,fun h=>by have h1:=h.1;have h2:=h.2;dsimp only at h2;omega⟩
 |some r=>exact Iff.rfl
theorem Good.q7 (h:Good P X ops b9 tr) {i j m:Nat} (hi:i<ops.size) (hj:j<ops.size) (h1:covers (xS ops.toList tr b9 i) (eA tr i) m) (h2:covers (xS ops.toList tr b9 j) (eA tr j) m):i=j:=by
 rw [pT] at h1 h2
 rcases Nat.lt_trichotomy i j with e|e|e
 ·have:=h.zW e (by omega);omega
 ·exact e
 ·have:=h.zW e (by omega);omega
def Am (ops:Array Oper) (i j:Nat):Bool:=((nX ops.toList []).getD i 0).testBit j
theorem sx {i j:Nat} (h:Am ops i j=true):Lu ops.toList i j:=
 Bn ops.toList ops.toList [] [] rfl rfl (fun i j hb=>by simp at hb) i j h
theorem qc (st:AS) (r:Option Rec):(Fa st r).wr=sr r/\ (Fa st r).az=qC r/\ (Fa st r).nm=st.heap.length/\ (Fa st r).cnt=(match r with|some r=>r.fresh.length|none=>0):=by
 cases r<;>exact ⟨rfl,rfl,rfl,rfl⟩
theorem uj {a b:List Nat} (h:C9 a b=true): ∀m∈a,m∉b:=by
 intro m hm hb
 have:=List.all_eq_true.1 h m hm
 simp [hb] at this
theorem Good.one (h:Good P X ops b9 tr) {i:Nat} (hi:i<ops.size) {o:Oper} (ho:ops[i]? =some o):
  (∀j∈direct o,j<i)/\ (∀m∈sr (eA tr i),m∈qC (eA tr i))/\
  (∀m∈qC (eA tr i),∀j,j<ops.size->covers (xS ops.toList tr b9 j) (eA tr j) m->j=i\/ Am ops i j=true)/\
  ∀j p,j<i->ops[j]? =some p->Am ops i j=false->
   (∀m∈sr (eA tr i),m∉qC (eA tr j))/\ (∀m∈sr (eA tr j),m∉qC (eA tr i))/\ (∀m∈sr (eA tr i),m∉sr (eA tr j))/\
   (∀d,p.dst=some d->o.dst≠some d/\ d∉jO ops o)/\ (∀d,o.dst=some d->d∉jO ops p):=by
 have Gu:=h.ord
 simp only [KP,Bool.and_eq_true] at Gu
 have h1:=List.all_eq_true.1 Gu.2 i (List.mem_range.2 hi)
 obtain ⟨o',r,tG,_,_,hr,_,_,hlg⟩:=h.at_ hi
 rw [ho] at tG;cases tG
 obtain ⟨f1,f2,f3,f4⟩:=qc (yX ops.toList tr b9 i) r
 unfold Jy at h1
 rw [ho,hlg] at h1
 simp only [Bool.and_eq_true] at h1
 obtain ⟨⟨⟨h1,h2⟩,h3⟩,h4⟩:=h1
 refine ⟨fun j hj=>by simpa using List.all_eq_true.1 h1 j hj,fun m hm=> ?_,fun m hm j hj hc=> ?_,fun j p hj hp hb=> ?_⟩
 ·rw [hr] at hm ⊢
  have:=List.all_eq_true.1 h2 m (by rw [f1];exact hm)
  rw [f2] at this
  simpa using this
 ·rw [hr] at hm
  have:=List.all_eq_true.1 h3 m (by rw [f2];exact hm)
  have hmk:vQ (pA ops.toList b9 tr) m=some j:=by
   unfold vQ
   rw [List.findIdx?_eq_some_iff_getElem]
   obtain ⟨oj,rj,_,_,_,Y0,_,_,Vp⟩:=h.at_ hj
   obtain ⟨Ub,hje⟩:=List.getElem?_eq_some_iff.1 Vp
   obtain ⟨_,_,g3,g4⟩:=qc (yX ops.toList tr b9 j) rj
   refine ⟨Ub,?_,fun k hk=> ?_⟩
   ·rw [hje,g3,g4]
    rw [pT,Y0] at hc
    simp only [xS] at hc
    simpa using hc
   ·obtain ⟨ok,rk,_,_,_,mW,_,_,hlk⟩:=h.at_ (i:=k) (by omega)
    obtain ⟨Wi,hke⟩:=List.getElem?_eq_some_iff.1 hlk
    obtain ⟨_,_,k3,k4⟩:=qc (yX ops.toList tr b9 k) rk
    rw [hke,k3,k4]
    intro Yv
    have:covers (xS ops.toList tr b9 k) (eA tr k) m:=by
     rw [pT,mW];simpa [xS] using Yv
    have:=h.q7 (by omega) hj this hc
    omega
  rw [hmk] at this
  simp only [Bool.or_eq_true,beq_iff_eq] at this
  exact this
 ·have:=List.all_eq_true.1 h4 j (List.mem_range.2 hj)
  obtain ⟨oj,rj,Ws,_,_,Y0,_,_,Vp⟩:=h.at_ (i:=j) (by omega)
  rw [hp] at Ws;cases Ws
  obtain ⟨g1,g2,_,_⟩:=qc (yX ops.toList tr b9 j) rj
  have hb':(((nX ops.toList []).getD i 0).testBit j)=false:=hb
  rw [hb',hp,Vp] at this
  simp only [Bool.false_or,Bool.and_eq_true,f1,f2,g1,g2] at this
  obtain ⟨⟨⟨⟨a1,a2⟩,a3⟩,a4⟩,a5⟩:=this
  rw [hr,Y0]
  refine ⟨uj a1,uj a2,uj a3,fun d hd=> ?_,fun d hd=> ?_⟩
  ·rw [hd] at a4
   simp only [Bool.and_eq_true,bne_iff_ne,ne_eq,Bool.not_eq_true',List.contains_eq_mem,decide_eq_false_iff_not] at a4
   exact a4
  ·rw [hd] at a5
   simpa using a5
structure NC (ax:iV) (W:World) (df:List Deferred) (N:Nat) (F:FS) (ρ:Env) (a:Act) (w:World):Prop where
 tmps: ∀t,F.T t≠ .dead->a.tmps.getD t undef=(F.T t).af ρ
 ok: ∀t,(F.T t).ok F.Kn
 size:a.tmps.size=N
 defers:a.defers=df
 st:St ax W ρ F.Kn F.G w
theorem Sv {st:AS} {ρ:Env} {a:Act} {w:World} (h:nD ax W df st ρ a w):NC ax W df st.tmps.length (kB st) ρ a w:=⟨h.tmps,h.kn,h.size,h.defers,h.st⟩
theorem Sw {st:AS} {N:Nat} {ρ:Env} {a:Act} {w:World} (h:NC ax W df N (kB st) ρ a w) (hN:st.tmps.length=N):nD ax W df st ρ a w:=⟨h.tmps,by rw [h.size,hN],h.defers,h.ok,h.st⟩
theorem Mz {o:Oper} {t:Nat} (h:Operand.tmp t∈o.op.operands):t∈jO ops o:=
 List.mem_append_left _ (List.mem_filterMap.2 ⟨.tmp t,Array.mem_toList_iff.2 h,rfl⟩)
theorem MV {N i:Nat} {F:FS} {ρ:Env} {a:Act} {w:World} {ro:Option Nat} {n:Nat} {Q:Exit->Act->World->Prop} (hX:yf ax W X) (hR:NC ax W df N F ρ a w) {o:Oper} (ho:ops[i]? =some o) {S:AS} {r:Option Rec}
  (hf:J7 P X ops o S r) (hT: ∀t∈jO ops o,F.T t=dK S.tmps t) (hG: ∀m∈qC r,F.G m=aj S.heap m) (hfr: ∀m,covers S.heap.length r m-> ¬F.Kn m):
  wpOpIn (fw ro) n P ops Q i (fun a' w'=> ∃ρ',NC ax W df N (DD N o S.heap.length r F) ρ' a' w') a w:=by
 have CJ: ∀x∈o.op.operands,(mg S.tmps x≠ .dead->a.eval x=(mg S.tmps x).af ρ)/\ (mg S.tmps x).ok F.Kn:=by
  intro x hx
  cases x with
  |tmp t=>
   have:=hT t (Mz hx)
   refine ⟨?_,?_⟩
   ·show dK S.tmps t≠ .dead→a.tmps.getD t undef=(dK S.tmps t).af ρ
    rw [<- this];exact hR.tmps t
   ·show (dK S.tmps t).ok F.Kn
    rw [<- this];exact hR.ok t
  |const v=>exact ⟨fun _=>(rT v ρ).symm,xT _ _⟩
  |global g=>exact ⟨fun _=>rfl,trivial⟩
  |func f=>exact ⟨fun _=>rfl,fun r hr=>absurd hr (by simp)⟩
 have hgd: ∀b,kX ops o S b->Region.wanted o (yielded ops a.tmps)=b:=by
  intro b hb
  unfold kX at hb
  split at hb
  ·rename_i hg;rw [hb];simp [Region.wanted,hg]
  ·rename_i j want hg
   obtain ⟨d,hd,hb⟩:=hb
   have h1:=hR.tmps d
   have e1:(ops[j]?).bind (·.dst)=some d:=by
    unfold yn at hd;split at hd
    ·rename_i p hp;simp [hp,hd]
    ·cases hd
   rw [hT d (by unfold jO;rw [hg];exact List.mem_append_right _ (by simp [hd]))] at h1
   rcases hb with ⟨x,hx,hxb⟩|⟨hx,hb⟩
   rotate_left
   ·have h1:=h1 (by rw [hx];simp)
    rw [hx] at h1
    rw [hb]
    rw [Array.getD_eq_getD_getElem?] at h1
    cases hq:a.tmps[d]? with
    |none=>simp [Region.wanted,hg,yielded,e1,hq]
    |some v=>
     rw [hq] at h1
     have e:v= .tuple #[]:=h1
     subst e
     simp [Region.wanted,hg,yielded,e1,hq]
   have nE:dK S.tmps d≠ .dead:=by rw [hx];simp [cw]
   have h1:=h1 nE
   rw [hx] at h1
   have e2:a.tmps[d]? =some (.bool x):=by
    rw [Array.getD_eq_getD_getElem?] at h1
    cases hq:a.tmps[d]? with
    |none=>rw [hq] at h1;cases h1
    |some v=>rw [hq] at h1;exact congrArg some h1
   simp only [Region.wanted,hg,yielded,e1,Option.bind_some,e2]
   rw [<- hxb];cases x<;>cases want<;>rfl
 unfold wpOpIn
 rw [ho]
 dsimp only
 cases r with
 |some r=>
  obtain ⟨hg,nE,hl⟩:=hf
  rw [if_pos (hgd true hg)]
  refine hl.2 ro n ax W ρ F.Kn F.G w a _ Q hX (fun x hx=>(CJ x hx).1 (nE x hx)) (fun x hx=>(CJ x hx).2) hG (fun k hk=>hfr _ ⟨by omega,by omega⟩) hR.st ?_
  intro ρ' w' mo FM hst
  refine ⟨ρ',fun t=> ?_,fun t=> ?_,by rw [wu,hR.size],by rw [put_defers,hR.defers],hst⟩
  ·rw [wq,hR.size]
   simp only [DD]
   have hold:F.T t≠ .dead->a.tmps.getD t undef=(F.T t).af ρ':=fun hd=>by rw [hR.tmps t hd];exact (AV.bZ mo _ (hR.ok t)).symm
   cases o.dst with
   |none=>simpa using hold
   |some d=>
    simp only [Option.some.injEq]
    by_cases e:d=t
    ·subst e
     by_cases e2:d<N
     ·simp [e2]
     ·simp only [e2,and_false,if_false];exact hold
    ·have n1: ¬(t=d∧d<N):=fun h=>e h.1.symm
     have n2: ¬(d=t/\ t<N):=fun h=>e h.1
     simp only [n1,n2,if_false];exact hold
  ·simp only [DD]
   split
   ·exact FM
   ·exact AV.aZ (fun m hm=> .inl hm) _ (hR.ok t)
 |none=>
  rw [if_neg (by rw [hgd false hf];simp)]
  refine ⟨fun _ _=>trivial,ρ,fun t=> ?_,fun t=> ?_,by rw [wu,hR.size],by rw [put_defers,hR.defers],hR.st⟩
  ·rw [wq,hR.size]
   simp only [DD]
   cases o.dst with
   |none=>simpa using hR.tmps t
   |some d=>
    simp only [Option.some.injEq]
    by_cases e:d=t
    ·subst e
     by_cases e2:d<N
     ·simp only [e2,and_self,if_true];intro _;rfl
     ·simp only [e2,and_false,if_false];exact hR.tmps d
    ·have n1: ¬(t=d∧d<N):=fun h=>e h.1.symm
     have n2: ¬(d=t/\ t<N):=fun h=>e h.1
     simp only [n1,n2,if_false];exact hR.tmps t
  ·simp only [DD]
   split
   ·exact qD _
   ·exact hR.ok t
theorem Good.text (h:Good P X ops b9 tr): ∀i,i<=ops.size->part b9.tmps.length ops.toList tr b9 (fun _=>true) (List.range i) (kB b9)=kB (yX ops.toList tr b9 i)
 |0,_=>by simp [part,yX,o9]
 |i+1,hi=>by
  obtain ⟨o,r,_,ho,hr,_,hf,hs,_⟩:=h.at_ (i:=i) (by omega)
  have ih:=h.text i (by omega)
  have e:part b9.tmps.length ops.toList tr b9 (fun _=>true) (List.range (i+1)) (kB b9)=xo b9.tmps.length ops.toList tr b9 i (part b9.tmps.length ops.toList tr b9 (fun _=>true) (List.range i) (kB b9)):=by
   rw [List.range_succ];simp [part,List.foldl_append]
  rw [e,ih,hs]
  unfold xo
  rw [ho,hr]
  exact Pu (h.Va i (by omega)) r fun q hq p hp=>by subst hq;exact hf.2.2.1 p hp
theorem R7 {N:Nat} {ops:List Oper} {tr:List (Option Rec)} {b9:AS} {n i:Nat} (hi:i<=n) (s:FS):part N ops tr b9 (fun j=>decide (j<i)) (List.range n) s=part N ops tr b9 (fun _=>true) (List.range i) s:=by
 have e:List.range n=List.range i++List.range' i (n- i):=by
  have e1:=List.range'_append_1 (s:=0) (m:=i) (n:=n- i)
  rw [Nat.zero_add] at e1
  rw [List.range_eq_range',List.range_eq_range',e1];congr 1;omega
 have h1: ∀(is:List Nat) (s:FS),(∀j∈is,j<i)->part N ops tr b9 (fun j=>decide (j<i)) is s=part N ops tr b9 (fun _=>true) is s:=by
  intro is
  induction is with
  |nil=>intro s _;rfl
  |cons j r ih=>
   intro s hj
   show part N ops tr b9 _ r _=part N ops tr b9 _ r _
   simp only [hj j (by simp),decide_true,if_true]
   exact ih _ (fun k hk=>hj k (by simp [hk]))
 have h2: ∀(is:List Nat) (s:FS),(∀j∈is,i<=j)->part N ops tr b9 (fun j=>decide (j<i)) is s=s:=by
  intro is
  induction is with
  |nil=>intro s _;rfl
  |cons j r ih=>
   intro s hj
   show part N ops tr b9 _ r _=s
   have:decide (j<i)=false:=by have:=hj j (by simp);simpa using this
   simp only [this,Bool.false_eq_true,if_false]
   exact ih _ (fun k hk=>hj k (by simp [hk]))
 rw [e]
 show List.foldl _ s (_++_)=_
 rw [List.foldl_append]
 show part N ops tr b9 _ _ (part N ops tr b9 _ _ s)=_
 rw [h1 _ _ (fun j hj=>List.mem_range.1 hj),h2 _ _ (fun j hj=>(List.mem_range'_1.1 hj).1)]
theorem Good.NZ (h:Good P X ops b9 tr) {i j:Nat} (hd:Lu ops.toList i j):j<i:=by
 induction hd with
 | @edge i' j' o' tG hj'=>
  have hi':i'<ops.size:=by have:=(List.getElem?_eq_some_iff.1 tG).1;simpa using this
  exact (h.one hi' (by rw [<- Array.getElem?_toList];exact tG)).1 _ hj'
 | @trans i' j' k' o' tG hk' _ ih=>
  have hi':i'<ops.size:=by have:=(List.getElem?_eq_some_iff.1 tG).1;simpa using this
  have:=(h.one hi' (by rw [<- Array.getElem?_toList];exact tG)).1 _ hk'
  omega
theorem count_set: ∀(l:List Bool) (i:Nat),l[i]? =some false->(l.set i true).countP (!·)+1=l.countP (!·)
 | [],_,h=>by simp at h
 |b::r,0,h=>by simp at h;subst h;simp
 |b::r,i+1,h=>by
  have:=count_set r i (by simpa using h)
  simp only [List.set_cons_succ,List.countP_cons];omega
theorem Hr (hm:P.follows .mixedOrders=true) (hX:yf ax W X) (h:Good P X ops b9 tr) (ro:Option Nat) (n id:Nat) {Q:Exit->Act->World->Prop} {ρ:Env} {a:Act} {w:World} (bz:nD ax W df b9 ρ a w)
    (hQ: ∀ρ' a' w',nD ax W df (yX ops.toList tr b9 ops.size) ρ' a' w'->Q .normal a' w'):(Code.region id ops true).wpIn (fw ro) n P Q a w:=by
  refine wpIn_region_any hm ?_
  let N:=b9.tmps.length
  let Inv:Array Bool->Act->World->Prop:=fun L a w=>L.size=ops.size/\ (∀i o,L.getD i false=true->ops.toList[i]? =some o-> ∀j∈direct o,L.getD j false=true)/\
    ∃ρ,NC ax W df N (part N ops.toList tr b9 (fun i=>L.getD i false) (List.range ops.size) (kB b9)) ρ a w
  have hsz:ops.toList.length=ops.size:=by simp
  have hstep: ∀L a w i,Inv L a w->i∈Region.ready .any ops L->wpOpIn (fw ro) n P ops Q i (fun a' w'=>Inv (L.setIfInBounds i true) a' w') a w/\ i<ops.size/\ L[i]? =some false:=by
    rintro L a w i ⟨hL,hdc,ρ,hR⟩ hi
    simp only [Region.ready,List.mem_filter,List.mem_range,Bool.and_eq_true,Bool.not_eq_true'] at hi
    obtain ⟨hin,hnl,I1⟩:=hi
    have VX:L[i]? =some false:=by
      rw [Array.getElem?_eq_getElem (by omega)]
      rw [Array.getD_eq_getD_getElem?,Array.getElem?_eq_getElem (by omega)] at hnl
      simpa using hnl
    have VW:L.getD i false=false:=by rw [Array.getD_eq_getD_getElem?,VX];rfl
    obtain ⟨o,r,ho,Wt,htr,XJ,hf,hs,_⟩:=h.at_ hin
    have Wc: ∀j∈direct o,L.getD j false=true:=by
      intro j hj
      simp only [direct,List.mem_map,List.mem_filter] at hj
      obtain ⟨e,⟨he,hb⟩,rfl⟩:=hj
      rw [ho] at I1
      simp only [Option.map_some,Option.getD_some] at I1
      have:=Array.all_eq_true_iff_forall_mem.1 I1 e (Array.mem_toList_iff.1 he)
      simpa [hb] using this
    have Wb: ∀j,Lu ops.toList i j->L.getD j false=true:=fun j hd=>hd.MJ (L:=fun j=>L.getD j false=true) hdc Wt Wc
    have Oh: ∀j,L.getD j false=true-> ¬Lu ops.toList j i:=fun j hj hd=>by
      have:=hd.closed (L:=fun j=>L.getD j false=true) hdc hj
      rw [VW] at this;cases this
    obtain ⟨_,hwt,XK,S4⟩:=h.one hin ho
    have Gu: ∀j,j<ops.size->j≠i->(L.getD j false=decide (j<i))\/ ((j<i/\ Am ops i j=false)\/ (i<j/\ Am ops j i=false)):=by
      intro j hj hne
      rcases Nat.lt_or_gt_of_ne hne with hlt|hlt
      · cases hb:Am ops i j with
        |true=>left;rw [Wb j (sx hb)];simp [hlt]
        |false=>exact .inr (.inl ⟨hlt,rfl⟩)
      · cases hb:Am ops j i with
        | true=>
          left
          cases Vk:L.getD j false with
          |true=>exact absurd (sx hb) (Oh j Vk)
          |false=>simp;omega
        |false=>exact .inr (.inr ⟨hlt,rfl⟩)
    have hsi:kB (yX ops.toList tr b9 i)=part N ops.toList tr b9 (fun j=>decide (j<i)) (List.range ops.size) (kB b9):=by
      rw [R7 (by omega),h.text i (by omega)]
    have hT: ∀t∈jO ops o,(part N ops.toList tr b9 (fun i=>L.getD i false) (List.range ops.size) (kB b9)).T t=dK (yX ops.toList tr b9 i).tmps t:=by
      intro t ht
      show _=(kB (yX ops.toList tr b9 i)).T t
      rw [hsi]
      refine JD _ _ _ rfl fun j hj hd=> ?_
      have hj:=List.mem_range.1 hj
      by_cases hne:j=i
      · subst hne;rw [VW];simp
      · obtain ⟨p,_,hp,rJ,_⟩:=h.at_ hj
        have hpd:p.dst=some t:=by simpa [CF,rJ] using hd
        rcases Gu j hj hne with e|⟨hlt,hb⟩|⟨hlt,hb⟩
        · exact e
        · exact absurd ht ((S4 j p hlt hp hb).2.2.2.1 t hpd).2
        · exact absurd ht ((h.one hj hp).2.2.2 i o hlt ho hb|>.2.2.2.2 t hpd)
    have hG: ∀m∈qC r,(part N ops.toList tr b9 (fun i=>L.getD i false) (List.range ops.size) (kB b9)).G m=aj (yX ops.toList tr b9 i).heap m:=by
      intro m hm'
      show _=(kB (yX ops.toList tr b9 i)).G m
      rw [hsi]
      refine JC _ _ _ rfl fun j hj hd=> ?_
      have hj:=List.mem_range.1 hj
      by_cases hne:j=i
      · subst hne;rw [VW];simp
      · obtain ⟨p,_,hp,rJ,_⟩:=h.at_ hj
        rcases hd with hc|hwj
        · rcases XK m (by rw [XJ];exact hm') j hj hc with e|e
          · exact absurd e hne
          · have YL:j<i:=by
              rcases Gu j hj hne with _|_
              all_goals
                rcases Nat.lt_or_gt_of_ne hne with h1|h1
                · exact h1
                · exfalso
                  have:=h.NZ (sx e)
                  omega
            rw [Wb j (sx e)];simp [YL]
        · rcases Gu j hj hne with e|⟨hlt,hb⟩|⟨hlt,hb⟩
          · exact e
          · exact absurd (by rw [XJ];exact hm') ((S4 j p hlt hp hb).2.1 m hwj)
          · exact absurd (by rw [XJ];exact hm') (((h.one hj hp).2.2.2 i o hlt ho hb).1 m hwj)
    have hfr: ∀m,covers (yX ops.toList tr b9 i).heap.length r m-> ¬(part N ops.toList tr b9 (fun i=>L.getD i false) (List.range ops.size) (kB b9)).Kn m:=by
      intro m hc hk
      have IP:covers (xS ops.toList tr b9 i) (eA tr i) m:=by rw [XJ];exact hc
      rw [z6 _ _ (fun j hj=>by rw [hsz];exact List.mem_range.1 hj)] at hk
      rcases hk with hk|⟨j,hj,Vk,hcj⟩
      · have h1:=h.W7 (i:=i) (by omega)
        rw [pT] at IP
        have:m<b9.heap.length:=hk
        omega
      · have:=h.q7 (List.mem_range.1 hj) hin hcj IP
        subst this;rw [VW] at Vk;cases Vk
    refine ⟨?_,hin,VX⟩
    refine wpOpIn_mono ?_ (MV hX hR ho hf hT hG hfr)
    rintro a' w' ⟨ρ',hR'⟩
    have uo: ∀j,(L.setIfInBounds i true).getD j false=(L.getD j false||j==i):=by
      intro j
      simp only [Array.getD_eq_getD_getElem?,Array.getElem?_setIfInBounds]
      by_cases e:i=j
      · subst e;simp [hL,hin]
      · simp [e,Ne.symm e]
    refine ⟨by simp [hL],fun j p hj hp k hk=> ?_,ρ', ?_⟩
    · rw [uo] at hj ⊢
      rw [Bool.or_eq_true] at hj ⊢
      rcases hj with hj|hj
      · exact .inl (hdc j p hj hp k hk)
      · have:j=i:=by simpa using hj
        subst this
        rw [Wt] at hp;cases hp
        exact .inl (Wc k hk)
    · have IL:=PB (N:=N) (ops:=ops.toList) (tr:=tr) (b9:=b9) (L:=fun i=>L.getD i false) (n:=ops.size) (i:=i) (by omega) hin VW (fun j hj hij Vk=>by
          obtain ⟨p,_,hp,rJ,_⟩:=h.at_ hj
          have hb:Am ops j i=false:=by
            cases hb:Am ops j i with
            |true=>exact absurd (sx hb) (Oh j Vk)
            |false=>rfl
          have hbi:Am ops i j=false:=by
            cases hb:Am ops i j with
            | true=>
              exfalso
              have:=h.NZ (sx hb)
              omega
            |false=>rfl
          obtain ⟨_,Zd,Za,hpj⟩:=h.one hj hp
          have hp1:=hpj i o hij ho hb
          refine ⟨fun d hd TW=> ?_,fun m Dg OE=>hp1.2.2.1 m OE Dg,fun m h1 h2=> ?_,fun m h1 h2=> ?_,fun m h1 h2=> ?_⟩
          · have e1:o.dst=some d:=by simpa [CF,Wt] using hd
            have e2:p.dst=some d:=by simpa [CF,rJ] using TW
            exact (hp1.2.2.2.1 d e1).1 e2
          · have:=h.q7 hin hj h1 h2;omega
          · rcases XK m (hwt m h1) j hj h2 with e|e
            · omega
            · rw [hbi] at e;cases e
          · rcases Za m (Zd m h1) i hin h2 with e|e
            · omega
            · rw [hb] at e;cases e) (kB b9)
      have e1:(fun j=>(L.setIfInBounds i true).getD j false)=(fun j=>L.getD j false||j==i):=funext uo
      rw [e1,IL]
      have e2:xo N ops.toList tr b9 i (part N ops.toList tr b9 (fun i=>L.getD i false) (List.range ops.size) (kB b9))=DD N o (yX ops.toList tr b9 i).heap.length r (part N ops.toList tr b9 (fun i=>L.getD i false) (List.range ops.size) (kB b9)):=by
        conv=>lhs;unfold xo
        rw [Wt,htr]
      rw [e2];exact hR'
  have hend: ∀L a w,Inv L a w->Region.ready .any ops L= []->Q .normal a w:=by
    rintro L a w ⟨hL,hdc,ρ,hR⟩ hr
    have hall: ∀i,i<ops.size->L.getD i false=true:=by
      intro i
      induction i using Nat.strongRecOn with
      | _ i ih=>
        intro hi
        cases VX:L.getD i false with
        |true=>rfl
        | false=>
          exfalso
          obtain ⟨o,r,ho,Wt,_⟩:=h.at_ hi
          have:i∈Region.ready .any ops L:=by
            simp only [Region.ready,List.mem_filter,List.mem_range,Bool.and_eq_true,Bool.not_eq_true']
            refine ⟨hi, ?_, ?_⟩
            · rw [Array.getD_eq_getD_getElem?,Array.getElem?_eq_getElem (by omega)] at VX ⊢
              simpa using VX
            · rw [ho]
              simp only [Option.map_some,Option.getD_some]
              refine Array.all_eq_true_iff_forall_mem.2 fun e he=> ?_
              cases hb:Region.binds .any e with
              |false=>simp
              | true=>
                have hmem:e.on∈direct o:=List.mem_map.2 ⟨e,List.mem_filter.2 ⟨Array.mem_toList_iff.2 he,hb⟩,rfl⟩
                have hlt:=(h.one hi ho).1 _ hmem
                simp [ih e.on hlt (by omega)]
          rw [hr] at this;cases this
    have e:part N ops.toList tr b9 (fun i=>L.getD i false) (List.range ops.size) (kB b9)=kB (yX ops.toList tr b9 ops.size):=by
      rw [<- h.text ops.size (Nat.le_refl _)]
      refine FS.ext' (fun t=>JD _ _ _ rfl fun i hi _=>by rw [hall i (List.mem_range.1 hi)]) (fun m=>JC _ _ _ rfl fun i hi _=>by rw [hall i (List.mem_range.1 hi)]) (fun m=> ?_)
      rw [z6 _ _ (fun j hj=>by rw [hsz];exact List.mem_range.1 hj),z6 _ _ (fun j hj=>by rw [hsz];exact List.mem_range.1 hj)]
      constructor
      · rintro (h1|⟨i,hi,_,hc⟩)
        · exact .inl h1
        · exact .inr ⟨i,hi,rfl,hc⟩
      · rintro (h1|⟨i,hi,_,hc⟩)
        · exact .inl h1
        · exact .inr ⟨i,hi,hall i (List.mem_range.1 hi),hc⟩
    rw [e] at hR
    exact hQ ρ a w (Sw hR (h.Va ops.size (Nat.le_refl _)))
  have main: ∀fuel L a w,L.toList.countP (!·)<=fuel->Inv L a w->wpAnyIn (fw ro) n P .any ops Q fuel L a w:=by
    intro fuel
    induction fuel with
    | zero=>
      intro L a w hc hI
      have hr:Region.ready .any ops L= []:=by
        rcases hq:Region.ready .any ops L with _|⟨i,r⟩
        · rfl
        · exfalso
          obtain ⟨_,_,hf⟩:=hstep L a w i hI (by rw [hq];simp)
          have:=count_set L.toList i (by simpa using hf)
          omega
      exact ⟨hr,hend L a w hI hr⟩
    | succ fuel ih=>
      intro L a w hc hI
      refine ⟨hend L a w hI,fun i hi=> ?_⟩
      obtain ⟨h1,_,hf⟩:=hstep L a w i hI hi
      refine wpOpIn_mono (fun a' w' VV=>ih _ a' w' ?_ VV) h1
      have:=count_set L.toList i (by simpa using hf)
      rw [Array.toList_setIfInBounds];omega
  refine main _ _ _ _ (by have:=List.countP_le_length (p:=(!·)) (l:=(Array.replicate ops.size false).toList);simpa using this) ⟨by simp,fun i o hi=> ?_,ρ, ?_⟩
  · rw [Array.getD_eq_getD_getElem?,Array.getElem?_replicate] at hi
    split at hi<;>simp at hi
  · have e:part N ops.toList tr b9 (fun i=>(Array.replicate ops.size false).getD i false) (List.range ops.size) (kB b9)=kB b9:=by
      have:(fun i=>(Array.replicate ops.size false).getD i false)=fun _=>false:=by
        funext i;rw [Array.getD_eq_getD_getElem?,Array.getElem?_replicate];split<;>rfl
      rw [this]
      generalize List.range ops.size=is
      induction is with
      |nil=>rfl
      |cons j r ih=>exact ih
    rw [e]
    exact Sv (bz.drawn _ (by first|exact Nat.le_succ _|exact Nat.le_add_right _ _|omega))
theorem Rg (hT:br P ctx.tt) (hS:ah P ctx.specs) (hm:P.follows .mixedOrders=true) (hX:yf ax W ctx.X) (ro:Option Nat) (n id:Nat) (ops:Array Oper) (st:AS) (K:AS->Prop) (h:K2 ctx ops true st K):
  ∀ρ a w,nD ax W df st ρ a w->(Code.region id ops true).wpIn (fw ro) n P (fun e a w=> ∃st ρ,(e= .normal/\ K st)/\ nD ax W df st ρ a w) a w:=by
 intro ρ a w bz
 have h:mZ {ctx with ys:= [],dc:= []} ops ops.toList [] st [] fun st' lg=>if zZ ops lg then K st' else False:=h
 obtain ⟨tr,h1,h2,h3⟩:=uC (ctx:= {ctx with ys:= [],dc:= []}) hT ⟨hS,rfl,rfl⟩ ops _ _ _ _ _ h
 simp only [List.nil_append] at h3
 split at h3
 ·rename_i Gu
  have hg:Good P ctx.X ops st tr:=⟨by simpa using h1,h2,Jx Gu⟩
  refine Hr hm hX hg ro n id bz fun ρ' a' w' j9=> ?_
  have e:yX ops.toList tr st ops.size=o9 ops.toList st tr:=by
   unfold yX
   rw [List.take_of_length_le (by simp),List.take_of_length_le (by rw [h1];simp)]
  rw [e] at j9
  exact ⟨_,ρ',⟨rfl,h3⟩,j9⟩
 ·exact h3.elim
end
end Go.Ev
