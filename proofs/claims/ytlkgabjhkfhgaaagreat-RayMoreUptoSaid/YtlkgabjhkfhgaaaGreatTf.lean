/- Tools for plain laws: loops. -/
import Derived.Test.YtlkgabjhkfhgaaaGreatEvR
import Derived.Test.YtlkgabjhkfhgaaaGreatTb
import Derived.Sort.AssemblyPlain
noncomputable section
set_option linter.unusedSectionVars false
set_option linter.unusedVariables false
set_option linter.unusedSimpArgs false
namespace Go.Proofs.YtlkgabjhkfhgaaaGreat
open Go Go.Ev Go.Proofs
theorem Gy {a b A B:Int} (h1: -A<=a) (h2:a<=A) (h3: -B<=b) (h4:b<=B): -(A*B)<=a*b/\ a*b<=A*B:=by
 have e1:=Int.mul_nonneg (show 0<=A- a by omega) (show 0<=B+b by omega)
 have e2:=Int.mul_nonneg (show 0<=A+a by omega) (show 0<=B- b by omega)
 have e3:=Int.mul_nonneg (show 0<=A- a by omega) (show 0<=B- b by omega)
 have e4:=Int.mul_nonneg (show 0<=A+a by omega) (show 0<=B+b by omega)
 constructor<;>grind
theorem Sm {α R:Type} [Inhabited R] (l:List α) (step:Int->Int⊕R) (pre:Int->Prop) (out:List α->R)
  (hp: ∀i:Nat,i<=l.length->pre i)
  (hs: ∀(i:Nat) (x:α),l[i]? =some x->(step i= .inl ((i:Int)+1)/\ out (l.drop i)=out (l.drop (i+1)))\/ step i= .inr (out (l.drop i)))
  (he:step l.length= .inr (out [])):Term step pre 0/\ run step 0=out l:=by
 refine ⟨Term.of (fun s:Int=> ∃i:Nat,s=i/\ i<=l.length) (fun s:Int=>l.length- s.toNat) (fun s ⟨i,e,hi⟩=> ?_) 0 ⟨0,rfl,Nat.zero_le _⟩,?_⟩
 ·subst e
  refine ⟨hp i hi,fun s' h=> ?_⟩
  rcases Nat.lt_or_ge i l.length with hlt|hge
  ·rcases hs i _ (List.getElem?_eq_getElem hlt) with ⟨h1,_⟩|h1
   ·rw [h1] at h
    cases h
    exact ⟨⟨i+1,by omega,hlt⟩,by simp only [Int.toNat_natCast];omega⟩
   ·rw [h1] at h;cases h
  ·have:i=l.length:=by omega
   subst this
   rw [he] at h;cases h
 ·have main: ∀k i:Nat,i+k=l.length→run step i=out (l.drop i):=by
   intro k
   induction k with
   |zero=>
    intro i hi
    have:i=l.length:=by omega
    subst this
    rw [run_eq,he,List.drop_length]
   |succ k ih=>
    intro i hi
    have hlt:i<l.length:=by omega
    rw [run_eq]
    rcases hs i _ (List.getElem?_eq_getElem hlt) with ⟨h1,h2⟩|h1
    ·rw [h1,h2]
     exact ih (i+1) (by omega)
    ·rw [h1]
  simpa using main l.length 0 (by omega)
def FL {α:Type} (bad:α->Bool) (l:List α):Unit⊕Unit:=if l.any bad=true then .inl () else .inr ()
theorem jw {α:Type} {l:List α} {i:Nat} {x d:α} (h:l[i]? =some x):l.getD i d=x:=by rw [List.getD_eq_getElem?_getD,h];rfl
theorem eu {α:Type} {l:List α} {i:Nat} {x:α} (h:l[i]? =some x):i<l.length:=(List.getElem?_eq_some_iff.1 h).1
theorem TF {α:Type} {l:List α} {i:Nat} {x:α} (h:l[i]? =some x):l.drop i=x::l.drop (i+1):=by
 obtain ⟨h1,h2⟩:=List.getElem?_eq_some_iff.1 h
 rw [List.drop_eq_getElem_cons h1,h2]
theorem oH {α:Type} (l:List α) (hl:l.length<4611686018427387904) (bad:α->Bool) (step:Int->Int⊕(Unit⊕Unit)) (pre:Int->Prop)
  (hp: ∀i:Nat,i<=l.length->pre i)
  (hs: ∀(i:Nat) (x:α),l[i]? =some x->step i=if bad x=true then .inr (.inl ()) else .inl (ae ((i:Int)+1)))
  (he:step l.length= .inr (.inr ())):Term step pre 0/\ Sum.elim (fun _=>false) (fun _=>true) (run step 0)= !l.any bad:=by
 obtain ⟨h1,h2⟩:=Sm l step pre (FL bad) hp (fun i x hx=>by
  have hlt:=eu hx
  rw [hs i x hx,TF hx]
  unfold FL
  simp only [List.any_cons]
  by_cases hb:bad x=true
  ·exact .inr (by simp [hb])
  ·refine .inl ⟨?_,by simp [hb]⟩
   rw [if_neg hb,aL (by omega) (by omega)]) (by rw [he];simp [FL])
 refine ⟨h1,?_⟩
 rw [h2]
 unfold FL
 cases l.any bad<;>rfl
theorem Ru {S R:Type} [Inhabited R] {step:S->S⊕R} {pre:S->Prop} (J:S->Prop) (μ:S->Nat) (Post:R->Prop)
  (h: ∀s,J s->pre s/\ (∀s',step s= .inl s'->J s'/\ μ s'<μ s)/\ ∀r,step s= .inr r->Post r) (s:S) (hs:J s):Term step pre s/\ Post (run step s):=by
 refine ⟨Term.of J μ (fun s hs=>⟨(h s hs).1,(h s hs).2.1⟩) s hs,?_⟩
 obtain ⟨n,hn⟩: ∃n,n=μ s:=⟨_,rfl⟩
 induction n using Nat.strongRecOn generalizing s with
 |_ n ih=>
  obtain ⟨_,h2,h3⟩:=h s hs
  rw [run_eq]
  cases e:step s with
  |inl s'=>
   obtain ⟨h4,h5⟩:=h2 s' e
   exact ih (μ s') (by omega) s' h4 rfl
  |inr r=>exact h3 r e
theorem cnt {i n:Nat} (h:i<n) (hn:n<4611686018427387904):ae ((i:Int)+1)=((i+1:Nat):Int):=by rw [aL (by omega) (by omega)];omega
theorem mP {α:Type} (l:List α) (hl:l.length<4611686018427387904) (bad:α->Bool) (step:Int->Int⊕(Int⊕Unit)) (pre:Int->Prop)
  (hp: ∀i:Nat,i<=l.length->pre i)
  (hs: ∀(i:Nat) (x:α),l[i]? =some x->step i=if bad x=true then .inr (.inl i) else .inl (ae ((i:Int)+1)))
  (he:step l.length= .inr (.inr ())):Term step pre 0/\ Sum.elim (fun a=>a) (fun _=> -1) (run step 0)=match l.findIdx? bad with|some i=>(i:Int)|none=> -1:=by
 have key: ∀i:Nat,i<=l.length->(∀j x,j<i->l[j]? =some x->bad x=false)->True:=fun _ _ _=>trivial
 obtain ⟨h1,h2⟩:=Ru (step:=step) (pre:=pre) (fun s=> ∃i:Nat,s=i/\ i<=l.length/\ ∀j x,j<i->l[j]? =some x->bad x=false) (fun s=>l.length- s.toNat)
  (fun r=>Sum.elim (fun a=>a) (fun _=> -1) r=match l.findIdx? bad with|some i=>(i:Int)|none=> -1) (fun s ⟨i,e,hi,hb⟩=>by
   subst e
   refine ⟨hp i hi,fun s' h=> ?_,fun r h=> ?_⟩
   ·rcases Nat.lt_or_ge i l.length with hlt|hge
    ·have hg:=List.getElem?_eq_getElem hlt
     rw [hs i _ hg] at h
     split at h
     ·cases h
     ·rename_i hn
      cases h
      refine ⟨⟨i+1,by rw [aL (by omega) (by omega)];rfl,hlt,fun j x hj hx=> ?_⟩,?_⟩
      ·rcases Nat.lt_or_ge j i with h1|h1
       ·exact hb j x h1 hx
       ·have:j=i:=by omega
        subst this
        rw [hg] at hx;cases hx
        simpa using hn
      ·rw [aL (by omega) (by omega),Int.toNat_natCast,show ((i:Int)+1).toNat=i+1 by omega];omega
    ·have:i=l.length:=by omega
     subst this
     rw [he] at h;cases h
   ·rcases Nat.lt_or_ge i l.length with hlt|hge
    ·have hg:=List.getElem?_eq_getElem hlt
     rw [hs i _ hg] at h
     split at h
     ·rename_i hy
      cases h
      have:l.findIdx? bad=some i:=by
       rw [List.findIdx?_eq_some_iff_getElem]
       refine ⟨hlt,hy,fun j hj=> ?_⟩
       rw [hb j _ hj (List.getElem?_eq_getElem (by omega))];simp
      rw [this];rfl
     ·cases h
    ·have:i=l.length:=by omega
     subst this
     rw [he] at h;cases h
     have:l.findIdx? bad=none:=by
      rw [List.findIdx?_eq_none_iff]
      intro x hx
      obtain ⟨j,hj,rfl⟩:=List.getElem_of_mem hx
      exact hb j _ hj (List.getElem?_eq_getElem hj)
     rw [this];rfl) 0 ⟨0,rfl,Nat.zero_le _,fun j x hj=>absurd hj (Nat.not_lt_zero _)⟩
 exact ⟨h1,h2⟩
theorem qY {α:Type} (l:List α) (bad:α->Bool):decide ((match l.findIdx? bad with|some i=>(i:Int)|none=> -1)>=0)=l.any bad:=by
 cases h:l.findIdx? bad with
 |none=>
  rw [List.findIdx?_eq_none_iff] at h
  symm
  simp only [List.any_eq_false]
  refine Eq.trans ?_ (by decide:false=decide ((-1:Int)>=0))
  rw [List.any_eq_false]
  exact fun x hx=>by rw [h x hx];simp
 |some i=>
  rw [List.findIdx?_eq_some_iff_getElem] at h
  obtain ⟨h1,h2,_⟩:=h
  have:l.any bad=true:=List.any_eq_true.2 ⟨_,List.getElem_mem h1,h2⟩
  rw [this]
  exact decide_eq_true (by dsimp only;omega)
end Go.Proofs.YtlkgabjhkfhgaaaGreat
namespace Go.Proofs.YtlkgabjhkfhgaaaGreat
open Go Go.Ev Go.Proofs
def TR {S R:Type} [Inhabited R] (step:S->S⊕R) (pre:S->Prop) (s:S) (Post:R->Prop):Prop:=Term step pre s/\ Post (run step s)
theorem TR.stop {S R:Type} [Inhabited R] {step:S->S⊕R} {pre:S->Prop} {s:S} {Post:R->Prop} {r:R} (hp:pre s) (h:step s= .inr r) (hq:Post r):TR step pre s Post:=
 ⟨.mk s hp (fun s' e=>by rw [h] at e;cases e),by rw [run_eq,h];exact hq⟩
theorem TR.go {S R:Type} [Inhabited R] {step:S->S⊕R} {pre:S->Prop} {s s':S} {Post:R->Prop} (hp:pre s) (h:step s= .inl s') (hn:TR step pre s' Post):TR step pre s Post:=
 ⟨.mk s hp (fun t e=>by rw [h] at e;cases e;exact hn.1),by rw [run_eq,h];exact hn.2⟩
theorem TR.mono {S R:Type} [Inhabited R] {step:S->S⊕R} {pre:S->Prop} {s:S} {Post Post':R->Prop} (h:TR step pre s Post) (hq: ∀r,Post r->Post' r):TR step pre s Post':=⟨h.1,hq _ h.2⟩
theorem aS (l:List Int) (i:Nat):l.toArray[i]! =l.getD i 0:=by
 rw [List.getD_eq_getElem?_getD]
 simp only [List.getElem!_toArray]
 rw [List.getElem!_eq_getElem?_getD];rfl
def sw (l:List Int) (i j:Nat):List Int:=(l.set i (l.getD j 0)).set j (l.getD i 0)
theorem ia (l:List Int) (i j:Nat):(sw l i j).toArray=Sort.swp l.toArray i j:=by
 unfold sw Sort.swp
 rw [aS,aS]
 simp
theorem cf (l:List Int) (i j:Nat):(sw l i j).length=l.length:=by simp [sw]
theorem Qo {l:List Int} {i:Nat} (h:i<l.length):l.getD i 0∈l:=by
 rw [List.getD_eq_getElem?_getD,List.getElem?_eq_getElem h];exact List.getElem_mem h
end Go.Proofs.YtlkgabjhkfhgaaaGreat
namespace Go.Proofs.YtlkgabjhkfhgaaaGreat
open Go Go.Ev Go.Proofs
def Zv (r:RT) (e:Int):Prop:=0<=e/\ e<(r.1.length:Int)
def RO (r:RT):Prop:=0<=r.2/\ r.2<3
theorem Uj (x:Int):isNaN x=false:=by simp [isNaN]
theorem pF (a b:Int):compare (a,b)=if a<b then-1 else if a>b then 1 else 0:=by
 simp [compare,Uj,ai]
theorem sG (a b:Int):mB [a,b]/\ AN [a,b]=if a≠0 then a else b:=by
 have key:TR (dz [a,b]) (fG [a,b]) 0 fun r=>Sum.elim (fun a=>a) (fun _=>(0:Int)) r=if a≠0 then a else b:=by
  by_cases ha:a=0
  ·subst ha
   refine TR.go (s':=1) (by simp [fG]) (by simp [dz,aL]) ?_
   by_cases hb:b=0
   ·subst hb
    refine TR.go (s':=2) (by simp [fG]) (by simp [dz,aL]) ?_
    exact TR.stop (r:= .inr ()) (by simp [fG]) (by simp [dz]) (by simp)
   ·exact TR.stop (r:= .inl b) (by simp [fG]) (by simp [dz,hb]) (by simp)
  ·exact TR.stop (r:= .inl a) (by simp [fG]) (by simp [dz,ha]) (by simp [ha])
 exact ⟨key.1,by unfold AN ai;exact key.2⟩
def cW (r:RT) (x y:Int):Bool:=decide (jQ (r,(x,y))<0)
def mid (r:RT) (x:Int):Int:=middle (r,x)
theorem Wv (r:RT) (x y:Int):jQ (r,(x,y))=if mid r x<mid r y then-1 else if mid r x>mid r y then 1 else if x<y then-1 else if x>y then 1 else 0:=by
 simp only [jQ,ai,pF,(sG _ _).2]
 unfold mid
 generalize middle (r,x)=p
 generalize middle (r,y)=q
 split
 ·simp
 ·split<;>simp
theorem Mn (r:RT) (x y:Int):cW r x y=true↔mid r x<mid r y\/ (mid r x=mid r y/\ x<y):=by
 unfold cW
 rw [Wv,decide_eq_true_eq]
 split
 ·simp;omega
 ·split
  ·simp;omega
  ·split
   ·simp;omega
   ·split<;>simp<;>omega
theorem Rw (r:RT) (x y:Int):cW r x y=false↔ ¬(mid r x<mid r y\/ (mid r x=mid r y/\ x<y)):=by
 rw [<- Mn];simp
theorem gD (r:RT):Sort.SWO (cW r) where
 irrefl x:=by rw [Rw];omega
 trans x y z h1 h2:=by rw [Mn] at*;omega
 ntrans x y z h1 h2:=by rw [Rw] at*;omega
theorem OC (r:RT) (x y:Int) (h1:cW r x y=false) (h2:cW r y x=false):x=y:=by
 rw [Rw] at*;omega
theorem Iz {r:RT} (hr:RO r) {x:Int} (h:Zv r x):mR (r,x):=by
 obtain ⟨h1,h2⟩:=hr
 have h:0<=x/\ x<(r.1.length:Int):=h
 simp only [mR]
 refine ⟨h,by omega,by omega,⟨h1,h2⟩,⟨h1,h2⟩,h1,h2⟩
theorem Yi {r:RT} (hr:RO r) {x y:Int} (hx:Zv r x) (hy:Zv r y):bI (r,(x,y)):=by
 simp only [bI,az]
 exact ⟨Iz hr hx,Iz hr hy,(sG _ _).1⟩
end Go.Proofs.YtlkgabjhkfhgaaaGreat
namespace Go.Proofs.YtlkgabjhkfhgaaaGreat
open Go Go.Ev Go.Proofs
def Ok (r:RT) (d:List Int):Prop:= ∀e∈d,Zv r e
theorem Ok.at_ {r:RT} {d:List Int} (h:Ok r d) {i:Nat} (hi:i<d.length):Zv r (d.getD i 0):=h _ (Qo hi)
theorem Ok.sw {r:RT} {d:List Int} (h:Ok r d) {i j:Nat} (hi:i<d.length) (hj:j<d.length):Ok r (sw d i j):=by
 intro e he
 unfold Go.Proofs.YtlkgabjhkfhgaaaGreat.sw at he
 rcases List.mem_or_eq_of_mem_set he with he|rfl
 ·rcases List.mem_or_eq_of_mem_set he with he|rfl
  ·exact h e he
  ·exact h.at_ hj
 ·exact h.at_ hi
structure cr (r:RT) (d:List Int):Prop where
 len:d.length<4611686018427387904
 ok:Ok r d
 ro:RO r
theorem cr.sw {r:RT} {d:List Int} (h:cr r d) {i j:Nat} (hi:i<d.length) (hj:j<d.length):cr r (sw d i j):=⟨by rw [cf];exact h.len,h.ok.sw hi hj,h.ro⟩
theorem cr.LS {r:RT} {d:List Int} (h:cr r d) {i j:Nat} (hi:i<d.length) (hj:j<d.length):bI (r,(d.getD i 0,d.getD j 0)):=Yi h.ro (h.ok.at_ hi) (h.ok.at_ hj)
theorem jr (r:RT) (x y:Int):(jQ (r,(x,y))<0)↔cW r x y=true:=by unfold cW;simp
theorem Sj (x:List Int×Int×Int×RT): ∀(n:Nat) (d:List Int) (i j:Nat),cr x.2.2.2 d->j<d.length->j- i<=n->
  TR (dP x) (iN x) (d,((i:Int),(j:Int))) fun r=>r.toArray=Sort.reverseLoop i j d.toArray/\ r.length=d.length/\ cr x.2.2.2 r:=by
 intro n
 induction n with
 |zero=>
  intro d i j hf hj hn
  have hij: ¬i<j:=by omega
  refine TR.stop (r:=d) ?_ ?_ ⟨?_,rfl,hf⟩
  ·simp only [iN];intro h;exfalso;omega
  ·simp only [dP];rw [if_neg (by omega)]
  ·rw [Sort.reverseLoop,if_neg hij]
 |succ n ih=>
  intro d i j hf hj hn
  have hl:=hf.len
  by_cases hij:i<j
  ·refine TR.go (s':=(sw d i j,(((i+1:Nat):Int),((j- 1:Nat):Int)))) ?_ ?_ ((ih _ _ _ (hf.sw (by omega) hj) (by rw [cf];omega) (by omega)).mono fun r hr=>⟨?_,?_,hr.2.2⟩)
   ·simp only [iN,az,List.length_set,Int.toNat_natCast]
    intro _
    refine ⟨?_,?_,?_,?_,?_,?_,?_,?_,?_,?_,?_,?_⟩<;>omega
   ·simp only [dP,ai,Int.toNat_natCast]
    rw [if_pos (by omega),aL (by omega) (by omega),aL (by omega) (by omega)]
    congr 3<;>omega
   ·rw [hr.1,ia]
    conv=>rhs;rw [Sort.reverseLoop,if_pos hij]
   ·rw [hr.2.1,cf]
  ·refine TR.stop (r:=d) ?_ ?_ ⟨?_,rfl,hf⟩
   ·simp only [iN];intro h;exfalso;omega
   ·simp only [dP];rw [if_neg (by omega)]
   ·rw [Sort.reverseLoop,if_neg hij]
def Out (r:RT) (d:List Int) (a b:Nat) (d':List Int):Prop:=Sort.PermIn a b d.toArray d'.toArray/\ d'.length=d.length/\ cr r d'
theorem Vm {r:RT} {d:List Int} (hf:cr r d) {a b:Nat} (hab:a<b) (hb:b<=d.length):
  oS (d,((a:Int),((b:Int),r)))/\ Out r d a b (DL (d,((a:Int),((b:Int),r)))).2.1:=by
 have hl:=hf.len
 have e:ae ((b:Int)- 1)=((b- 1:Nat):Int):=by rw [aL (by omega) (by omega)];omega
 obtain ⟨h1,h2,h3,h4⟩:=Sj (d,((a:Int),((b:Int),r))) _ d a (b- 1) hf (by omega) (Nat.le_refl _)
 refine ⟨?_,?_⟩
 ·simp only [oS,az,e]
  exact ⟨h1,h3⟩
 ·simp only [DL,ai,e]
  refine ⟨?_,h3,h4⟩
  rw [h2]
  exact Sort.reverseRange_holds d.toArray a b (by omega) (by simpa using hb)
theorem Oe (x:List Int×Int×Int×RT) (a:Nat) (hx:x.2.1=(a:Int)): ∀(j:Nat) (d:List Int) (i:Int),cr x.2.2.2 d->j<d.length->
  TR (c9 x) (gl x) (d,(i,(j:Int))) fun r=>r.1.toArray=Sort.insInner (cW x.2.2.2) a j d.toArray/\ r.2=i/\ r.1.length=d.length/\ cr x.2.2.2 r.1:=by
 intro j
 induction j with
 |zero=>
  intro d i hf hj
  refine TR.stop (r:=(d,i)) ?_ ?_ ⟨?_,rfl,rfl,hf⟩
  ·simp only [gl,hx];intro h;exfalso;omega
  ·simp only [c9,hx];rw [if_neg (by omega)]
  ·rw [Sort.insInner]
 |succ j ih=>
  intro d i hf hj
  have hl:=hf.len
  have e:ae (((j+1:Nat):Int)- 1)=(j:Int):=by rw [aL (by omega) (by omega)];omega
  by_cases hja:j+1>a
  ·by_cases hlt:cW x.2.2.2 (d.getD (j+1) 0) (d.getD j 0)=true
   ·refine TR.go (s':=(sw d (j+1) j,(i,(j:Int)))) ?_ ?_ ((ih _ i (hf.sw hj (by omega)) (by rw [cf];omega)).mono fun r hr=>⟨?_,hr.2.1,?_,hr.2.2.2⟩)
    ·simp only [gl,az,List.length_set,Int.toNat_natCast,e]
     intro _
     refine ⟨?_,?_,?_,?_,?_,?_,hf.LS hj (by omega),fun _=> ?_⟩<;>omega
    ·simp only [c9,ai,Int.toNat_natCast,e,hx]
     rw [if_pos (by omega),if_pos ((jr _ _ _).2 hlt)];rfl
    ·rw [hr.1,ia]
     conv=>rhs;rw [Sort.insInner,aS,aS,if_pos (by rw [Bool.and_eq_true];exact ⟨decide_eq_true hja,hlt⟩)]
    ·rw [hr.2.2.1,cf]
   ·refine TR.stop (r:=(d,i)) ?_ ?_ ⟨?_,rfl,rfl,hf⟩
    ·simp only [gl,az,List.length_set,Int.toNat_natCast,e]
     intro _
     refine ⟨?_,?_,?_,?_,?_,?_,hf.LS hj (by omega),fun h=>absurd ((jr _ _ _).1 h) hlt⟩<;>omega
    ·simp only [c9,ai,Int.toNat_natCast,e,hx]
     rw [if_pos (by omega),if_neg (fun h=>hlt ((jr _ _ _).1 h))]
    ·rw [Sort.insInner,aS,aS,if_neg (by rw [Bool.and_eq_true];exact fun h=>hlt h.2)]
  ·refine TR.stop (r:=(d,i)) ?_ ?_ ⟨?_,rfl,rfl,hf⟩
   ·simp only [gl,hx];intro h;exfalso;omega
   ·simp only [c9,hx];rw [if_neg (by omega)]
   ·rw [Sort.insInner,if_neg (by simp [hja])]
theorem Og (x:List Int×Int×Int×RT) (a b:Nat) (hx:x.2.1=(a:Int)) (pR:x.2.2.1=(b:Int)): ∀(n:Nat) (d:List Int) (i:Nat),cr x.2.2.2 d->b<=d.length->b- i<=n->
  TR (dK x) (iH x) (d,(i:Int)) fun r=>r.toArray=Sort.insOuter (cW x.2.2.2) a b i d.toArray/\ r.length=d.length/\ cr x.2.2.2 r:=by
 intro n
 induction n with
 |zero=>
  intro d i hf hj hn
  refine TR.stop (r:=d) ?_ ?_ ⟨?_,rfl,hf⟩
  ·simp only [iH,pR];intro h;exfalso;omega
  ·simp only [dK,pR];rw [if_neg (by omega)]
  ·rw [Sort.insOuter,if_neg (by omega)]
 |succ n ih=>
  intro d i hf hb hn
  have hl:=hf.len
  by_cases hi:i<b
  ·obtain ⟨k1,k2,k3,k4,k5⟩:=Oe x a hx i d i hf (by omega)
   refine TR.go (s':=((run (c9 x) (d,((i:Int),(i:Int)))).1,((i+1:Nat):Int))) ?_ ?_ ((ih _ _ k5 (by omega) (by omega)).mono fun r hr=>⟨?_,by omega,hr.2.2⟩)
   ·simp only [iH];exact fun _=>k1
   ·simp only [dK,ai,pR,k3]
    rw [if_pos (by omega),aL (by omega) (by omega)];rfl
   ·rw [hr.1,k2]
    conv=>rhs;rw [Sort.insOuter,if_pos hi]
  ·refine TR.stop (r:=d) ?_ ?_ ⟨?_,rfl,hf⟩
   ·simp only [iH,pR];intro h;exfalso;omega
   ·simp only [dK,pR];rw [if_neg (by omega)]
   ·rw [Sort.insOuter,if_neg hi]
theorem Uh {r:RT} {d:List Int} (hf:cr r d) {a b:Nat} (hab:a<=b) (hb:b<=d.length):
  rE (d,((a:Int),((b:Int),r)))/\ Out r d a b (KI (d,((a:Int),((b:Int),r)))).2.1/\ Sort.SortedIn (cW r) a b (KI (d,((a:Int),((b:Int),r)))).2.1.toArray:=by
 have hl:=hf.len
 have e:ae ((a:Int)+1)=((a+1:Nat):Int):=by rw [aL (by omega) (by omega)];omega
 obtain ⟨h1,h2,h3,h4⟩:=Og (d,((a:Int),((b:Int),r))) a b rfl rfl _ d (a+1) hf hb (Nat.le_refl _)
 obtain ⟨k1,k2⟩:=Sort.insertionSort_holds (gD r) d.toArray a b hab (by simpa using hb)
 unfold Sort.insertionSort at k1 k2
 refine ⟨?_,?_,?_⟩
 ·simp only [rE,az,e]
  exact ⟨h1,h3⟩
 ·simp only [KI,ai,e]
  exact ⟨by rw [h2];exact k1,h3,h4⟩
 ·simp only [KI,ai,e]
  rw [h2];exact k2
end Go.Proofs.YtlkgabjhkfhgaaaGreat
namespace Go.Proofs.YtlkgabjhkfhgaaaGreat
open Go Go.Ev Go.Proofs
theorem bT {n:Int} {m:Nat} (h:n=(m:Int)) (hm:m<9223372036854775808):ae n=(m:Int):=by rw [aL (by omega) (by omega),h]
theorem Pa (x:List Int×Int×Int×Int×RT) (hi f:Nat) (hx:x.2.2.1=(hi:Int)) (pR:x.2.2.2.1=(f:Int)): ∀(n:Nat) (d:List Int) (root:Nat),cr x.2.2.2.2 d->f+hi<=d.length->root<=hi->hi- root<=n->
  TR (bk x) (fh x) (d,(root:Int)) fun r=>(Sum.elim id id r).toArray=Sort.siftDown (cW x.2.2.2.2) hi f root d.toArray/\ (Sum.elim id id r).length=d.length/\ cr x.2.2.2.2 (Sum.elim id id r):=by
 intro n
 induction n with
 |zero=>
  intro d root hf hl hr hn
  have hlen:=hf.len
  have e0:ae (2*(root:Int))=((2*root:Nat):Int):=bT (by omega) (by omega)
  have e1:ae (((2*root:Nat):Int)+1)=((2*root+1:Nat):Int):=bT (by omega) (by omega)
  refine TR.stop (r:= .inl d) ?_ ?_ ⟨?_,rfl,hf⟩
  ·simp only [fh,hx,pR,e0,e1];intro h;exfalso;omega
  ·simp only [bk,hx,pR,e0,e1];rw [if_pos (by omega)]
  ·show d.toArray=_
   rw [Sort.siftDown,dif_pos (by omega)]
 |succ n ih=>
  intro d root hf hl hr hn
  have hlen:=hf.len
  have e0:ae (2*(root:Int))=((2*root:Nat):Int):=bT (by omega) (by omega)
  have e1:ae (((2*root:Nat):Int)+1)=((2*root+1:Nat):Int):=bT (by omega) (by omega)
  by_cases hc:2*root+1>=hi
  ·refine TR.stop (r:= .inl d) ?_ ?_ ⟨?_,rfl,hf⟩
   ·simp only [fh,hx,pR,e0,e1];intro h;exfalso;omega
   ·simp only [bk,hx,pR,e0,e1];rw [if_pos (by omega)]
   ·show d.toArray=_
    rw [Sort.siftDown,dif_pos hc]
  have e2:ae (((2*root+1:Nat):Int)+1)=((2*root+2:Nat):Int):=bT (by omega) (by omega)
  have e3:ae ((f:Int)+(root:Int))=((f+root:Nat):Int):=bT (by omega) (by omega)
  have e4:ae ((f:Int)+((2*root+1:Nat):Int))=((f+(2*root+1):Nat):Int):=bT (by omega) (by omega)
  have e5:ae (((f+(2*root+1):Nat):Int)+1)=((f+(2*root+1)+1:Nat):Int):=bT (by omega) (by omega)
  have e6:ae ((f:Int)+((2*root+2:Nat):Int))=((f+(2*root+2):Nat):Int):=bT (by omega) (by omega)
  have hpre:fh x (d,(root:Int)):=by
   simp only [fh,az,hx,pR,e0,e1,e2,e3,e4,e5,e6,List.length_set,Int.toNat_natCast]
   repeat' (first|with_reducible exact hf.LS (by omega) (by omega)|with_reducible apply And.intro|intro _)
   all_goals omega
  by_cases YF:2*root+1+1<hi
  ·by_cases h1:cW x.2.2.2.2 (d.getD (f+(2*root+1)) 0) (d.getD (f+(2*root+1)+1) 0)=true
   ·by_cases h2:cW x.2.2.2.2 (d.getD (f+root) 0) (d.getD (f+(2*root+2)) 0)=true
    ·refine TR.go (s':=(sw d (f+root) (f+(2*root+2)),((2*root+2:Nat):Int))) hpre ?_ ((ih _ _ (hf.sw (i:=f+root) (j:=f+(2*root+2)) (by omega) (by omega)) (by rw [cf];omega) (by omega) (by omega)).mono fun r hr=>⟨?_,?_,hr.2.2⟩)
     ·simp only [bk,ai,hx,pR,e0,e1,e2,e3,e4,e5,e6,Int.toNat_natCast]
      rw [if_neg (by omega),if_pos (by omega),if_pos ((jr _ _ _).2 h1),if_neg (by rw [decide_eq_true ((jr _ _ _).2 h2)];simp)];rfl
     ·rw [hr.1,ia]
      conv=>rhs;rw [Sort.siftDown,dif_neg hc,aS,aS,if_pos (by rw [Bool.and_eq_true];exact ⟨decide_eq_true YF,h1⟩),aS,aS,if_neg (by rw [h2];simp),dif_pos (by omega)]
     ·rw [hr.2.1,cf]
    ·refine TR.stop (r:= .inr d) hpre ?_ ⟨?_,rfl,hf⟩
     ·simp only [bk,ai,hx,pR,e0,e1,e2,e3,e4,e5,e6,Int.toNat_natCast]
      rw [if_neg (by omega),if_pos (by omega),if_pos ((jr _ _ _).2 h1),if_pos (by rw [decide_eq_false (fun h=>h2 ((jr _ _ _).1 h))];rfl)]
     ·show d.toArray=_
      rw [Sort.siftDown,dif_neg hc,aS,aS,if_pos (by rw [Bool.and_eq_true];exact ⟨decide_eq_true YF,h1⟩),aS,aS,if_pos (by rw [Bool.eq_false_iff.2 h2];rfl)]
   ·by_cases h2:cW x.2.2.2.2 (d.getD (f+root) 0) (d.getD (f+(2*root+1)) 0)=true
    ·refine TR.go (s':=(sw d (f+root) (f+(2*root+1)),((2*root+1:Nat):Int))) hpre ?_ ((ih _ _ (hf.sw (i:=f+root) (j:=f+(2*root+1)) (by omega) (by omega)) (by rw [cf];omega) (by omega) (by omega)).mono fun r hr=>⟨?_,?_,hr.2.2⟩)
     ·simp only [bk,ai,hx,pR,e0,e1,e2,e3,e4,e5,e6,Int.toNat_natCast]
      rw [if_neg (by omega),if_pos (by omega),if_neg (fun h=>h1 ((jr _ _ _).1 h)),if_neg (by rw [decide_eq_true ((jr _ _ _).2 h2)];simp)];rfl
     ·rw [hr.1,ia]
      conv=>rhs;rw [Sort.siftDown,dif_neg hc,aS,aS,if_neg (by rw [Bool.and_eq_true];exact fun h=>h1 h.2),aS,if_neg (by rw [h2];simp)]
     ·rw [hr.2.1,cf]
    ·refine TR.stop (r:= .inr d) hpre ?_ ⟨?_,rfl,hf⟩
     ·simp only [bk,ai,hx,pR,e0,e1,e2,e3,e4,e5,e6,Int.toNat_natCast]
      rw [if_neg (by omega),if_pos (by omega),if_neg (fun h=>h1 ((jr _ _ _).1 h)),if_pos (by rw [decide_eq_false (fun h=>h2 ((jr _ _ _).1 h))];rfl)]
     ·show d.toArray=_
      rw [Sort.siftDown,dif_neg hc,aS,aS,if_neg (by rw [Bool.and_eq_true];exact fun h=>h1 h.2),aS,if_pos (by rw [Bool.eq_false_iff.2 h2];rfl)]
  ·by_cases h2:cW x.2.2.2.2 (d.getD (f+root) 0) (d.getD (f+(2*root+1)) 0)=true
   ·refine TR.go (s':=(sw d (f+root) (f+(2*root+1)),((2*root+1:Nat):Int))) hpre ?_ ((ih _ _ (hf.sw (i:=f+root) (j:=f+(2*root+1)) (by omega) (by omega)) (by rw [cf];omega) (by omega) (by omega)).mono fun r hr=>⟨?_,?_,hr.2.2⟩)
    ·simp only [bk,ai,hx,pR,e0,e1,e2,e3,e4,e5,e6,Int.toNat_natCast]
     rw [if_neg (by omega),if_neg (by omega),if_neg (by rw [decide_eq_true ((jr _ _ _).2 h2)];simp)];rfl
    ·rw [hr.1,ia]
     conv=>rhs;rw [Sort.siftDown,dif_neg hc,aS,aS,if_neg (by rw [Bool.and_eq_true];exact fun h=>YF (of_decide_eq_true h.1)),aS,if_neg (by rw [h2];simp)]
    ·rw [hr.2.1,cf]
   ·refine TR.stop (r:= .inr d) hpre ?_ ⟨?_,rfl,hf⟩
    ·simp only [bk,ai,hx,pR,e0,e1,e2,e3,e4,e5,e6,Int.toNat_natCast]
     rw [if_neg (by omega),if_neg (by omega),if_pos (by rw [decide_eq_false (fun h=>h2 ((jr _ _ _).1 h))];rfl)]
    ·show d.toArray=_
     rw [Sort.siftDown,dif_neg hc,aS,aS,if_neg (by rw [Bool.and_eq_true];exact fun h=>YF (of_decide_eq_true h.1)),aS,if_pos (by rw [Bool.eq_false_iff.2 h2];rfl)]
theorem I7 {r:RT} {d:List Int} (hf:cr r d) {hi f root:Nat} (hl:f+hi<=d.length) (hr:root<=hi):
  oT (d,((root:Int),((hi:Int),((f:Int),r))))/\ (tO (d,((root:Int),((hi:Int),((f:Int),r))))).2.1.toArray=Sort.siftDown (cW r) hi f root d.toArray/\
   (tO (d,((root:Int),((hi:Int),((f:Int),r))))).2.1.length=d.length/\ cr r (tO (d,((root:Int),((hi:Int),((f:Int),r))))).2.1:=by
 obtain ⟨h1,h2,h3,h4⟩:=Pa (d,((root:Int),((hi:Int),((f:Int),r)))) hi f rfl rfl _ d root hf hl hr (Nat.le_refl _)
 have e:(tO (d,((root:Int),((hi:Int),((f:Int),r))))).2.1=Sum.elim id id (run (bk (d,((root:Int),((hi:Int),((f:Int),r))))) (d,(root:Int))):=by
  simp only [tO,ai]
  cases run (bk (d,((root:Int),((hi:Int),((f:Int),r))))) (d,(root:Int))<;>rfl
 refine ⟨?_,by rw [e];exact h2,by rw [e];exact h3,by rw [e];exact h4⟩
 simp only [oT,az]
 refine ⟨h1,?_⟩
 revert h3
 cases run (bk (d,((root:Int),((hi:Int),((f:Int),r))))) (d,(root:Int))<;>exact fun h=>h
theorem Ko (x:List Int×Int×Int×RT) (a b:Nat) (hx:x.2.1=(a:Int)) (pR:x.2.2.1=(b:Int)) (hab:a<=b): ∀(k:Nat) (d:List Int),cr x.2.2.2 d->b<=d.length->k<=b- a+1->
  TR (ef x) (jy x) (d,(k:Int)- 1) fun r=>r.toArray=Sort.heapBuild (cW x.2.2.2) (b- a) a k d.toArray/\ r.length=d.length/\ cr x.2.2.2 r:=by
 intro k
 induction k with
 |zero=>
  intro d hf hb hk
  refine TR.stop (r:=d) ?_ ?_ ⟨?_,rfl,hf⟩
  ·simp only [jy];intro h;exfalso;omega
  ·simp only [ef];rw [if_neg (by omega)]
  ·rw [Sort.heapBuild]
 |succ k ih=>
  intro d hf hb hk
  have hl:=hf.len
  have e:ae ((b:Int)- (a:Int))=((b- a:Nat):Int):=bT (by omega) (by omega)
  have e1:(((k+1:Nat):Int)- 1)=(k:Int):=by omega
  have e2:ae ((k:Int)- 1)=(k:Int)- 1:=aL (by omega) (by omega)
  obtain ⟨k1,k2,k3,k4⟩:=I7 hf (hi:=b- a) (f:=a) (root:=k) (by omega) (by omega)
  rw [e1]
  refine TR.go (s':=((tO (d,((k:Int),(((b- a:Nat):Int),((a:Int),x.2.2.2))))).2.1,(k:Int)- 1)) ?_ ?_ ((ih _ k4 (by omega) (by omega)).mono fun r hr=>⟨?_,by omega,hr.2.2⟩)
  ·simp only [jy,hx,pR,e];exact fun _=>k1
  ·simp only [ef,ai,hx,pR,e,e2]
   rw [if_pos (by omega)]
  ·rw [hr.1,k2]
   conv=>rhs;rw [Sort.heapBuild]
theorem QF (x:List Int×Int×Int×RT) (a:Nat) (hx:x.2.1=(a:Int)): ∀(k:Nat) (d:List Int),cr x.2.2.2 d->a+k<=d.length->
  TR (ej x) (jz x) (d,(k:Int)- 1) fun r=>r.toArray=Sort.heapPop (cW x.2.2.2) a k d.toArray/\ r.length=d.length/\ cr x.2.2.2 r:=by
 intro k
 induction k with
 |zero=>
  intro d hf hb
  refine TR.stop (r:=d) ?_ ?_ ⟨?_,rfl,hf⟩
  ·simp only [jz];intro h;exfalso;omega
  ·simp only [ej];rw [if_neg (by omega)]
  ·rw [Sort.heapPop]
 |succ k ih=>
  intro d hf hb
  have hl:=hf.len
  have e1:(((k+1:Nat):Int)- 1)=(k:Int):=by omega
  have e2:ae ((k:Int)- 1)=(k:Int)- 1:=aL (by omega) (by omega)
  have e3:ae ((a:Int)+(k:Int))=((a+k:Nat):Int):=bT (by omega) (by omega)
  have hs:=hf.sw (i:=a) (j:=a+k) (by omega) (by omega)
  obtain ⟨k1,k2,k3,k4⟩:=I7 hs (hi:=k) (f:=a) (root:=0) (by rw [cf];omega) (by omega)
  rw [cf] at k3
  rw [e1]
  refine TR.go (s':=((tO (sw d a (a+k),(((0:Nat):Int),((k:Int),((a:Int),x.2.2.2))))).2.1,(k:Int)- 1)) ?_ ?_ ((ih _ k4 (by omega)).mono fun r hr=>⟨?_,by omega,hr.2.2⟩)
  ·simp only [jz,az,hx,e3,List.length_set,Int.toNat_natCast]
   intro _
   refine ⟨?_,?_,?_,?_,?_,?_,?_,?_,?_,?_,?_,?_,k1⟩<;>omega
  ·simp only [ej,ai,hx,e2,e3,Int.toNat_natCast]
   rw [if_pos (by omega)];rfl
  ·rw [hr.1,k2,ia]
   conv=>rhs;rw [Sort.heapPop]
theorem QE {r:RT} {d:List Int} (hf:cr r d) {a b:Nat} (hab:a<=b) (hb:b<=d.length):
  oP (d,((a:Int),((b:Int),r)))/\ Out r d a b (Bf (d,((a:Int),((b:Int),r)))).2.1/\ Sort.SortedIn (cW r) a b (Bf (d,((a:Int),((b:Int),r)))).2.1.toArray:=by
 have hl:=hf.len
 have e:ae ((b:Int)- (a:Int))=((b- a:Nat):Int):=bT (by omega) (by omega)
 have e1:ae (((b- a:Nat):Int)- 1)=((b- a:Nat):Int)- 1:=aL (by omega) (by omega)
 have e2:ae (Int.tdiv (((b- a:Nat):Int)- 1) 2)=(((b- a- 1) / 2+1:Nat):Int)- 1:=by
  have:Int.tdiv (((b- a:Nat):Int)- 1) 2=(((b- a- 1) / 2+1:Nat):Int)- 1:=by
   rcases Nat.eq_zero_or_pos (b- a) with h|h
   ·rw [h];decide
   ·rw [Int.tdiv_eq_ediv_of_nonneg (by omega)];omega
  rw [this];exact aL (by omega) (by omega)
 obtain ⟨h1,h2,h3,h4⟩:=Ko (d,((a:Int),((b:Int),r))) a b rfl rfl hab _ d hf hb (show (b- a- 1) / 2+1<=b- a+1 by omega)
 obtain ⟨g1,g2,g3,g4⟩:=QF (d,((a:Int),((b:Int),r))) a rfl (b- a) _ h4 (by omega)
 obtain ⟨k1,k2⟩:=Sort.heapSort_holds (gD r) d.toArray a b hab (by simpa using hb)
 unfold Sort.heapSort at k1 k2
 refine ⟨?_,?_,?_⟩
 ·simp only [oP,az,e,e1,e2]
  exact ⟨h1,g1,by omega⟩
 ·simp only [Bf,ai,e,e1,e2]
  exact ⟨by rw [g2,h2];exact k1,by omega,g4⟩
 ·simp only [Bf,ai,e,e1,e2]
  rw [g2,h2];exact k2
end Go.Proofs.YtlkgabjhkfhgaaaGreat
namespace Go.Proofs.YtlkgabjhkfhgaaaGreat
open Go Go.Ev Go.Proofs
def In (a b:Nat) (i:Int):Prop:=(a:Int)<=i/\ i<(b:Int)
theorem uF {r:RT} {d:List Int} (hf:cr r d) {a b:Nat} (hb:b<=d.length) {i j:Int} (hi:In a b i) (hj:In a b j) (s:Int):
  jf (d,(i,(j,(s,r))))/\ In a b (iu (d,(i,(j,(s,r))))).1.1/\ In a b (iu (d,(i,(j,(s,r))))).1.2:=by
 obtain ⟨h1,h2⟩:=hi
 obtain ⟨h3,h4⟩:=hj
 refine ⟨?_,?_⟩
 ·simp only [jf]
  refine ⟨?_,?_,?_,?_,?_,?_,hf.LS (by omega) (by omega)⟩<;>omega
 ·simp only [iu,ai]
  split
  ·exact ⟨⟨h3,h4⟩,⟨h1,h2⟩⟩
  ·exact ⟨⟨h1,h2⟩,⟨h3,h4⟩⟩
theorem Gv {r:RT} {d:List Int} (hf:cr r d) {a b:Nat} (hb:b<=d.length) {i j k:Int} (hi:In a b i) (hj:In a b j) (hk:In a b k) (s:Int):
  rN (d,(i,(j,(k,(s,r)))))/\ In a b (Ry (d,(i,(j,(k,(s,r)))))).1:=by
 obtain ⟨p1,p2,p3⟩:=uF hf hb hi hj s
 obtain ⟨q1,q2,q3⟩:=uF hf hb p3 hk (iu (d,(i,(j,(s,r))))).2.2.2.2.1
 have w:=uF hf hb p2 q2 (iu (d,((iu (d,(i,(j,(s,r))))).1.2,(k,((iu (d,(i,(j,(s,r))))).2.2.2.2.1,r))))).2.2.2.2.1
 exact ⟨⟨p1,q1,w.1⟩,w.2.2⟩
theorem BL {r:RT} {d:List Int} (hf:cr r d) {a b:Nat} (hb:b<=d.length) {i:Int} (h1:(a:Int)<i) (h2:i+1<(b:Int)) (s:Int):
  mD (d,(i,(s,r)))/\ In a b (mQ (d,(i,(s,r)))).1:=by
 have hl:=hf.len
 have e1:ae (i- 1)=i- 1:=aL (by omega) (by omega)
 have e2:ae (i+1)=i+1:=aL (by omega) (by omega)
 have:=Gv hf (a:=a) (b:=b) hb (i:=i- 1) (j:=i) (k:=i+1) (by unfold In;omega) (by unfold In;omega) (by unfold In;omega) s
 simp only [mD,mQ,ai,e1,e2]
 exact this
theorem U5 {r:RT} {d:List Int} (hf:cr r d) {a b:Nat} (hab:a<b) (hb:b<=d.length):
  lE (d,((a:Int),((b:Int),r)))/\ In a b (zN (d,((a:Int),((b:Int),r)))).1:=by
 have hl:=hf.len
 have e:ae ((b:Int)- (a:Int))=((b- a:Nat):Int):=bT (by omega) (by omega)
 have e0:ae (Int.tdiv ((b- a:Nat):Int) 4)=(((b- a) / 4:Nat):Int):=bT (by rw [Int.tdiv_eq_ediv_of_nonneg (by omega)];omega) (by omega)
 obtain ⟨q,hq⟩: ∃q,q=(b- a) / 4:=⟨_,rfl⟩
 rw [<- hq] at e0
 have m1:ae ((q:Int)*1)=(q:Int):=bT (by omega) (by omega)
 have m2:ae ((q:Int)*2)=((q*2:Nat):Int):=bT (by omega) (by omega)
 have m3:ae ((q:Int)*3)=((q*3:Nat):Int):=bT (by omega) (by omega)
 have n1:ae ((a:Int)+(q:Int))=((a+q:Nat):Int):=bT (by omega) (by omega)
 have n2:ae ((a:Int)+((q*2:Nat):Int))=((a+q*2:Nat):Int):=bT (by omega) (by omega)
 have n3:ae ((a:Int)+((q*3:Nat):Int))=((a+q*3:Nat):Int):=bT (by omega) (by omega)
 by_cases h8:b- a>=8
 ·by_cases ZV:b- a≥50
  ·obtain ⟨a1,b1⟩:=BL hf (a:=a) (b:=b) hb (i:=((a+q:Nat):Int)) (by omega) (by omega) 0
   obtain ⟨a2,b2⟩:=BL hf (a:=a) (b:=b) hb (i:=((a+q*2:Nat):Int)) (by omega) (by omega) (mQ (d,(((a+q:Nat):Int),(0,r)))).2.2.2.1
   obtain ⟨a3,b3⟩:=BL hf (a:=a) (b:=b) hb (i:=((a+q*3:Nat):Int)) (by omega) (by omega) (mQ (d,(((a+q*2:Nat):Int),((mQ (d,(((a+q:Nat):Int),(0,r)))).2.2.2.1,r)))).2.2.2.1
   obtain ⟨a4,b4⟩:=Gv hf hb b1 b2 b3 (mQ (d,(((a+q*3:Nat):Int),((mQ (d,(((a+q*2:Nat):Int),((mQ (d,(((a+q:Nat):Int),(0,r)))).2.2.2.1,r)))).2.2.2.1,r)))).2.2.2.1
   refine ⟨?_,?_⟩
   ·simp only [lE,az,e,e0,m1,m2,m3,n1,n2,n3]
    exact fun _=>⟨fun _=>⟨a1,a2,a3,a4⟩,fun h=>absurd (show ((b- a:Nat):Int)>=50 by omega) h⟩
   ·simp only [zN,ai,e,e0,m1,m2,m3,n1,n2,n3]
    rw [if_pos (by omega),if_pos (by omega)]
    split
    ·exact b4
    ·split<;>exact b4
  ·obtain ⟨a4,b4⟩:=Gv hf (a:=a) (b:=b) hb (i:=((a+q:Nat):Int)) (j:=((a+q*2:Nat):Int)) (k:=((a+q*3:Nat):Int)) (by unfold In;omega) (by unfold In;omega) (by unfold In;omega) 0
   refine ⟨?_,?_⟩
   ·simp only [lE,az,e,e0,m1,m2,m3,n1,n2,n3]
    exact fun _=>⟨fun h=>absurd h (show¬((b- a:Nat):Int)>=50 by omega),fun _=>a4⟩
   ·simp only [zN,ai,e,e0,m1,m2,m3,n1,n2,n3]
    rw [if_pos (by omega),if_neg (by omega)]
    split
    ·exact b4
    ·split<;>exact b4
 ·refine ⟨?_,?_⟩
  ·simp only [lE,az,e]
   exact fun h=>absurd h (show¬((b- a:Nat):Int)>=8 by omega)
  ·simp only [zN,ai,e,e0,m1,m2,m3,n1,n2,n3]
   rw [if_neg (by omega)]
   show In a b ((a+q*2:Nat):Int)
   unfold In;omega
end Go.Proofs.YtlkgabjhkfhgaaaGreat
