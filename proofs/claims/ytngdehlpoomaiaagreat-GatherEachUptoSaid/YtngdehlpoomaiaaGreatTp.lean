/- Tools for plain laws: loops. -/
import Derived.Test.YtngdehlpoomaiaaGreatEvR
import Derived.Test.YtngdehlpoomaiaaGreatTa
import Derived.Sort.AssemblyPlain
noncomputable section
set_option linter.unusedSectionVars false
set_option linter.unusedVariables false
set_option linter.unusedSimpArgs false
namespace Go.Proofs.YtngdehlpoomaiaaGreat
open Go Go.Ev Go.Proofs
theorem w7 {a b A B:Int} (h1: -A<=a) (h2:a<=A) (h3: -B<=b) (h4:b<=B): -(A*B)<=a*b/\ a*b<=A*B:=by
 have e1:=Int.mul_nonneg (show 0<=A- a by omega) (show 0<=B+b by omega)
 have e2:=Int.mul_nonneg (show 0<=A+a by omega) (show 0<=B- b by omega)
 have e3:=Int.mul_nonneg (show 0<=A- a by omega) (show 0<=B- b by omega)
 have e4:=Int.mul_nonneg (show 0<=A+a by omega) (show 0<=B+b by omega)
 constructor<;>grind
theorem abo {α R:Type} [Inhabited R] (l:List α) (step:Int->Int⊕R) (pre:Int->Prop) (out:List α->R)
  (hp: ∀i:Nat,i<=l.length->pre i)
  (hs: ∀(i:Nat) (x:α),l[i]? =some x->(step i= .inl ((i:Int)+1)/\ out (l.drop i)=out (l.drop (i+1)))\/ step i= .inr (out (l.drop i)))
  (he:step l.length= .inr (out [])):Term step pre 0/\ run step 0=out l:=by
 refine ⟨Term.of (fun s:Int=> ∃i:Nat,s=i/\ i<=l.length) (fun s:Int=>l.length- s.toNat) (fun s ⟨i,e,hi⟩=> ?_) 0 ⟨0,rfl,Nat.zero_le _⟩,?_⟩
 ·subst e
  refine ⟨hp i hi,fun s' h=> ?_⟩
  rcases Nat.lt_or_ge i l.length with hlt|hge
  ·rcases hs i _ (List.getElem?_eq_getElem hlt) with ⟨h1,_⟩|h1
   ·rw [h1] at h
    cases h
    exact ⟨⟨i+1,by omega,hlt⟩,by simp only [Int.toNat_natCast];omega⟩
   ·rw [h1] at h;cases h
  ·have:i=l.length:=by omega
   subst this
   rw [he] at h;cases h
 ·have main: ∀k i:Nat,i+k=l.length→run step i=out (l.drop i):=by
   intro k
   induction k with
   |zero=>
    intro i hi
    have:i=l.length:=by omega
    subst this
    rw [run_eq,he,List.drop_length]
   |succ k ih=>
    intro i hi
    have hlt:i<l.length:=by omega
    rw [run_eq]
    rcases hs i _ (List.getElem?_eq_getElem hlt) with ⟨h1,h2⟩|h1
    ·rw [h1,h2]
     exact ih (i+1) (by omega)
    ·rw [h1]
  simpa using main l.length 0 (by omega)
def Lw {α:Type} (bad:α->Bool) (l:List α):Unit⊕Unit:=if l.any bad=true then .inl () else .inr ()
theorem iS {α:Type} {l:List α} {i:Nat} {x d:α} (h:l[i]? =some x):l.getD i d=x:=by rw [List.getD_eq_getElem?_getD,h];rfl
theorem c6 {α:Type} {l:List α} {i:Nat} {x:α} (h:l[i]? =some x):i<l.length:=(List.getElem?_eq_some_iff.1 h).1
theorem adk {α:Type} {l:List α} {i:Nat} {x:α} (h:l[i]? =some x):l.drop i=x::l.drop (i+1):=by
 obtain ⟨h1,h2⟩:=List.getElem?_eq_some_iff.1 h
 rw [List.drop_eq_getElem_cons h1,h2]
theorem jV {α:Type} (l:List α) (hl:l.length<4611686018427387904) (bad:α->Bool) (step:Int->Int⊕(Unit⊕Unit)) (pre:Int->Prop)
  (hp: ∀i:Nat,i<=l.length->pre i)
  (hs: ∀(i:Nat) (x:α),l[i]? =some x->step i=if bad x=true then .inr (.inl ()) else .inl (av ((i:Int)+1)))
  (he:step l.length= .inr (.inr ())):Term step pre 0/\ Sum.elim (fun _=>false) (fun _=>true) (run step 0)= !l.any bad:=by
 obtain ⟨h1,h2⟩:=abo l step pre (Lw bad) hp (fun i x hx=>by
  have hlt:=c6 hx
  rw [hs i x hx,adk hx]
  unfold Lw
  simp only [List.any_cons]
  by_cases hb:bad x=true
  ·exact .inr (by simp [hb])
  ·refine .inl ⟨?_,by simp [hb]⟩
   rw [if_neg hb,aF (by omega) (by omega)]) (by rw [he];simp [Lw])
 refine ⟨h1,?_⟩
 rw [h2]
 unfold Lw
 cases l.any bad<;>rfl
theorem OX {S R:Type} [Inhabited R] {step:S->S⊕R} {pre:S->Prop} (J:S->Prop) (μ:S->Nat) (Post:R->Prop)
  (h: ∀s,J s->pre s/\ (∀s',step s= .inl s'->J s'/\ μ s'<μ s)/\ ∀r,step s= .inr r->Post r) (s:S) (hs:J s):Term step pre s/\ Post (run step s):=by
 refine ⟨Term.of J μ (fun s hs=>⟨(h s hs).1,(h s hs).2.1⟩) s hs,?_⟩
 obtain ⟨n,hn⟩: ∃n,n=μ s:=⟨_,rfl⟩
 induction n using Nat.strongRecOn generalizing s with
 |_ n ih=>
  obtain ⟨_,h2,h3⟩:=h s hs
  rw [run_eq]
  cases e:step s with
  |inl s'=>
   obtain ⟨h4,h5⟩:=h2 s' e
   exact ih (μ s') (by omega) s' h4 rfl
  |inr r=>exact h3 r e
theorem cnt {i n:Nat} (h:i<n) (hn:n<4611686018427387904):av ((i:Int)+1)=((i+1:Nat):Int):=by rw [aF (by omega) (by omega)];omega
theorem oB {α:Type} (l:List α) (hl:l.length<4611686018427387904) (bad:α->Bool) (step:Int->Int⊕(Int⊕Unit)) (pre:Int->Prop)
  (hp: ∀i:Nat,i<=l.length->pre i)
  (hs: ∀(i:Nat) (x:α),l[i]? =some x->step i=if bad x=true then .inr (.inl i) else .inl (av ((i:Int)+1)))
  (he:step l.length= .inr (.inr ())):Term step pre 0/\ Sum.elim (fun a=>a) (fun _=> -1) (run step 0)=match l.findIdx? bad with|some i=>(i:Int)|none=> -1:=by
 have key: ∀i:Nat,i<=l.length->(∀j x,j<i->l[j]? =some x->bad x=false)->True:=fun _ _ _=>trivial
 obtain ⟨h1,h2⟩:=OX (step:=step) (pre:=pre) (fun s=> ∃i:Nat,s=i/\ i<=l.length/\ ∀j x,j<i->l[j]? =some x->bad x=false) (fun s=>l.length- s.toNat)
  (fun r=>Sum.elim (fun a=>a) (fun _=> -1) r=match l.findIdx? bad with|some i=>(i:Int)|none=> -1) (fun s ⟨i,e,hi,hb⟩=>by
   subst e
   refine ⟨hp i hi,fun s' h=> ?_,fun r h=> ?_⟩
   ·rcases Nat.lt_or_ge i l.length with hlt|hge
    ·have hg:=List.getElem?_eq_getElem hlt
     rw [hs i _ hg] at h
     split at h
     ·cases h
     ·rename_i hn
      cases h
      refine ⟨⟨i+1,by rw [aF (by omega) (by omega)];rfl,hlt,fun j x hj hx=> ?_⟩,?_⟩
      ·rcases Nat.lt_or_ge j i with h1|h1
       ·exact hb j x h1 hx
       ·have:j=i:=by omega
        subst this
        rw [hg] at hx;cases hx
        simpa using hn
      ·rw [aF (by omega) (by omega),Int.toNat_natCast,show ((i:Int)+1).toNat=i+1 by omega];omega
    ·have:i=l.length:=by omega
     subst this
     rw [he] at h;cases h
   ·rcases Nat.lt_or_ge i l.length with hlt|hge
    ·have hg:=List.getElem?_eq_getElem hlt
     rw [hs i _ hg] at h
     split at h
     ·rename_i hy
      cases h
      have:l.findIdx? bad=some i:=by
       rw [List.findIdx?_eq_some_iff_getElem]
       refine ⟨hlt,hy,fun j hj=> ?_⟩
       rw [hb j _ hj (List.getElem?_eq_getElem (by omega))];simp
      rw [this];rfl
     ·cases h
    ·have:i=l.length:=by omega
     subst this
     rw [he] at h;cases h
     have:l.findIdx? bad=none:=by
      rw [List.findIdx?_eq_none_iff]
      intro x hx
      obtain ⟨j,hj,rfl⟩:=List.getElem_of_mem hx
      exact hb j _ hj (List.getElem?_eq_getElem hj)
     rw [this];rfl) 0 ⟨0,rfl,Nat.zero_le _,fun j x hj=>absurd hj (Nat.not_lt_zero _)⟩
 exact ⟨h1,h2⟩
theorem uk {α:Type} (l:List α) (bad:α->Bool):decide ((match l.findIdx? bad with|some i=>(i:Int)|none=> -1)>=0)=l.any bad:=by
 cases h:l.findIdx? bad with
 |none=>
  rw [List.findIdx?_eq_none_iff] at h
  symm
  simp only [List.any_eq_false]
  refine Eq.trans ?_ (by decide:false=decide ((-1:Int)>=0))
  rw [List.any_eq_false]
  exact fun x hx=>by rw [h x hx];simp
 |some i=>
  rw [List.findIdx?_eq_some_iff_getElem] at h
  obtain ⟨h1,h2,_⟩:=h
  have:l.any bad=true:=List.any_eq_true.2 ⟨_,List.getElem_mem h1,h2⟩
  rw [this]
  exact decide_eq_true (by dsimp only;omega)
end Go.Proofs.YtngdehlpoomaiaaGreat
namespace Go.Proofs.YtngdehlpoomaiaaGreat
open Go Go.Ev Go.Proofs
def TR {S R:Type} [Inhabited R] (step:S->S⊕R) (pre:S->Prop) (s:S) (Post:R->Prop):Prop:=Term step pre s/\ Post (run step s)
theorem TR.stop {S R:Type} [Inhabited R] {step:S->S⊕R} {pre:S->Prop} {s:S} {Post:R->Prop} {r:R} (hp:pre s) (h:step s= .inr r) (hq:Post r):TR step pre s Post:=
 ⟨.mk s hp (fun s' e=>by rw [h] at e;cases e),by rw [run_eq,h];exact hq⟩
theorem TR.go {S R:Type} [Inhabited R] {step:S->S⊕R} {pre:S->Prop} {s s':S} {Post:R->Prop} (hp:pre s) (h:step s= .inl s') (hn:TR step pre s' Post):TR step pre s Post:=
 ⟨.mk s hp (fun t e=>by rw [h] at e;cases e;exact hn.1),by rw [run_eq,h];exact hn.2⟩
theorem TR.mono {S R:Type} [Inhabited R] {step:S->S⊕R} {pre:S->Prop} {s:S} {Post Post':R->Prop} (h:TR step pre s Post) (hq: ∀r,Post r->Post' r):TR step pre s Post':=⟨h.1,hq _ h.2⟩
theorem wo (l:List Int) (i:Nat):l.toArray[i]! =l.getD i 0:=by
 rw [List.getD_eq_getElem?_getD]
 simp only [List.getElem!_toArray]
 rw [List.getElem!_eq_getElem?_getD];rfl
def sw (l:List Int) (i j:Nat):List Int:=(l.set i (l.getD j 0)).set j (l.getD i 0)
theorem ah6 (l:List Int) (i j:Nat):(sw l i j).toArray=Sort.swp l.toArray i j:=by
 unfold sw Sort.swp
 rw [wo,wo]
 simp
theorem SY (l:List Int) (i j:Nat):(sw l i j).length=l.length:=by simp [sw]
theorem Zr {l:List Int} {i:Nat} (h:i<l.length):l.getD i 0∈l:=by
 rw [List.getD_eq_getElem?_getD,List.getElem?_eq_getElem h];exact List.getElem_mem h
def okE (r:RT) (e:Int):Prop:=0<=e/\ e<(r.1.length:Int)
def RO (r:RT):Prop:=0<=r.2/\ r.2<3
theorem aeu (x:Int):isNaN x=false:=by simp [isNaN]
theorem rL (a b:Int):compare (a,b)=if a<b then-1 else if a>b then 1 else 0:=by
 simp [compare,aeu,aq]
theorem vX (a b:Int):nN [a,b]/\ E3 [a,b]=if a≠0 then a else b:=by
 have key:TR (dG [a,b]) (fN [a,b]) 0 fun r=>Sum.elim (fun a=>a) (fun _=>(0:Int)) r=if a≠0 then a else b:=by
  by_cases ha:a=0
  ·subst ha
   refine TR.go (s':=1) (by simp [fN]) (by simp [dG,aF]) ?_
   by_cases hb:b=0
   ·subst hb
    refine TR.go (s':=2) (by simp [fN]) (by simp [dG,aF]) ?_
    exact TR.stop (r:= .inr ()) (by simp [fN]) (by simp [dG]) (by simp)
   ·exact TR.stop (r:= .inl b) (by simp [fN]) (by simp [dG,hb]) (by simp)
  ·exact TR.stop (r:= .inl a) (by simp [fN]) (by simp [dG,ha]) (by simp [ha])
 exact ⟨key.1,by unfold E3 aq;exact key.2⟩
def WS (r:RT) (x y:Int):Bool:=decide (byM (r,x,y)<0)
def mid (r:RT) (x:Int):Int:=middle (r,x)
theorem agF (r:RT) (x y:Int):byM (r,x,y)=if mid r x<mid r y then-1 else if mid r x>mid r y then 1 else if x<y then-1 else if x>y then 1 else 0:=by
 simp only [byM,aq,rL,(vX _ _).2]
 unfold mid
 generalize middle (r,x)=p
 generalize middle (r,y)=q
 split
 ·simp
 ·split<;>simp
theorem Ui (r:RT) (x y:Int):WS r x y=true↔mid r x<mid r y\/ (mid r x=mid r y/\ x<y):=by
 unfold WS
 rw [agF,decide_eq_true_eq]
 split
 ·simp;omega
 ·split
  ·simp;omega
  ·split
   ·simp;omega
   ·split<;>simp<;>omega
theorem aaJ (r:RT) (x y:Int):WS r x y=false↔ ¬(mid r x<mid r y\/ (mid r x=mid r y/\ x<y)):=by
 rw [<- Ui];simp
theorem Uj (r:RT):Sort.SWO (WS r) where
 irrefl x:=by rw [aaJ];omega
 trans x y z h1 h2:=by rw [Ui] at*;omega
 ntrans x y z h1 h2:=by rw [aaJ] at*;omega
theorem WT (r:RT) (x y:Int) (h1:WS r x y=false) (h2:WS r y x=false):x=y:=by
 rw [aaJ] at*;omega
theorem O2 {r:RT} (hr:RO r) {x:Int} (h:okE r x):oF (r,x):=by
 obtain ⟨h1,h2⟩:=hr
 have h:0<=x/\ x<(r.1.length:Int):=h
 simp only [oF]
 refine ⟨h,by omega,by omega,⟨h1,h2⟩,⟨h1,h2⟩,h1,h2⟩
theorem aiV {r:RT} (hr:RO r) {x y:Int} (hx:okE r x) (hy:okE r y):y8 (r,x,y):=by
 simp only [y8,aC]
 exact ⟨O2 hr hx,O2 hr hy,(vX _ _).1⟩
def Ok (r:RT) (d:List Int):Prop:= ∀e∈d,okE r e
theorem Ok.at_ {r:RT} {d:List Int} (h:Ok r d) {i:Nat} (hi:i<d.length):okE r (d.getD i 0):=h _ (Zr hi)
theorem Ok.sw {r:RT} {d:List Int} (h:Ok r d) {i j:Nat} (hi:i<d.length) (hj:j<d.length):Ok r (sw d i j):=by
 intro e he
 unfold Go.Proofs.YtngdehlpoomaiaaGreat.sw at he
 rcases List.mem_or_eq_of_mem_set he with he|rfl
 ·rcases List.mem_or_eq_of_mem_set he with he|rfl
  ·exact h e he
  ·exact h.at_ hj
 ·exact h.at_ hi
structure Bm (r:RT) (d:List Int):Prop where
 len:d.length<4611686018427387904
 ok:Ok r d
 ro:RO r
theorem Bm.sw {r:RT} {d:List Int} (h:Bm r d) {i j:Nat} (hi:i<d.length) (hj:j<d.length):Bm r (sw d i j):=⟨by rw [SY];exact h.len,h.ok.sw hi hj,h.ro⟩
theorem Bm.by_ {r:RT} {d:List Int} (h:Bm r d) {i j:Nat} (hi:i<d.length) (hj:j<d.length):y8 (r,d.getD i 0,d.getD j 0):=aiV h.ro (h.ok.at_ hi) (h.ok.at_ hj)
theorem YH (r:RT) (x y:Int):(byM (r,x,y)<0)↔WS r x y=true:=by unfold WS;simp
def Out (r:RT) (d:List Int) (a b:Nat) (d':List Int):Prop:=Sort.PermIn a b d.toArray d'.toArray/\ d'.length=d.length/\ Bm r d'
theorem Wy (x:List Int×Int×Int×RT) (a:Nat) (hx:x.2.1=(a:Int)): ∀(j:Nat) (d:List Int) (i:Int),Bm x.2.2.2 d->j<d.length->
  TR (de x) (gH x) (d,i,(j:Int)) fun r=>r.1.toArray=Sort.insInner (WS x.2.2.2) a j d.toArray/\ r.2=i/\ r.1.length=d.length/\ Bm x.2.2.2 r.1:=by
 intro j
 induction j with
 |zero=>
  intro d i hf hj
  refine TR.stop (r:=(d,i)) ?_ ?_ ⟨?_,rfl,rfl,hf⟩
  ·simp only [gH,hx];intro h;exfalso;omega
  ·simp only [de,hx];rw [if_neg (by omega)]
  ·rw [Sort.insInner]
 |succ j ih=>
  intro d i hf hj
  have hl:=hf.len
  have e:av (((j+1:Nat):Int)- 1)=(j:Int):=by rw [aF (by omega) (by omega)];omega
  by_cases hja:j+1>a
  ·by_cases hlt:WS x.2.2.2 (d.getD (j+1) 0) (d.getD j 0)=true
   ·refine TR.go (s':=(sw d (j+1) j,i,(j:Int))) ?_ ?_ ((ih _ i (hf.sw hj (by omega)) (by rw [SY];omega)).mono fun r hr=>⟨?_,hr.2.1,?_,hr.2.2.2⟩)
    ·simp only [gH,aC,List.length_set,Int.toNat_natCast,e]
     intro _
     refine ⟨?_,?_,?_,?_,?_,?_,hf.by_ hj (by omega),fun _=> ?_⟩<;>omega
    ·simp only [de,aq,Int.toNat_natCast,e,hx]
     rw [if_pos (by omega),if_pos ((YH _ _ _).2 hlt)];rfl
    ·rw [hr.1,ah6]
     conv=>rhs;rw [Sort.insInner,wo,wo,if_pos (by rw [Bool.and_eq_true];exact ⟨decide_eq_true hja,hlt⟩)]
    ·rw [hr.2.2.1,SY]
   ·refine TR.stop (r:=(d,i)) ?_ ?_ ⟨?_,rfl,rfl,hf⟩
    ·simp only [gH,aC,List.length_set,Int.toNat_natCast,e]
     intro _
     refine ⟨?_,?_,?_,?_,?_,?_,hf.by_ hj (by omega),fun h=>absurd ((YH _ _ _).1 h) hlt⟩<;>omega
    ·simp only [de,aq,Int.toNat_natCast,e,hx]
     rw [if_pos (by omega),if_neg (fun h=>hlt ((YH _ _ _).1 h))]
    ·rw [Sort.insInner,wo,wo,if_neg (by rw [Bool.and_eq_true];exact fun h=>hlt h.2)]
  ·refine TR.stop (r:=(d,i)) ?_ ?_ ⟨?_,rfl,rfl,hf⟩
   ·simp only [gH,hx];intro h;exfalso;omega
   ·simp only [de,hx];rw [if_neg (by omega)]
   ·rw [Sort.insInner,if_neg (by simp [hja])]
theorem Wz (x:List Int×Int×Int×RT) (a b:Nat) (hx:x.2.1=(a:Int)) (Z5:x.2.2.1=(b:Int)): ∀(n:Nat) (d:List Int) (i:Nat),Bm x.2.2.2 d->b<=d.length->b- i<=n->
  TR (dO x) (jf x) (d,(i:Int)) fun r=>r.toArray=Sort.insOuter (WS x.2.2.2) a b i d.toArray/\ r.length=d.length/\ Bm x.2.2.2 r:=by
 intro n
 induction n with
 |zero=>
  intro d i hf hj hn
  refine TR.stop (r:=d) ?_ ?_ ⟨?_,rfl,hf⟩
  ·simp only [jf,Z5];intro h;exfalso;omega
  ·simp only [dO,Z5];rw [if_neg (by omega)]
  ·rw [Sort.insOuter,if_neg (by omega)]
 |succ n ih=>
  intro d i hf hb hn
  have hl:=hf.len
  by_cases hi:i<b
  ·obtain ⟨k1,k2,k3,k4,k5⟩:=Wy x a hx i d i hf (by omega)
   refine TR.go (s':=((run (de x) (d,(i:Int),(i:Int))).1,((i+1:Nat):Int))) ?_ ?_ ((ih _ _ k5 (by omega) (by omega)).mono fun r hr=>⟨?_,by omega,hr.2.2⟩)
   ·simp only [jf];exact fun _=>k1
   ·simp only [dO,aq,Z5,k3]
    rw [if_pos (by omega),aF (by omega) (by omega)];rfl
   ·rw [hr.1,k2]
    conv=>rhs;rw [Sort.insOuter,if_pos hi]
  ·refine TR.stop (r:=d) ?_ ?_ ⟨?_,rfl,hf⟩
   ·simp only [jf,Z5];intro h;exfalso;omega
   ·simp only [dO,Z5];rw [if_neg (by omega)]
   ·rw [Sort.insOuter,if_neg hi]
theorem aer {r:RT} {d:List Int} (hf:Bm r d) {a b:Nat} (hab:a<=b) (hb:b<=d.length):
  zG (d,(a:Int),(b:Int),r)/\ Out r d a b (Mh (d,(a:Int),(b:Int),r)).2.1/\ Sort.SortedIn (WS r) a b (Mh (d,(a:Int),(b:Int),r)).2.1.toArray:=by
 have hl:=hf.len
 have e:av ((a:Int)+1)=((a+1:Nat):Int):=by rw [aF (by omega) (by omega)];omega
 obtain ⟨h1,h2,h3,h4⟩:=Wz (d,(a:Int),(b:Int),r) a b rfl rfl _ d (a+1) hf hb (Nat.le_refl _)
 obtain ⟨k1,k2⟩:=Sort.insertionSort_holds (Uj r) d.toArray a b hab (by simpa using hb)
 unfold Sort.insertionSort at k1 k2
 refine ⟨?_,?_,?_⟩
 ·simp only [zG,aC,e]
  exact ⟨h1,h3⟩
 ·simp only [Mh,aq,e]
  exact ⟨by rw [h2];exact k1,h3,h4⟩
 ·simp only [Mh,aq,e]
  rw [h2];exact k2
theorem u8w (n:Int):IntKind.wrap IntKind.u8 n=n % 256:=by simp [IntKind.wrap,IntKind.bits,IntKind.signed]
theorem amV (n:Int):IntKind.wrap IntKind.u64 n=n % 18446744073709551616:=by simp [IntKind.wrap,IntKind.bits,IntKind.signed]
abbrev most:Nat:=12
theorem akb (n:Nat):sg (n:Int):=by
 simp only [sg,u8w]
 repeat' (first|with_reducible apply And.intro|intro _)
 all_goals omega
def srt (r:RT) (d:List Int):List Int:=d.mergeSort fun x y=> !WS r y x
theorem abB {r:RT} {d:List Int} (hf:Bm r d) (hm:d.length<=most):rh (d,r)/\ (GK (d,r)).2.1=srt r d:=by
 have hl:=hf.len
 have e:IntKind.wrap IntKind.u64 ((d.length:Nat):Int)=((d.length:Nat):Int):=by rw [amV];omega
 have e2:av (((d.length:Nat):Int)- 0)=((d.length:Nat):Int):=by rw [aF (by omega) (by omega)];omega
 have h12:d.length<=12:=hm
 have c:((d.length:Nat):Int)<=12:=by omega
 obtain ⟨i1,i2,i3⟩:=aer hf (Nat.zero_le _) (Nat.le_refl d.length)
 have hi:Mh (d,((0:Nat):Int),((d.length:Nat):Int),r)=Mh (d,(0:Int),(d.length:Int),r):=rfl
 rw [show (((0:Nat):Int))=0 from rfl] at i1 i2 i3
 refine ⟨?_,?_⟩
 ·simp only [rh,aC,e,Gk,aa4,aq,e2]
  refine ⟨akb _,⟨fun _=>⟨i1,i2.2.1⟩,fun q=>absurd c q⟩,?_⟩
  rw [if_pos c];exact i2.2.1
 ·simp only [GK,aq,e,aa4,e2]
  rw [if_pos c]
  have:=Sort.sorted_unique_holds (Uj r) (WT r) d.toArray _ (by simpa using i2.1) (by simpa using i3)
  simpa [srt] using this
theorem Qu (r:RT) (d:List Int):(srt r d).Perm d:=List.mergeSort_perm _ _
end Go.Proofs.YtngdehlpoomaiaaGreat
