/- Sorting, plain: the partial insertion. -/
import Derived.Test.YtlkgabjhkfhgaaaGreatTi
noncomputable section
set_option linter.unusedSectionVars false
set_option linter.unusedVariables false
set_option linter.unusedSimpArgs false
namespace Go.Proofs.YtlkgabjhkfhgaaaGreat
open Go Go.Ev Go.Proofs
section
variable {x:List Int×Int×Int×RT} {b:Nat}
theorem Va (hx:x.2.2.1=(b:Int)) {d:List Int} (hf:cr x.2.2.2 d) (hb:b<=d.length) (c:Int): ∀(n i:Nat),1<=i->i<=b->b- i<=n->
  TR (cO x) (jH x) (d,((i:Int),c)) fun r=>r=(d,(((Sort.scanSorted (cW x.2.2.2) d.toArray b i:Nat):Int),c))/\ i<=Sort.scanSorted (cW x.2.2.2) d.toArray b i/\ Sort.scanSorted (cW x.2.2.2) d.toArray b i<=b:=by
 have hl:=hf.len
 have hpre: ∀i:Nat,1<=i->jH x (d,((i:Int),c)):=fun i hi=>by
  simp only [jH,hx,Int.toNat_natCast]
  intro h
  have e:ae ((i:Int)- 1)=((i- 1:Nat):Int):=bT (by omega) (by omega)
  simp only [e,Int.toNat_natCast]
  refine ⟨?_,?_,?_,?_,?_,?_,hf.LS (by omega) (by omega)⟩<;>omega
 intro n
 induction n with
 |zero=>
  intro i h1 h2 hn
  have e:Sort.scanSorted (cW x.2.2.2) d.toArray b i=i:=by rw [Sort.scanSorted,if_neg (by rw [Bool.and_eq_true,decide_eq_true_eq];omega)]
  refine TR.stop (r:=(d,((i:Int),c))) (hpre i h1) ?_ ⟨by rw [e],by rw [e];omega,by rw [e];omega⟩
  simp only [cO,hx]
  rw [if_neg (by omega)]
 |succ n ih=>
  intro i h1 h2 hn
  by_cases hi:i<b
  ·have e0:ae ((i:Int)- 1)=((i- 1:Nat):Int):=bT (by omega) (by omega)
   by_cases hlt:cW x.2.2.2 (d.getD i 0) (d.getD (i- 1) 0)=true
   ·have e:Sort.scanSorted (cW x.2.2.2) d.toArray b i=i:=by rw [Sort.scanSorted,aS,aS,if_neg (by rw [Bool.and_eq_true,hlt];simp)]
    refine TR.stop (r:=(d,((i:Int),c))) (hpre i h1) ?_ ⟨by rw [e],by rw [e];omega,by rw [e];omega⟩
    simp only [cO,ai,hx,e0,Int.toNat_natCast]
    rw [if_pos (by omega),if_neg (fun h=>by have:=(Mq _ _ _).1 h;rw [hlt] at this;cases this)]
   ·have e:Sort.scanSorted (cW x.2.2.2) d.toArray b i=Sort.scanSorted (cW x.2.2.2) d.toArray b (i+1):=by rw [Sort.scanSorted,aS,aS,if_pos (by rw [Bool.and_eq_true];exact ⟨decide_eq_true hi,by rw [Bool.eq_false_iff.2 hlt];rfl⟩)]
    rw [e]
    refine TR.go (s':=(d,(((i+1:Nat):Int),c))) (hpre i h1) ?_ ((ih (i+1) (by omega) (by omega) (by omega)).mono fun r hr=>⟨hr.1,by omega,hr.2.2⟩)
    simp only [cO,ai,hx,e0,Int.toNat_natCast]
    rw [if_pos (by omega),if_pos ((Mq _ _ _).2 (by rw [Bool.eq_false_iff.2 hlt];rfl)),bT (n:=(i:Int)+1) (m:=i+1) (by omega) (by omega)]
  ·have e:Sort.scanSorted (cW x.2.2.2) d.toArray b i=i:=by rw [Sort.scanSorted,if_neg (by rw [Bool.and_eq_true,decide_eq_true_eq];omega)]
   refine TR.stop (r:=(d,((i:Int),c))) (hpre i h1) ?_ ⟨by rw [e],by rw [e];omega,by rw [e];omega⟩
   simp only [cO,hx]
   rw [if_neg (by omega)]
theorem U8 (u v:Int): ∀(j:Nat) (d:List Int),cr x.2.2.2 d->j<d.length->
  TR (cP x) (gX x) (d,(u,(v,(j:Int)))) fun r=>r.1.toArray=Sort.shiftDown (cW x.2.2.2) j d.toArray/\ r.2=(u,v)/\ r.1.length=d.length/\ cr x.2.2.2 r.1:=by
 intro j
 induction j with
 |zero=>
  intro d hf hj
  refine TR.stop (r:=(d,(u,v))) ?_ ?_ ⟨?_,rfl,rfl,hf⟩
  ·simp only [gX];intro h;exfalso;omega
  ·simp only [cP];rw [if_neg (by omega)]
  ·rw [Sort.shiftDown]
 |succ j ih=>
  intro d hf hj
  have hl:=hf.len
  have e:ae (((j+1:Nat):Int)- 1)=(j:Int):=bT (by omega) (by omega)
  have hpre:gX x (d,(u,(v,((j+1:Nat):Int)))):=by
   simp only [gX,az,e,List.length_set,Int.toNat_natCast]
   repeat' (first|with_reducible exact hf.LS (by omega) (by omega)|with_reducible apply And.intro|intro _)
   all_goals omega
  by_cases hlt:cW x.2.2.2 (d.getD (j+1) 0) (d.getD j 0)=true
  ·refine TR.go (s':=(sw d (j+1) j,(u,(v,(j:Int))))) hpre ?_ ((ih _ (hf.sw hj (by omega)) (by rw [cf];omega)).mono fun r hr=>⟨?_,hr.2.1,by rw [hr.2.2.1,cf],hr.2.2.2⟩)
   ·simp only [cP,ai,e,Int.toNat_natCast]
    rw [if_pos (by omega),if_neg (fun h=>by have:=(Mq _ _ _).1 h;rw [hlt] at this;cases this)];rfl
   ·rw [hr.1,ia]
    conv=>rhs;rw [Sort.shiftDown,aS,aS,if_neg (by rw [hlt];simp)]
  ·refine TR.stop (r:=(d,(u,v))) hpre ?_ ⟨?_,rfl,rfl,hf⟩
   ·simp only [cP,ai,e,Int.toNat_natCast]
    rw [if_pos (by omega),if_pos ((Mq _ _ _).2 (by rw [Bool.eq_false_iff.2 hlt];rfl))]
   ·rw [Sort.shiftDown,aS,aS,if_pos (by rw [Bool.eq_false_iff.2 hlt];rfl)]
theorem IN (hx:x.2.2.1=(b:Int)) (u v:Int): ∀(n j:Nat) (d:List Int),cr x.2.2.2 d->1<=j->b<=d.length->b- j<=n->
  TR (bj x) (dc x) (d,(u,(v,(j:Int)))) fun r=>r.1.toArray=Sort.shiftUp (cW x.2.2.2) b j d.toArray/\ r.2=(u,v)/\ r.1.length=d.length/\ cr x.2.2.2 r.1:=by
 intro n
 induction n with
 |zero=>
  intro j d hf h1 hb hn
  refine TR.stop (r:=(d,(u,v))) ?_ ?_ ⟨?_,rfl,rfl,hf⟩
  ·simp only [dc,hx];intro h;exfalso;omega
  ·simp only [bj,hx];rw [if_neg (by omega)]
  ·rw [Sort.shiftUp,if_neg (by omega)]
 |succ n ih=>
  intro j d hf h1 hb hn
  have hl:=hf.len
  by_cases hj:j<b
  ·have e:ae ((j:Int)- 1)=((j- 1:Nat):Int):=bT (by omega) (by omega)
   have e1:ae ((j:Int)+1)=((j+1:Nat):Int):=bT (by omega) (by omega)
   have hpre:dc x (d,(u,(v,(j:Int)))):=by
    simp only [dc,az,e,List.length_set,Int.toNat_natCast]
    repeat' (first|with_reducible exact hf.LS (by omega) (by omega)|with_reducible apply And.intro|intro _)
    all_goals omega
   by_cases hlt:cW x.2.2.2 (d.getD j 0) (d.getD (j- 1) 0)=true
   ·refine TR.go (s':=(sw d j (j- 1),(u,(v,((j+1:Nat):Int))))) hpre ?_ ((ih (j+1) _ (hf.sw (i:=j) (j:=j- 1) (by omega) (by omega)) (by omega) (by rw [cf];omega) (by omega)).mono fun r hr=>⟨?_,hr.2.1,by rw [hr.2.2.1,cf],hr.2.2.2⟩)
    ·simp only [bj,ai,hx,e,e1,Int.toNat_natCast]
     rw [if_pos (by omega),if_neg (fun h=>by have:=(Mq _ _ _).1 h;rw [hlt] at this;cases this)];rfl
    ·rw [hr.1,ia]
     conv=>rhs;rw [Sort.shiftUp,if_pos hj,aS,aS,if_neg (by rw [hlt];simp)]
   ·refine TR.stop (r:=(d,(u,v))) hpre ?_ ⟨?_,rfl,rfl,hf⟩
    ·simp only [bj,ai,hx,e,e1,Int.toNat_natCast]
     rw [if_pos (by omega),if_pos ((Mq _ _ _).2 (by rw [Bool.eq_false_iff.2 hlt];rfl))]
    ·rw [Sort.shiftUp,if_pos hj,aS,aS,if_pos (by rw [Bool.eq_false_iff.2 hlt];rfl)]
  ·refine TR.stop (r:=(d,(u,v))) ?_ ?_ ⟨?_,rfl,rfl,hf⟩
   ·simp only [dc,hx];intro h;exfalso;omega
   ·simp only [bj,hx];rw [if_neg (by omega)]
   ·rw [Sort.shiftUp,if_neg (by omega)]
def qu (r:(List Int×Bool)⊕List Int):List Int×Bool:=Sum.elim id (fun d=>(d,false)) r
theorem U9 {a:Nat} (Md:x.2.1=(a:Int)) (hx:x.2.2.1=(b:Int)): ∀(s i c:Nat) (d:List Int),cr x.2.2.2 d->c+s=5->a<i->i<=b->b<=d.length->
  TR (bu x) (da x) (d,((i:Int),(c:Int))) fun r=>(qu r).1.toArray=(Sort.partialIns (cW x.2.2.2) a b s i d.toArray).1/\ (qu r).2=(Sort.partialIns (cW x.2.2.2) a b s i d.toArray).2/\ (qu r).1.length=d.length/\ cr x.2.2.2 (qu r).1:=by
 intro s
 induction s with
 |zero=>
  intro i c d hf hc hi hib hb
  refine TR.stop (r:= .inr d) ?_ ?_ ⟨?_,?_,rfl,hf⟩
  ·simp only [da];intro h;exfalso;omega
  ·simp only [bu];rw [if_neg (by omega)]
  ·show d.toArray=_
   rw [Sort.partialIns]
  ·rw [Sort.partialIns];rfl
 |succ s ih=>
  intro i c d hf hc hi hib hb
  have hl:=hf.len
  obtain ⟨u1,u2,u3,u4⟩:=Va hx hf hb (c:Int) _ i (by omega) hib (Nat.le_refl _)
  obtain ⟨i2,Kr⟩: ∃i2,i2=Sort.scanSorted (cW x.2.2.2) d.toArray b i:=⟨_,rfl⟩
  rw [<- Kr] at u2 u3 u4
  have e3:ae ((b:Int)- (a:Int))=((b- a:Nat):Int):=bT (by omega) (by omega)
  have hT:Sort.partialIns (cW x.2.2.2) a b (s+1) i d.toArray=if i2=b then (d.toArray,true) else if b- a<50 then (d.toArray,false) else
    Sort.partialIns (cW x.2.2.2) a b s i2 (if b- i2>=2 then Sort.shiftUp (cW x.2.2.2) b (i2+1) (if i2- a>=2 then Sort.shiftDown (cW x.2.2.2) (i2- 1) (Sort.swp d.toArray i2 (i2- 1)) else Sort.swp d.toArray i2 (i2- 1)) else (if i2- a>=2 then Sort.shiftDown (cW x.2.2.2) (i2- 1) (Sort.swp d.toArray i2 (i2- 1)) else Sort.swp d.toArray i2 (i2- 1))):=by
   rw [Sort.partialIns,<- Kr]
  by_cases Ks:i2=b
  ·refine TR.stop (r:= .inl (d,true)) ?_ ?_ ⟨?_,?_,rfl,hf⟩
   ·simp only [da,az,u2,hx]
    exact fun _=>⟨u1,fun h=>absurd (by rw [Ks];simp) h⟩
   ·simp only [bu,ai,u2,hx]
    rw [if_pos (by omega),if_pos (by rw [Ks];simp)]
   ·rw [hT,if_pos Ks];rfl
   ·rw [hT,if_pos Ks];rfl
  have hne: ¬(((i2:Int)==(b:Int))=true):=by simp;omega
  by_cases ZV:b- a<50
  ·refine TR.stop (r:= .inl (d,false)) ?_ ?_ ⟨?_,?_,rfl,hf⟩
   ·simp only [da,az,u2,hx,Md,e3]
    exact fun _=>⟨u1,fun _ h=>absurd (show ((b- a:Nat):Int)<50 by omega) h⟩
   ·simp only [bu,ai,u2,hx,Md,e3]
    rw [if_pos (by omega),if_neg hne,if_pos (by omega)]
   ·rw [hT,if_neg Ks,if_pos ZV];rfl
   ·rw [hT,if_neg Ks,if_pos ZV];rfl
  have e1:ae ((i2:Int)- 1)=((i2- 1:Nat):Int):=bT (by omega) (by omega)
  have e2:ae ((i2:Int)+1)=((i2+1:Nat):Int):=bT (by omega) (by omega)
  have e4:ae ((i2:Int)- (a:Int))=((i2- a:Nat):Int):=bT (by omega) (by omega)
  have e5:ae ((b:Int)- (i2:Int))=((b- i2:Nat):Int):=bT (by omega) (by omega)
  have e6:ae ((c:Int)+1)=((c+1:Nat):Int):=bT (by omega) (by omega)
  have hs:=hf.sw (i:=i2) (j:=i2- 1) (by omega) (by omega)
  have hsw:(d.set i2 (d.getD (i2- 1) 0)).set (i2- 1) (d.getD i2 0)=sw d i2 (i2- 1):=rfl
  obtain ⟨D,hD⟩: ∃D,D=sw d i2 (i2- 1):=⟨_,rfl⟩
  have hDl:D.length=d.length:=by rw [hD,cf]
  have hDa:Sort.swp d.toArray i2 (i2- 1)=D.toArray:=by rw [hD,ia]
  rw [<- hD] at hs hsw
  rw [hDa] at hT
  rw [hT,if_neg Ks,if_neg ZV]
  obtain ⟨w1,w2,w3,w4,w5⟩:=U8 (x:=x) (i2:Int) (c:Int) (i2- 1) D hs (by omega)
  obtain ⟨R,hR⟩: ∃R,R=run (cP x) (D,((i2:Int),((c:Int),((i2- 1:Nat):Int)))):=⟨_,rfl⟩
  rw [<- hR] at w2 w3 w4 w5
  have hbase: ∀(E:List Int),E.length=d.length->cr x.2.2.2 E->dc x (E,((i2:Int),((c:Int),((i2+1:Nat):Int))))/\ True:=fun E h1 h2=>⟨(by
   have:=(IN (x:=x) hx (i2:Int) (c:Int) _ (i2+1) E h2 (by omega) (by omega) (Nat.le_refl _)).1
   cases this with|mk _ hp _=>exact hp),trivial⟩
  have hpre:da x (d,((i:Int),(c:Int))):=by
   simp only [da,az,u2,hx,Md,e1,e2,e3,e4,e5,List.length_set,Int.toNat_natCast,hsw,<- hR,w3]
   refine fun _=>⟨u1,fun _ _=> ?_⟩
   refine ⟨?_,?_,?_,?_,?_,?_,?_,?_,?_,?_,?_,?_,fun _=>⟨w1,fun _=>(IN (x:=x) hx (i2:Int) (c:Int) _ (i2+1) R.1 w5 (by omega) (by omega) (Nat.le_refl _)).1⟩,fun _ _=>(IN (x:=x) hx (i2:Int) (c:Int) _ (i2+1) D hs (by omega) (by omega) (Nat.le_refl _)).1⟩<;>omega
  have hst:bu x (d,((i:Int),(c:Int)))=(if ((i2- a:Nat):Int)>=2 then (if ((b- i2:Nat):Int)>=2 then Sum.inl ((run (bj x) (R.1,((i2:Int),((c:Int),((i2+1:Nat):Int))))).1,((run (bj x) (R.1,((i2:Int),((c:Int),((i2+1:Nat):Int))))).2.1,ae ((run (bj x) (R.1,((i2:Int),((c:Int),((i2+1:Nat):Int))))).2.2+1))) else Sum.inl (R.1,((i2:Int),((c+1:Nat):Int)))) else
    (if ((b- i2:Nat):Int)>=2 then Sum.inl ((run (bj x) (D,((i2:Int),((c:Int),((i2+1:Nat):Int))))).1,((run (bj x) (D,((i2:Int),((c:Int),((i2+1:Nat):Int))))).2.1,ae ((run (bj x) (D,((i2:Int),((c:Int),((i2+1:Nat):Int))))).2.2+1))) else Sum.inl (D,((i2:Int),((c+1:Nat):Int))))):=by
   simp only [bu,ai,u2,hx,Md,e1,e2,e3,e4,e5,e6,Int.toNat_natCast,hsw,<- hR,w3]
   rw [if_pos (by omega),if_neg hne,if_neg (by omega)]
  have fin: ∀(E:List Int) (A:Array Int),E.toArray=A->E.length=d.length->cr x.2.2.2 E->bu x (d,((i:Int),(c:Int)))= .inl (E,((i2:Int),((c+1:Nat):Int)))->
    TR (bu x) (da x) (d,((i:Int),(c:Int))) fun r=>(qu r).1.toArray=(Sort.partialIns (cW x.2.2.2) a b s i2 A).1/\ (qu r).2=(Sort.partialIns (cW x.2.2.2) a b s i2 A).2/\ (qu r).1.length=d.length/\ cr x.2.2.2 (qu r).1:=fun E A h1 h2 h3 h4=>
   TR.go hpre h4 ((ih i2 (c+1) E h3 (by omega) (by omega) (by omega) (by omega)).mono fun r hr=>by rw [h1,h2] at hr;exact hr)
  by_cases hA:i2- a>=2
  ·by_cases hB:b- i2≥2
   ·obtain ⟨z1,z2,z3,z4,z5⟩:=IN (x:=x) hx (i2:Int) (c:Int) _ (i2+1) R.1 w5 (by omega) (by omega) (Nat.le_refl _)
    rw [if_pos hB,if_pos hA]
    refine fin _ _ (by rw [z2,w2]) (by omega) z5 ?_
    rw [hst,if_pos (by omega),if_pos (by omega),z3,e6]
   ·rw [if_neg hB,if_pos hA]
    refine fin _ _ w2 (by omega) w5 ?_
    rw [hst,if_pos (by omega),if_neg (by omega)]
  ·by_cases hB:b- i2≥2
   ·obtain ⟨z1,z2,z3,z4,z5⟩:=IN (x:=x) hx (i2:Int) (c:Int) _ (i2+1) D hs (by omega) (by omega) (Nat.le_refl _)
    rw [if_pos hB,if_neg hA]
    refine fin _ _ z2 (by omega) z5 ?_
    rw [hst,if_neg (by omega),if_pos (by omega),z3,e6]
   ·rw [if_neg hB,if_neg hA]
    refine fin _ _ rfl (by omega) hs ?_
    rw [hst,if_neg (by omega),if_neg (by omega)]
end
theorem XA {r:RT} {d:List Int} (hf:cr r d) {a b:Nat} (hab:a<b) (hb:b<=d.length) (hB:Sort.Below (cW r) a b d.toArray):
  jg (d,((a:Int),((b:Int),r)))/\ Out r d a b (lC (d,((a:Int),((b:Int),r)))).2.1/\ ((lC (d,((a:Int),((b:Int),r)))).1=true->Sort.SortedIn (cW r) a b (lC (d,((a:Int),((b:Int),r)))).2.1.toArray):=by
 have hl:=hf.len
 have e:ae ((a:Int)+1)=((a+1:Nat):Int):=bT (by omega) (by omega)
 obtain ⟨h1,h2,h3,h4,h5⟩:=U9 (x:=(d,((a:Int),((b:Int),r)))) (a:=a) (b:=b) rfl rfl 5 (a+1) 0 d hf rfl (by omega) (by omega) hb
 obtain ⟨k1,k2⟩:=Sort.partialInsertionSort_holds (gD r) d.toArray a b hab (by simpa using hb) hB
 unfold Sort.partialInsertionSort at k1 k2
 obtain ⟨R,hR⟩: ∃R,R=run (bu (d,((a:Int),((b:Int),r)))) (d,(((a+1:Nat):Int),((0:Nat):Int))):=⟨_,rfl⟩
 rw [<- hR] at h2 h3 h4 h5
 have hM:lC (d,((a:Int),((b:Int),r)))=((qu R).2,((qu R).1,(false,(false,false)))):=by
  simp only [lC,ai,e]
  rw [show run (bu (d,((a:Int),((b:Int),r)))) (d,(((a+1:Nat):Int),(0:Int)))=R from hR.symm]
  cases R<;>rfl
 refine ⟨?_,?_,?_⟩
 ·simp only [jg,az,e]
  refine ⟨h1,?_⟩
  rw [show run (bu (d,((a:Int),((b:Int),r)))) (d,(((a+1:Nat):Int),(0:Int)))=R from hR.symm]
  revert h4
  cases R<;>exact fun h=>h
 ·rw [hM]
  exact ⟨by show Sort.PermIn a b d.toArray (qu R).1.toArray;rw [h2];exact k1,h4,h5⟩
 ·rw [hM]
  intro h
  show Sort.SortedIn (cW r) a b (qu R).1.toArray
  rw [h2];exact k2 (by rw [<- h3];exact h)
end Go.Proofs.YtlkgabjhkfhgaaaGreat
namespace Go.Proofs.YtlkgabjhkfhgaaaGreat
open Go Go.Ev Go.Proofs
section
variable {lt:Int->Int->Bool} (hS:Sort.SWO lt)
include hS
theorem Nm {a b:Nat} {D:Array Int} (h0:0<a) (h:Sort.Below lt a b D) {pv:Nat} (hp:lt D[a- 1]! D[pv]! =false): ∀i,a<=i->i<b->lt D[i]! D[pv]! =false:=fun i h1 h2=>by
 rcases h with h|h
 ·omega
 ·exact hS.ntrans _ _ _ (h i h1 h2) hp
theorem pA {a b:Nat} {D D':Array Int} (hb:b<=D.size) (h:Sort.Below lt a b D) (hp:Sort.PermIn a b D D'):Sort.Below lt a b D':=by
 have _:=hS
 rcases Nat.eq_zero_or_pos a with h0|h0
 ·exact .inl h0
 ·rcases h with h|h
  ·omega
  ·refine .inr fun i h1 h2=> ?_
   rw [hp.2.1 (a- 1) (.inl (by omega))]
   exact Sort.permIn_all D D' a b (fun e=>lt e D[a- 1]! =false) hb hp h i h1 h2
theorem TC {a b m pv:Nat} {D d' r':Array Int} (hb:b<=D.size) (hall: ∀i,a<=i->i<b->lt D[i]! D[pv]! =false) (Bm:a<m) (Tf:m<=b) (hP:Sort.PermIn a b D d')
  (h1: ∀i,a<=i->i<m->lt D[pv]! d'[i]! =false) (h2: ∀i,m<=i->i<b->lt D[pv]! d'[i]! =true):
  Sort.Below lt m b d'/\ (Sort.PermIn m b d' r'->Sort.SortedIn lt m b r'->Sort.PermIn a b D r'/\ Sort.SortedIn lt a b r'):=by
 refine ⟨.inr fun i hi1 Kr=> ?_,fun hP2 hs=> ?_⟩
 ·rcases hq:lt d'[i]! d'[m- 1]! with _|_
  ·rfl
  ·have:=hS.trans _ _ _ (h2 i hi1 Kr) hq
   rw [h1 (m- 1) (by omega) (by omega)] at this;cases this
 ·have hsz:d'.size=D.size:=hP.1
  have hP3:=Sort.permIn_mono d' r' m b a b (by omega) (Nat.le_refl _) (by omega) hP2
  have hP4:=Sort.permIn_trans D d' r' a b hP hP3
  refine ⟨hP4,fun i j WG hij hjb=> ?_⟩
  by_cases him:m<=i
  ·exact hs i j him hij hjb
  ·have k1:=Sort.permIn_all D r' a b (fun e=>lt e D[pv]! =false) hb hP4 hall j (by omega) hjb
   rw [hP2.2.1 i (.inl (by omega))]
   exact hS.ntrans _ _ _ k1 (h1 i WG (by omega))
theorem Nv {a b m:Nat} {D d' r':Array Int} (hb:b<=D.size) (Bm:a<=m) (Tf:m<b) (hP:Sort.PermIn a b D d')
  (h1: ∀i,a<=i->i<m->lt d'[i]! d'[m]! =true) (h2: ∀i,m<i->i<b->lt d'[i]! d'[m]! =false)
  {e':Array Int} (hL:Sort.PermIn a m d' e') (hR:Sort.PermIn (m+1) b e' r') (sL:Sort.SortedIn lt a m r') (sR:Sort.SortedIn lt (m+1) b r'):
  Sort.PermIn a b D r'/\ Sort.SortedIn lt a b r':=by
 have z1:d'.size=D.size:=hP.1
 have z2:e'.size=d'.size:=hL.1
 have q1:=Sort.permIn_mono d' e' a m a b (Nat.le_refl _) (by omega) (by omega) hL
 have q2:=Sort.permIn_mono e' r' (m+1) b a b (by omega) (Nat.le_refl _) (by omega) hR
 have q3:=Sort.permIn_trans D e' r' a b (Sort.permIn_trans D d' e' a b hP q1) q2
 have em:e'[m]! =d'[m]! :=hL.2.1 m (.inr (Nat.le_refl _))
 have rm:r'[m]! =d'[m]! :=by rw [hR.2.1 m (.inl (by omega)),em]
 have Xj:=Sort.permIn_all d' e' a m (fun e=>lt e d'[m]! =true) (by omega) hL h1
 have Xk: ∀i,a<=i->i<m->lt r'[i]! d'[m]! =true:=fun i i1 i2=>by rw [hR.2.1 i (.inl (by omega))];exact Xj i i1 i2
 have WT: ∀i,m+1<=i->i<b->lt e'[i]! d'[m]! =false:=fun i i1 i2=>by rw [hL.2.1 i (.inr (by omega))];exact h2 i (by omega) i2
 have QG:=Sort.permIn_all e' r' (m+1) b (fun e=>lt e d'[m]! =false) (by omega) hR WT
 refine ⟨q3,fun i j WG hij hjb=> ?_⟩
 rcases Nat.lt_trichotomy i m with hi|hi|hi
 ·rcases Nat.lt_or_ge j m with hj|hj
  ·exact sL i j WG hij hj
  ·have k1:=Xk i WG hi
   have k2:lt r'[j]! d'[m]! =false:=by
    rcases Nat.eq_or_lt_of_le hj with e|hj'
    ·rw [<- e,rm];exact hS.irrefl _
    ·exact QG j hj' hjb
   rcases hq:lt r'[j]! r'[i]! with _|_
   ·rfl
   ·have:=hS.trans _ _ _ hq k1
    rw [k2] at this;cases this
 ·rw [hi,rm];exact QG j (by omega) hjb
 ·exact sR i j hi hij hjb
theorem J7 {a b m:Nat} {D d' r':Array Int} (hb:b<=D.size) (Bm:a<=m) (Tf:m<b) (hP:Sort.PermIn a b D d')
  (h1: ∀i,a<=i->i<m->lt d'[i]! d'[m]! =true) (h2: ∀i,m<i->i<b->lt d'[i]! d'[m]! =false)
  {e':Array Int} (hR:Sort.PermIn (m+1) b d' e') (hL:Sort.PermIn a m e' r') (sL:Sort.SortedIn lt a m r') (sR:Sort.SortedIn lt (m+1) b r'):
  Sort.PermIn a b D r'/\ Sort.SortedIn lt a b r':=by
 have z1:d'.size=D.size:=hP.1
 have z2:e'.size=d'.size:=hR.1
 have q1:=Sort.permIn_mono d' e' (m+1) b a b (by omega) (Nat.le_refl _) (by omega) hR
 have q2:=Sort.permIn_mono e' r' a m a b (Nat.le_refl _) (by omega) (by omega) hL
 have q3:=Sort.permIn_trans D e' r' a b (Sort.permIn_trans D d' e' a b hP q1) q2
 have em:e'[m]! =d'[m]! :=hR.2.1 m (.inl (by omega))
 have rm:r'[m]! =d'[m]! :=by rw [hL.2.1 m (.inr (Nat.le_refl _)),em]
 have WT:=Sort.permIn_all d' e' (m+1) b (fun e=>lt e d'[m]! =false) (by omega) hR fun i i1 i2=>h2 i (by omega) i2
 have QG: ∀i,m+1<=i->i<b->lt r'[i]! d'[m]! =false:=fun i i1 i2=>by rw [hL.2.1 i (.inr (by omega))];exact WT i i1 i2
 have Xj: ∀i,a<=i->i<m->lt e'[i]! d'[m]! =true:=fun i i1 i2=>by rw [hR.2.1 i (.inl (by omega))];exact h1 i i1 i2
 have Xk:=Sort.permIn_all e' r' a m (fun e=>lt e d'[m]! =true) (by omega) hL Xj
 refine ⟨q3,fun i j WG hij hjb=> ?_⟩
 rcases Nat.lt_trichotomy i m with hi|hi|hi
 ·rcases Nat.lt_or_ge j m with hj|hj
  ·exact sL i j WG hij hj
  ·have k1:=Xk i WG hi
   have k2:lt r'[j]! d'[m]! =false:=by
    rcases Nat.eq_or_lt_of_le hj with e|hj'
    ·rw [<- e,rm];exact hS.irrefl _
    ·exact QG j hj' hjb
   rcases hq:lt r'[j]! r'[i]! with _|_
   ·rfl
   ·have:=hS.trans _ _ _ hq k1
    rw [k2] at this;cases this
 ·rw [hi,rm];exact QG j (by omega) hjb
 ·exact sR i j hi hij hjb
end
end Go.Proofs.YtlkgabjhkfhgaaaGreat
namespace Go.Proofs.YtlkgabjhkfhgaaaGreat
open Go Go.Ev Go.Proofs
section
variable [pq]
abbrev PX:Type:=List Int×Int×Int×Int×RT
abbrev PS:Type:=List Int×Int×Int×Int×Bool×Bool
def My (x:PX) (s:PS) (d:List Int) (pv eL:Int):PS⊕List Int:=
 (ai (bn (d,(s.2.1,(s.2.2.1,(pv,x.2.2.2.2))))) fun y=>
  (if ((ae (y.1.1- s.2.1))<(ae (s.2.2.1- y.1.1))) then
   (ai (ct (y.2.1,(s.2.1,(y.1.1,(eL,x.2.2.2.2))))) fun aq=>
    (Sum.inl (aq.2.1,((ae (y.1.1+(1:Int))),(s.2.2.1,(eL,((decide ((ae (y.1.1- s.2.1))>=(ae (Int.tdiv (ae (s.2.2.1- s.2.1)) (8:Int))))),y.1.2))))))) else
   (ai (ct (y.2.1,((ae (y.1.1+(1:Int))),(s.2.2.1,(eL,x.2.2.2.2))))) fun aq=>
    (Sum.inl (aq.2.1,(s.2.1,(y.1.1,(eL,((decide ((ae (s.2.2.1- y.1.1))>=(ae (Int.tdiv (ae (s.2.2.1- s.2.1)) (8:Int))))),y.1.2)))))))))
def xp (x:PX) (s:PS) (d:List Int) (pv eL:Int):PS⊕List Int:=
 (if (s.2.1>(0:Int)) then
  (ai (jQ (x.2.2.2.2,((List.getD d (Int.toNat (ae (s.2.1- (1:Int)))) (0:Int)),(List.getD d (Int.toNat pv) (0:Int))))) fun y=>
   (if ((!(decide (y<(0:Int))))=true) then
    (ai (dN (d,(s.2.1,(s.2.2.1,(pv,x.2.2.2.2))))) fun aq=>
     (Sum.inl (aq.2.1,(aq.1,(s.2.2.1,(eL,(s.2.2.2.2.1,s.2.2.2.2.2))))))) else
    My x s d pv eL)) else
  My x s d pv eL)
def Vw (x:PX) (s:PS) (d:List Int) (pv eL:Int):PS⊕List Int:=
 (ai (lC (d,(s.2.1,(s.2.2.1,x.2.2.2.2)))) fun y=>
  (if (y.1=true) then Sum.inr y.2.1 else xp x s y.2.1 pv eL))
def L5 (x:PX) (s:PS) (d:List Int) (eL:Int):PS⊕List Int:=
 (ai (zN (d,(s.2.1,(s.2.2.1,x.2.2.2.2)))) fun y=>
  (if ((y.2==(2:Int))=true) then
   (ai (DL (d,(s.2.1,(s.2.2.1,x.2.2.2.2)))) fun aq=>
    (if (s.2.2.2.2.1=true) then
     (if (s.2.2.2.2.2=true) then Vw x s aq.2.1 (ae ((ae (s.2.2.1- (1:Int)))- (ae (y.1- s.2.1)))) eL else xp x s aq.2.1 (ae ((ae (s.2.2.1- (1:Int)))- (ae (y.1- s.2.1)))) eL) else
     xp x s aq.2.1 (ae ((ae (s.2.2.1- (1:Int)))- (ae (y.1- s.2.1)))) eL)) else
   (if (s.2.2.2.2.1=true) then
    (if (s.2.2.2.2.2=true) then
     (if ((y.2==(1:Int))=true) then Vw x s d y.1 eL else xp x s d y.1 eL) else xp x s d y.1 eL) else
    xp x s d y.1 eL)))
theorem step_eq (x:PX) (s:PS):cH x s=
  (if ((ae (s.2.2.1- s.2.1))<=(12:Int)) then
   (ai (KI (s.1,(s.2.1,(s.2.2.1,x.2.2.2.2)))) fun y=>Sum.inr y.2.1) else
   (if ((s.2.2.2.1==(0:Int))=true) then
    (ai (Bf (s.1,(s.2.1,(s.2.2.1,x.2.2.2.2)))) fun y=>Sum.inr y.2.1) else
    (if ((!s.2.2.2.2.1)=true) then
     (ai (HA (s.1,(s.2.1,(s.2.2.1,x.2.2.2.2)))) fun y=>L5 x s y.2.1 (ae (s.2.2.2.1- (1:Int)))) else
     L5 x s s.1 s.2.2.2.1))):=by kernel_rfl
def Mx (x:PX) (s:PS) (d:List Int) (pv eL:Int):Prop:=
 ((aU (d,(s.2.1,(s.2.2.1,(pv,x.2.2.2.2)))))/\
  az (bn (d,(s.2.1,(s.2.2.1,(pv,x.2.2.2.2))))) fun y=>
   ((((ae (y.1.1- s.2.1))<(ae (s.2.2.1- y.1.1)))->(aH (y.2.1,(s.2.1,(y.1.1,(eL,x.2.2.2.2))))))/\
    (¬((ae (y.1.1- s.2.1))<(ae (s.2.2.1- y.1.1)))->(aH (y.2.1,((ae (y.1.1+(1:Int))),(s.2.2.1,(eL,x.2.2.2.2))))))))
def xn (x:PX) (s:PS) (d:List Int) (pv eL:Int):Prop:=
 (((s.2.1>(0:Int))->
  ((((0:Int)<=(ae (s.2.1- (1:Int))))/\ ((ae (s.2.1- (1:Int)))<(d.length:Int)))/\
  (((Int.toNat (ae (s.2.1- (1:Int))))<(List.length d))/\
  (((Int.toNat (ae (s.2.1- (1:Int))))<(List.length d))/\
  ((((0:Int)<=pv)/\ (pv<(d.length:Int)))/\
  (((Int.toNat pv)<(List.length d))/\
  (((Int.toNat pv)<(List.length d))/\
  ((bI (x.2.2.2.2,((List.getD d (Int.toNat (ae (s.2.1- (1:Int)))) (0:Int)),(List.getD d (Int.toNat pv) (0:Int)))))/\
  az (jQ (x.2.2.2.2,((List.getD d (Int.toNat (ae (s.2.1- (1:Int)))) (0:Int)),(List.getD d (Int.toNat pv) (0:Int))))) fun y=>
  ((((!(decide (y<(0:Int))))=true)->(b7 (d,(s.2.1,(s.2.2.1,(pv,x.2.2.2.2))))))/\
  (¬((!(decide (y<(0:Int))))=true)->Mx x s d pv eL))))))))))/\
 (¬(s.2.1>(0:Int))->Mx x s d pv eL))
def Vv (x:PX) (s:PS) (d:List Int) (pv eL:Int):Prop:=
 ((jg (d,(s.2.1,(s.2.2.1,x.2.2.2.2))))/\
  az (lC (d,(s.2.1,(s.2.2.1,x.2.2.2.2)))) fun y=>(¬(y.1=true)->xn x s y.2.1 pv eL))
def L4 (x:PX) (s:PS) (d:List Int) (eL:Int):Prop:=
 ((lE (d,(s.2.1,(s.2.2.1,x.2.2.2.2))))/\
  az (zN (d,(s.2.1,(s.2.2.1,x.2.2.2.2)))) fun y=>
   ((((y.2==(2:Int))=true)->
    ((oS (d,(s.2.1,(s.2.2.1,x.2.2.2.2))))/\
     az (DL (d,(s.2.1,(s.2.2.1,x.2.2.2.2)))) fun aq=>
      (((s.2.2.2.2.1=true)->
       (((s.2.2.2.2.2=true)->Vv x s aq.2.1 (ae ((ae (s.2.2.1- (1:Int)))- (ae (y.1- s.2.1)))) eL)/\
       (¬(s.2.2.2.2.2=true)->xn x s aq.2.1 (ae ((ae (s.2.2.1- (1:Int)))- (ae (y.1- s.2.1)))) eL)))/\
      (¬(s.2.2.2.2.1=true)->xn x s aq.2.1 (ae ((ae (s.2.2.1- (1:Int)))- (ae (y.1- s.2.1)))) eL))))/\
   (¬((y.2==(2:Int))=true)->
    (((s.2.2.2.2.1=true)->
     (((s.2.2.2.2.2=true)->
      ((((y.2==(1:Int))=true)->Vv x s d y.1 eL)/\
      (¬((y.2==(1:Int))=true)->xn x s d y.1 eL)))/\
     (¬(s.2.2.2.2.2=true)->xn x s d y.1 eL)))/\
    (¬(s.2.2.2.2.1=true)->xn x s d y.1 eL)))))
theorem R9 (x:PX) (s:PS):gq x s=
  ((((ae (s.2.2.1- s.2.1))<=(12:Int))->(rE (s.1,(s.2.1,(s.2.2.1,x.2.2.2.2)))))/\
  (¬((ae (s.2.2.1- s.2.1))<=(12:Int))->
   ((((s.2.2.2.1==(0:Int))=true)->(oP (s.1,(s.2.1,(s.2.2.1,x.2.2.2.2)))))/\
   (¬((s.2.2.2.1==(0:Int))=true)->
    ((((!s.2.2.2.2.1)=true)->
     ((oK (s.1,(s.2.1,(s.2.2.1,x.2.2.2.2))))/\
      az (HA (s.1,(s.2.1,(s.2.2.1,x.2.2.2.2)))) fun y=>L4 x s y.2.1 (ae (s.2.2.2.1- (1:Int)))))/\
    (¬((!s.2.2.2.2.1)=true)->L4 x s s.1 s.2.2.2.1)))))):=by kernel_rfl
end
end Go.Proofs.YtlkgabjhkfhgaaaGreat
