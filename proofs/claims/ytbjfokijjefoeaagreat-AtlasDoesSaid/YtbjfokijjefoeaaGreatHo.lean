/- Plain laws: numbers as digits (the document's answer for layer 1), and fractions compared by them. -/
import Derived.Test.YtbjfokijjefoeaaGreatHb
import Derived.Test.YtbjfokijjefoeaaGreatBb
noncomputable section
set_option linter.unusedSectionVars false
set_option linter.unusedVariables false
set_option linter.unusedSimpArgs false
namespace Go.Proofs.YtbjfokijjefoeaaGreat
open Go Go.Ev Go.Proofs
def V:List Int->Int
 | []=>0
 |d::r=>d+10*V r
abbrev Nn (l:List Int):Prop:= ∀d∈l,0<=d
abbrev vj (l:List Int):Prop:= ∀d∈l,0<=d/\ d<=9
theorem vj.nn {l:List Int} (h:vj l):Nn l:=fun d hd=>(h d hd).1
theorem Nh (n:Nat):(0:Int)<10^n:=Int.pow_pos (by decide)
theorem sG (n:Nat):(10:Int)^(n+1)=10*10^n:=by rw [Int.pow_succ,Int.mul_comm]
theorem N1 (a b:List Int):V (a++b)=V a+10^a.length*V b:=by
 induction a with
 |nil=>simp [V]
 |cons d r ih=>simp only [List.cons_append,V,ih,List.length_cons,sG];grind
theorem XN (l:List Int) (k:Nat):V (l.drop k)=l.getD k 0+10*V (l.drop (k+1)):=by
 rcases Nat.lt_or_ge k l.length with h|h
 ·rw [List.drop_eq_getElem_cons h,List.getD_eq_getElem?_getD,List.getElem?_eq_getElem h];rfl
 ·rw [List.drop_eq_nil_of_le h,List.drop_eq_nil_of_le (by omega),List.getD_eq_getElem?_getD,List.getElem?_eq_none h];rfl
theorem Fj (l:List Int) (k:Nat):V l=V (l.take k)+10^k*V (l.drop k):=by
 rcases Nat.lt_or_ge k l.length with h|h
 ·have:=N1 (l.take k) (l.drop k)
  rw [List.take_append_drop,List.length_take,Nat.min_eq_left (by omega)] at this
  exact this
 ·rw [List.take_of_length_le h,List.drop_eq_nil_of_le h];simp [V]
theorem F0 (l:List Int) (k:Nat):V (l.take (k+1))=V (l.take k)+10^k*l.getD k 0:=by
 rcases Nat.lt_or_ge k l.length with h|h
 ·rw [List.take_add_one,List.getElem?_eq_getElem h,Option.toList_some,N1,List.length_take,Nat.min_eq_left (by omega),List.getD_eq_getElem?_getD,List.getElem?_eq_getElem h]
  simp [V]
 ·rw [List.take_of_length_le (by omega),List.take_of_length_le h,List.getD_eq_getElem?_getD,List.getElem?_eq_none h];simp
theorem QW {l:List Int} (h:Nn l):0<=V l:=by
 induction l with
 |nil=>exact Int.le_refl _
 |cons d r ih=>
  have h1:=h d (by simp)
  have h2:=ih fun x hx=>h x (by simp [hx])
  simp only [V];omega
theorem afd {l:List Int} (h:vj l):V l<10^l.length:=by
 induction l with
 |nil=>decide
 |cons d r ih=>
  have h1:=h d (by simp)
  have h2:=ih fun x hx=>h x (by simp [hx])
  simp only [V,List.length_cons,sG];omega
theorem ads {l:List Int} (h:Nn l) (hv:V l=0): ∀d∈l,d=0:=by
 induction l with
 |nil=>intro d hd;cases hd
 |cons d r ih=>
  have h1:=h d (by simp)
  have h2:=QW (l:=r) fun x hx=>h x (by simp [hx])
  simp only [V] at hv
  intro x hx
  rcases List.mem_cons.1 hx with rfl|hx
  ·omega
  ·exact ih (fun x hx=>h x (by simp [hx])) (by omega) x hx
theorem aaX {l:List Int} (h: ∀d∈l,d=0):V l=0:=by
 induction l with
 |nil=>rfl
 |cons d r ih=>
  have h1:=h d (by simp)
  have h2:=ih fun x hx=>h x (by simp [hx])
  simp only [V];omega
theorem AG {l:List Int} (h:vj l) (i:Nat):0<=l.getD i 0/\ l.getD i 0<=9:=by
 rw [List.getD_eq_getElem?_getD]
 cases e:l[i]? with
 |none=>exact ⟨by decide,by decide⟩
 |some x=>exact h x (List.mem_of_getElem? e)
theorem GF {l:List Int} {i:Nat} (h:l.length<=i):l.getD i 0=0:=by
 rw [List.getD_eq_getElem?_getD,List.getElem?_eq_none h];rfl
theorem acE {l:List Int} (h:vj l) (k:Nat):vj (l.take k):=fun d hd=>h d (List.mem_of_mem_take hd)
theorem abe {l:List Int} (h:vj l) (k:Nat):vj (l.drop k):=fun d hd=>h d (List.mem_of_mem_drop hd)
theorem CG {l:List Int} (h:vj l) (k:Nat):0<=V (l.take k)/\ V (l.take k)<10^k:=by
 refine ⟨QW (acE h k).nn,?_⟩
 induction k with
 |zero=>simp [V]
 |succ k ih=>
  rw [F0,sG]
  have:=Int.mul_le_mul_of_nonneg_left (AG h k).2 (show (0:Int)<=10^k from Int.le_of_lt (Nh k))
  omega
theorem Cv (b:Bool) (d:List Int) (hd:Nn d) (hl:d.length<1000000):cz (b,d)/\ ∃d',gO (b,d)=(b&&decide (0<V d),d')/\ V d'=V d/\ (∀x∈d',x∈d)/\ d'.length<=d.length:=by
 obtain ⟨h1,n,hr,hn,hz,hw⟩:=dr (step:=cF (b,d)) (pre:=iG (b,d)) (fun s=> ∃n:Nat,s=n/\ n<=d.length/\ ∀x∈d.drop n,x=0) (fun s=>s.toNat)
  (fun r=> ∃n:Nat,r=n/\ n<=d.length/\ (∀x∈d.drop n,x=0)/\ (n=0\/ d.getD (n- 1) 0≠0)) (fun s ⟨n,e,hn,hz⟩=>by
   subst e
   match n with
   |0=>
    refine ⟨fun h=>absurd h (by decide),fun s' h=> ?_,fun r h=> ?_⟩<;>unfold cF at h<;>rw [if_neg (by decide)] at h
    ·cases h
    ·cases h;exact ⟨0,rfl,by omega,hz,.inl rfl⟩
   |n+1=>
    have e:az (((n+1:Nat):Int)- 1)=n:=by rw [aR (by omega) (by omega)];omega
    unfold cF iG
    dsimp only
    rw [e,Int.toNat_natCast,if_pos (by omega)]
    refine ⟨fun _=>by omega,fun s' h=> ?_,fun r h=> ?_⟩
    ·split at h
     ·rename_i h0
      cases h
      refine ⟨⟨n,rfl,by omega,fun x hx=> ?_⟩,by simp⟩
      rw [List.drop_eq_getElem_cons (by omega)] at hx
      rcases List.mem_cons.1 hx with rfl|hx
      ·rw [List.getD_eq_getElem?_getD,List.getElem?_eq_getElem (by omega)] at h0
       simpa using h0
      ·exact hz x hx
     ·cases h
    ·split at h
     ·cases h
     ·rename_i h0
      cases h
      exact ⟨n+1,rfl,hn,hz,.inr (by simpa using h0)⟩) (d.length:Int) ⟨d.length,rfl,Nat.le_refl _,by simp⟩
 have hv:V (d.take n)=V d:=by rw [Fj d n,aaX hz];omega
 have hpos:(0<n)↔0<V d:=by
  have h0:=QW hd
  constructor
  ·intro h
   rcases hw with hw|hw
   ·omega
   ·rcases Int.lt_or_eq_of_le h0 with h2|h2
    ·exact h2
    ·exact absurd (ads hd h2.symm _ (by
      rw [List.getD_eq_getElem?_getD,List.getElem?_eq_getElem (by omega)];exact List.getElem_mem _)) hw
  ·intro h
   rcases Nat.eq_zero_or_pos n with h2|h2
   ·subst h2
    simp [V] at hv;omega
   ·exact h2
 refine ⟨⟨h1,?_⟩,d.take n,?_,hv,fun x hx=>List.mem_of_mem_take hx,by simp;omega⟩
 ·unfold aA
  dsimp only
  rw [hr]
  exact ⟨fun _=>⟨by omega,by omega⟩,fun _=>⟨by omega,by omega⟩⟩
 ·unfold gO
  dsimp only [ai]
  rw [hr,Int.toNat_natCast]
  cases b
  ·rfl
  ·rw [if_pos rfl]
   congr 1
   rw [Bool.true_and,Bool.eq_iff_iff,decide_eq_true_iff,decide_eq_true_iff,<- hpos];omega
theorem eS (a:Bool×List Int) (i:Nat):dw (a,(i:Int))/\ eJ (a,(i:Int))=a.2.getD i 0:=by
 unfold eJ dw
 dsimp only
 rw [Int.toNat_natCast]
 refine ⟨fun h=>by omega,?_⟩
 split
 ·rfl
 ·rw [GF (by omega)]
theorem aiN (m:Int):(0<=m->m.tdiv 10=m / 10/\ m.tmod 10=m % 10)/\ (m<0->m.tdiv 10= -((-m) / 10)/\ m.tmod 10= -((-m) % 10)):=by
 refine ⟨fun h=>⟨Int.tdiv_eq_ediv_of_nonneg h,Int.tmod_eq_emod_of_nonneg h⟩,fun h=> ?_⟩
 have e1:=Int.tdiv_eq_ediv_of_nonneg (a:= -m) (b:=10) (by omega)
 have e2:=Int.tmod_eq_emod_of_nonneg (a:= -m) (b:=10) (by omega)
 rw [Int.neg_tdiv] at e1
 rw [Int.neg_tmod] at e2
 omega
theorem Wp (n:Int) (h1: -9223372036854775808<=n) (h2:n<=9223372036854775807):fe n/\ ∃d,fc n=(decide (n<0),d)/\ V d=n.natAbs/\ vj d/\ d.length<=19:=by
 obtain ⟨g1,gl,gd,gv⟩:=dr (step:=cw n) (pre:=fZ n) (fun s=>s.1.natAbs<10^(19- s.2.length)/\ s.2.length<=19/\ vj s.2/\ V s.2+10^s.2.length*(s.1.natAbs:Int)=n.natAbs/\ -9223372036854775808<=s.1/\ s.1<=9223372036854775807) (fun s=>s.1.natAbs)
  (fun r=>r.length<=19/\ vj r/\ V r=n.natAbs) (fun s hs=>by
   obtain ⟨m,ds⟩:=s
   obtain ⟨j1,j2,j3,j4,j5,j6⟩:=hs
   dsimp only at j1 j2 j3 j4 j5 j6
   unfold cw fZ
   dsimp only
   by_cases h0:m=0
   ·subst h0
    refine ⟨fun h=>by simp at h,fun s' h=> ?_,fun r h=> ?_⟩<;>rw [if_neg (by decide)] at h
    ·cases h
    ·cases h;exact ⟨j2,j3,by simpa using j4⟩
   ·have hlen:ds.length<19:=by
     rcases Nat.lt_or_ge ds.length 19 with h|h
     ·exact h
     ·have:19- ds.length=0:=by omega
      rw [this] at j1;omega
    refine ⟨fun _=>⟨fun _=>by omega,fun _=>by omega⟩,?_⟩
    rw [if_pos (by simpa using h0)]
    have key: ∀(q r:Int),q.natAbs=m.natAbs / 10-> -9223372036854775808<=q->q<=9223372036854775807->r=(m.natAbs % 10:Nat)->(q.natAbs<10^(19- (ds++ [r]).length)/\ (ds++ [r]).length<=19/\ vj (ds++ [r])/\ V (ds++ [r])+10^(ds++ [r]).length*(q.natAbs:Int)=n.natAbs/\ -9223372036854775808<=q/\ q<=9223372036854775807)/\ q.natAbs<m.natAbs:=by
     intro q r hq q1 q2 hr
     have e:19- ds.length=(19- (ds++ [r]).length)+1:=by simp;omega
     rw [e,Nat.pow_succ] at j1
     refine ⟨⟨by rw [hq];omega,by simp;omega,fun d hd=> ?_,?_,q1,q2⟩,by omega⟩
     ·rcases List.mem_append.1 hd with hd|hd
      ·exact j3 d hd
      ·rw [List.mem_singleton] at hd;subst hd;omega
     ·rw [N1,List.length_append,List.length_singleton,sG,hq,←j4]
      simp only [V]
      have:(m.natAbs:Int)=10*((m.natAbs / 10:Nat):Int)+((m.natAbs % 10:Nat):Int):=by omega
      rw [hr,this]
      generalize (10:Int)^ds.length=t
      generalize ((m.natAbs / 10:Nat):Int)=u
      generalize ((m.natAbs % 10:Nat):Int)=v
      grind
    obtain ⟨t1,t2⟩:=aiN m
    rcases Int.lt_or_le m 0 with hm|hm
    ·obtain ⟨e1,e2⟩:=t2 hm
     rw [e1,e2,aR (n:= -(-m / 10)) (by omega) (by omega)]
     refine ⟨fun s' h=> ?_,fun r h=> ?_⟩
     ·split at h
      ·cases h
       rw [aR (by omega) (by omega)]
       exact key _ _ (by omega) (by omega) (by omega) (by omega)
      ·cases h
       exact key _ _ (by omega) (by omega) (by omega) (by omega)
     ·split at h<;>cases h
    ·obtain ⟨e1,e2⟩:=t1 hm
     rw [e1,e2,aR (n:=m / 10) (by omega) (by omega)]
     refine ⟨fun s' h=> ?_,fun r h=> ?_⟩
     ·split at h
      ·omega
      ·cases h
       exact key _ _ (by omega) (by omega) (by omega) (by omega)
     ·split at h<;>cases h) (n,[]) ⟨by dsimp only [List.length_nil,Nat.sub_zero];omega,by simp,(fun d hd=>by cases hd),by simp [V],h1,h2⟩
 obtain ⟨t1,d,t2,t3,t4,t5⟩:=Cv (decide (n<0)) (run (cw n) (n,[])) gd.nn (by omega)
 refine ⟨⟨g1,t1⟩,d,?_,by rw [t3,gv],fun x hx=>gd x (t4 x hx),by omega⟩
 unfold fc
 dsimp only [ai]
 rw [t2,gv]
 congr 1
 rw [Bool.eq_iff_iff,Bool.and_eq_true,decide_eq_true_iff,decide_eq_true_iff];omega
end Go.Proofs.YtbjfokijjefoeaaGreat
namespace Go.Proofs.YtbjfokijjefoeaaGreat
open Go Go.Ev Go.Proofs
theorem Ua (a b:List Int):bp (a.length:Int) (b.length:Int)=((max a.length b.length:Nat):Int):=by unfold bp;split<;>omega
theorem aao (a b:Bool×List Int) (ha:vj a.2) (hb:vj b.2) (la:a.2.length<1000) (lb:b.2.length<1000):um (a,b)/\ (Dj (a,b)>=0↔V b.2<=V a.2):=by
 obtain ⟨h1,h2⟩:=dr (step:=ga (a,b)) (pre:=rP (a,b)) (fun s=> ∃k:Nat,s=(k:Int)- 1/\ k<1000/\ V (a.2.drop k)=V (b.2.drop k)) (fun s=>(s+1).toNat)
  (fun r=>match r with| .inl v=>(v= -1/\ V a.2<V b.2)\/ (v=1/\ V b.2<V a.2)| .inr _=>V a.2=V b.2) (fun s ⟨k,e,hk,hz⟩=>by
   subst e
   match k with
   |0=>
    refine ⟨fun h=>absurd h (by decide),fun s' h=> ?_,fun r h=> ?_⟩<;>unfold ga at h<;>rw [if_neg (by decide)] at h
    ·cases h
    ·cases h
     simpa using hz
   |k+1=>
    have e:(((k+1:Nat):Int)- 1)=(k:Int):=by omega
    unfold ga rP
    dsimp only [ai,aA]
    rw [e,(eS a k).2,(eS b k).2]
    have pa:=(eS a k).1
    have pb:=(eS b k).1
    refine ⟨fun _=>⟨pa,pb,fun _=>⟨pa,pb⟩⟩,?_⟩
    rw [if_pos (by omega)]
    have va:=XN a.2 k
    have vb:=XN b.2 k
    have sa:=Fj a.2 k
    have sb:=Fj b.2 k
    have ta:=CG ha k
    have tb:=CG hb k
    have hp:=Nh k
    have key: ∀u v x y:Int,0<=x->y<10^k->u<v->y+10^k*u<x+10^k*v:=fun u v x y hx hy huv=>by
     have:=Int.mul_le_mul_of_nonneg_left (show u+1<=v by omega) (Int.le_of_lt hp)
     rw [Int.mul_add,Int.mul_one] at this
     omega
    refine ⟨fun s' h=> ?_,fun r h=> ?_⟩
    ·split at h
     ·cases h
     ·split at h
      ·cases h
      ·cases h
       refine ⟨⟨k,by rw [aR (by omega) (by omega)],by omega,?_⟩,by rw [aR (by omega) (by omega)];omega⟩
       rw [va,vb,hz];omega
    ·split at h
     ·rename_i hlt
      cases h
      refine .inl ⟨rfl,?_⟩
      rw [sa,sb]
      exact key _ _ _ _ tb.1 ta.2 (by rw [va,vb,hz];omega)
     ·split at h
      ·rename_i hgt
       cases h
       refine .inr ⟨rfl,?_⟩
       rw [sa,sb]
       exact key _ _ _ _ ta.1 tb.2 (by rw [va,vb,hz];omega)
      ·cases h) (az ((bp (a.2.length:Int) (b.2.length:Int))- 1)) ⟨max a.2.length b.2.length,by rw [Ua,aR (by omega) (by omega)],by omega,by rw [List.drop_eq_nil_of_le (by omega),List.drop_eq_nil_of_le (by omega)]⟩
 refine ⟨h1,?_⟩
 unfold Dj
 dsimp only [ai]
 generalize run (ga (a,b)) _=r at h2 ⊢
 cases r with
 |inl v=>
  have h2:(v= -1/\ V a.2<V b.2)\/ (v=1/\ V b.2<V a.2):=h2
  show v>=0↔_
  omega
 |inr _=>
  have h2:V a.2=V b.2:=h2
  show (0:Int)>=0↔_
  omega
theorem Pj (a b:Bool×List Int) (ha:vj a.2) (hb:vj b.2) (la:a.2.length<1000) (lb:b.2.length<1000):uk (a,b)/\ V (uj (a,b))=V a.2+V b.2/\ vj (uj (a,b))/\ (uj (a,b)).length<=max a.2.length b.2.length+1:=by
 obtain ⟨h1,h2⟩:=dr (step:=lY (a,b)) (pre:=rN (a,b))
  (fun s=> ∃k:Nat,s.2.2=k/\ k<=max a.2.length b.2.length+1/\ s.1.length=k/\ vj s.1/\ (0<=s.2.1/\ s.2.1<=1)/\ (k=max a.2.length b.2.length+1->s.2.1=0)/\ V s.1+10^k*s.2.1=V (a.2.take k)+V (b.2.take k))
  (fun s=>max a.2.length b.2.length+1- s.2.2.toNat) (fun r=>V r=V a.2+V b.2/\ vj r/\ r.length<=max a.2.length b.2.length+1) (fun s ⟨k,e,hk,hl,hd,hc,hz,hv⟩=>by
   obtain ⟨out,c,i⟩:=s
   dsimp only at e hl hd hc hz hv
   subst e
   unfold lY rN
   dsimp only [ai,aA]
   rw [(eS a k).2,(eS b k).2,Ua,aR (n:=((max a.2.length b.2.length:Nat):Int)+1) (by omega) (by omega)]
   have da:=AG ha k
   have db:=AG hb k
   refine ⟨fun h=>⟨(eS a k).1,(eS b k).1,by omega⟩,fun s' h=> ?_,fun r h=> ?_⟩
   ·split at h
    ·rename_i hlt
     cases h
     rw [aR (n:=a.2.getD k 0+b.2.getD k 0) (by omega) (by omega),aR (n:=a.2.getD k 0+b.2.getD k 0+c) (by omega) (by omega),Int.tdiv_eq_ediv_of_nonneg (by omega),Int.tmod_eq_emod_of_nonneg (by omega),aR (n:=(k:Int)+1) (by omega) (by omega),aR (by omega) (by omega)]
     refine ⟨⟨k+1,by simp,by omega,by simp [hl],fun d hd'=> ?_,by dsimp only;omega,fun hk'=> ?_,?_⟩,by dsimp only;omega⟩
     ·rcases List.mem_append.1 hd' with h'|h'
      ·exact hd d h'
      ·rw [List.mem_singleton] at h';omega
     ·have z1:a.2.getD k 0=0:=GF (by omega)
      have z2:b.2.getD k 0=0:=GF (by omega)
      dsimp only
      omega
     ·rw [N1,hl,F0,F0,sG]
      simp only [V]
      have hx:=Int.mul_ediv_add_emod (a.2.getD k 0+b.2.getD k 0+c) 10
      generalize (a.2.getD k 0+b.2.getD k 0+c) / 10=q at*
      generalize (a.2.getD k 0+b.2.getD k 0+c) % 10=r at*
      generalize (10:Int)^k=t at*
      have:t*(10*q+r)=t*(a.2.getD k 0+b.2.getD k 0+c):=by rw [hx]
      grind
    ·cases h
   ·split at h
    ·cases h
    ·rename_i hge
     cases h
     have hk':k=max a.2.length b.2.length+1:=by omega
     have hc0:=hz hk'
     rw [hc0,Int.mul_zero,Int.add_zero,List.take_of_length_le (by omega),List.take_of_length_le (by omega)] at hv
     exact ⟨hv,hd,by omega⟩) ([],0,0) ⟨0,rfl,by omega,rfl,(fun d hd=>by cases hd),⟨by decide,by decide⟩,fun h=>by omega,by simp [V]⟩
 exact ⟨h1,h2⟩
theorem xA (a b:Bool×List Int) (ha:vj a.2) (hb:vj b.2) (la:a.2.length<1000) (lb:b.2.length<1000) (hle:V b.2<=V a.2):kP (a,b)/\ V (nH (a,b))=V a.2- V b.2/\ vj (nH (a,b))/\ (nH (a,b)).length<=1000:=by
 obtain ⟨h1,h2⟩:=dr (step:=ko (a,b)) (pre:=qh (a,b))
  (fun s=> ∃k:Nat,s.2.2=k/\ k<=a.2.length/\ s.1.length=k/\ vj s.1/\ (0<=s.2.1/\ s.2.1<=1)/\ V s.1=V (a.2.take k)- V (b.2.take k)+10^k*s.2.1)
  (fun s=>a.2.length- s.2.2.toNat) (fun r=>V r=V a.2- V b.2/\ vj r/\ r.length<=1000) (fun s ⟨k,e,hk,hl,hd,hc,hv⟩=>by
   obtain ⟨out,c,i⟩:=s
   dsimp only at e hl hd hc hv
   subst e
   unfold ko qh
   dsimp only [ai,aA]
   rw [(eS a k).2,(eS b k).2]
   have da:=AG ha k
   have db:=AG hb k
   rw [aR (n:=a.2.getD k 0- b.2.getD k 0) (by omega) (by omega),aR (n:=a.2.getD k 0- b.2.getD k 0- c) (by omega) (by omega)]
   refine ⟨fun h=>⟨(eS a k).1,(eS b k).1,fun _=>by omega,fun _=>by omega⟩,fun s' h=> ?_,fun r h=> ?_⟩
   ·split at h
    ·rename_i hlt
     have key: ∀x c':Int,0<=x/\ x<=9->x- 10*c'=a.2.getD k 0- b.2.getD k 0- c->0<=c'/\ c'<=1->(∃k':Nat,(((k:Int)+1)=(k':Int))/\ k'<=a.2.length/\ (out++ [x]).length=k'/\ vj (out++ [x])/\ (0<=c'/\ c'<=1)/\ V (out++ [x])=V (a.2.take k')- V (b.2.take k')+10^k'*c'):=fun x c' hx YO Ro=>by
      refine ⟨k+1,by simp,by omega,by simp [hl],fun d hd'=> ?_,Ro,?_⟩
      ·rcases List.mem_append.1 hd' with h'|h'
       ·exact hd d h'
       ·rw [List.mem_singleton] at h';omega
      ·rw [N1,hl,F0,F0,sG,hv]
       simp only [V]
       have:x=a.2.getD k 0- b.2.getD k 0- c+10*c':=by omega
       rw [this]
       grind
     split at h
     ·cases h
      rw [aR (n:=(k:Int)+1) (by omega) (by omega),aR (by omega) (by omega)]
      exact ⟨key _ 1 (by omega) (by omega) (by omega),by dsimp only;omega⟩
     ·cases h
      rw [aR (n:=(k:Int)+1) (by omega) (by omega)]
      exact ⟨key _ 0 (by omega) (by omega) (by omega),by dsimp only;omega⟩
    ·cases h
   ·split at h
    ·split at h<;>cases h
    ·rename_i hge
     cases h
     have hk':k=a.2.length:=by omega
     have sb:=Fj b.2 k
     have tb:=CG hb k
     have dn:=QW (abe hb k).nn
     have va:=afd ha
     have vo:=afd hd
     rw [hl] at vo
     rw [<- hk'] at va
     have hp:=Nh k
     rw [List.take_of_length_le (by omega)] at hv
     have hdz:V (b.2.drop k)=0:=by
      rcases Int.lt_or_eq_of_le dn with h|h
      ·have:=Int.mul_le_mul_of_nonneg_left (show (1:Int)≤V (b.2.drop k) by omega) (Int.le_of_lt hp)
       omega
      ·exact h.symm
     rw [hdz,Int.mul_zero,Int.add_zero] at sb
     have hc0:c=0:=by
      have:c=0\/ c=1:=by omega
      rcases this with h|h
      ·exact h
      ·rw [h,Int.mul_one] at hv;omega
     rw [hc0,Int.mul_zero,Int.add_zero,<- sb] at hv
     exact ⟨hv,hd,by omega⟩) ([],0,0) ⟨0,rfl,by omega,rfl,(fun d hd=>by cases hd),⟨by decide,by decide⟩,by simp [V]⟩
 exact ⟨h1,h2⟩
def TJ (a:Bool×List Int):Int:=if a.1=true then-V a.2 else V a.2
theorem UX (a b:Bool×List Int) (ha:vj a.2) (hb:vj b.2) (la:a.2.length<1000) (lb:b.2.length<1000):kQ (a,b)/\ (qj (a,b)).1=decide (TJ a+TJ b<0):=by
 obtain ⟨p1,p2,p3,p4⟩:=Pj a b ha hb la lb
 obtain ⟨z1,z2⟩:=aao a b ha hb la lb
 have na:=QW ha.nn
 have nb:=QW hb.nn
 have tr: ∀(s:Bool) (d:List Int),vj d->d.length<=1000->cz (s,d)/\ (gO (s,d)).1=(s&&decide (0<V d)):=fun s d hd hl=>by
  obtain ⟨t1,d',t2,_⟩:=Cv s d hd.nn (by omega)
  exact ⟨t1,by rw [t2]⟩
 refine ⟨⟨fun _=>⟨p1,(tr _ _ p3 (by omega)).1⟩,fun _=>⟨z1,fun h=> ?_,fun h=> ?_⟩⟩,?_⟩
 ·obtain ⟨m1,m2,m3,m4⟩:=xA a b ha hb la lb (z2.1 h)
  exact ⟨m1,(tr _ _ m3 m4).1⟩
 ·obtain ⟨m1,m2,m3,m4⟩:=xA b a hb ha lb la (by have: ¬V b.2≤V a.2:=fun hh=>h (z2.2 hh);omega)
  exact ⟨m1,(tr _ _ m3 m4).1⟩
 ·unfold qj TJ
  dsimp only [ai]
  split
  ·rename_i hs
   rw [(tr _ _ p3 (by omega)).2,p2]
   have hs:a.1=b.1:=by simpa using hs
   rw [<- hs]
   cases a.1
   ·simp;omega
   ·simp;omega
  ·rename_i hs
   split
   ·rename_i h
    have hle:=z2.1 h
    obtain ⟨m1,m2,m3,m4⟩:=xA a b ha hb la lb hle
    rw [(tr _ _ m3 m4).2,m2]
    cases ea:a.1<;>cases eb:b.1<;>rw [ea,eb] at hs<;>simp at hs ⊢ <;>omega
   ·rename_i h
    have hle: ¬V b.2<=V a.2:=fun hh=>h (z2.2 hh)
    obtain ⟨m1,m2,m3,m4⟩:=xA b a hb ha lb la (by omega)
    rw [(tr _ _ m3 m4).2,m2]
    cases ea:a.1<;>cases eb:b.1<;>rw [ea,eb] at hs<;>simp at hs ⊢ <;>omega
theorem Y9 (a b:Bool×List Int) (ha:vj a.2) (hb:vj b.2) (la:a.2.length<1000) (lb:b.2.length<1000):zO (a,b)/\ NB (a,b)=decide (TJ a<TJ b):=by
 obtain ⟨t1,d,t2,t3,t4,t5⟩:=Cv (!b.1) b.2 hb.nn (by omega)
 have ho:pB b=((!b.1)&&decide (0<V b.2),d):=by unfold pB;dsimp only [ai];exact t2
 have hd:vj d:=fun x hx=>hb x (t4 x hx)
 obtain ⟨s1,s2⟩:=UX a ((!b.1)&&decide (0<V b.2),d) ha hd la (by dsimp only;omega)
 have nb:=QW hb.nn
 have hv:TJ ((!b.1)&&decide (0<V b.2),d)= -TJ b:=by
  unfold TJ
  dsimp only
  rw [t3]
  cases b.1<;>simp<;>omega
 refine ⟨⟨t1,?_⟩,?_⟩
 ·unfold aA
  rw [ho]
  exact s1
 ·unfold NB
  dsimp only [ai]
  rw [ho,s2,hv,Bool.eq_iff_iff,decide_eq_true_iff,decide_eq_true_iff];omega
theorem aeK (a b:Bool×List Int) (ha:vj a.2) (hb:vj b.2) (la:a.2.length<900) (lb:b.2.length<900) (h1:a.1=false) (h2:b.1=false):
  kQ (a,b)/\ TJ (qj (a,b))=TJ a+TJ b/\ vj (qj (a,b)).2/\ (qj (a,b)).2.length<1000:=by
 obtain ⟨p1,p2,p3,p4⟩:=Pj a b ha hb (by omega) (by omega)
 obtain ⟨t1,d,t2,t3,t4,t5⟩:=Cv a.1 (uj (a,b)) p3.nn (by omega)
 refine ⟨(UX a b ha hb (by omega) (by omega)).1,?_⟩
 have e:qj (a,b)=gO (a.1,uj (a,b)):=by
  unfold qj
  dsimp only [ai]
  rw [if_pos (by rw [h1,h2];rfl)]
 rw [e,t2,h1]
 refine ⟨?_,fun x hx=>p3 x (t4 x hx),by dsimp only;omega⟩
 unfold TJ
 rw [h1,h2]
 dsimp only
 rw [if_neg (by simp),if_neg (by decide),if_neg (by decide),t3,p2]
theorem C5 {n:Int} (h:0<=n) (h2:n<=1000000):fe n/\ TJ (fc n)=n/\ vj (fc n).2/\ (fc n).2.length<900/\ (fc n).1=false:=by
 obtain ⟨o1,d,o2,o3,o4,o5⟩:=Wp n (by omega) (by omega)
 rw [o2]
 refine ⟨o1,?_,o4,by dsimp only;omega,decide_eq_false (by omega)⟩
 unfold TJ
 dsimp only
 rw [if_neg (by rw [decide_eq_true_iff];omega),o3];omega
theorem lu {α:Type} {v:α} {f:α->Prop} (h:f v):aA v f:=h
theorem jv {α β:Type} (v:α) (f:α->β):ai v f=f v:=rfl
theorem Pe {a n b:Int} (ha:0<=a/\ a<=1000) (hn:0<=n/\ n<=1000) (hb:0<=b/\ b<=1000):oa (a,n,b)/\ xK (a,n,b)=decide (a+n<=b):=by
 obtain ⟨x1,x2,x3,x4,x5⟩:=C5 ha.1 (by omega)
 obtain ⟨y1,y2,y3,y4,y5⟩:=C5 hn.1 (by omega)
 obtain ⟨z1,z2,z3,z4,z5⟩:=C5 hb.1 (by omega)
 obtain ⟨s1,s2,s3,s4⟩:=aeK _ _ x3 y3 x4 y4 x5 y5
 obtain ⟨l1,l2⟩:=Y9 _ _ z3 s3 (by omega) s4
 unfold oa xK
 dsimp only [aA,ai]
 refine ⟨⟨x1,y1,s1,z1,l1⟩,?_⟩
 rw [l2,s2,x2,y2,z2,Bool.eq_iff_iff,Bool.not_eq_true',decide_eq_false_iff_not,decide_eq_true_iff];omega
theorem F9 {a n b m:Int} (ha:0<=a/\ a<=1000) (hn:1<=n/\ n<=1000) (hb:0<=b/\ b<=1000) (hm:1<=m/\ m<=1000):nB (a,n,b,m)/\ pO (a,n,b,m)=(decide (a+n<=b)||decide (b+m<=a)):=by
 obtain ⟨x1,x2⟩:=Pe ha (n:=n) (by omega) hb
 obtain ⟨y1,y2⟩:=Pe hb (n:=m) (by omega) ha
 refine ⟨fun _ _=>⟨x1,lu fun _=>y1⟩,?_⟩
 unfold pO
 dsimp only
 rw [if_neg (by omega),if_neg (by omega),jv,x2,jv,y2]
 cases decide (a+n<=b)<;>rfl
theorem Nr {w h:Int} (hw:kF w) (hh:kF h) {a b:vf} (ha:Mn w h a) (hb:Mn w h b):tX (a,b)/\ (sL (a,b)=true↔JV a b):=by
 obtain ⟨⟨a1,a2⟩,⟨a3,a4⟩,a5,a6⟩:=ha
 obtain ⟨⟨b1,b2⟩,⟨b3,b4⟩,b5,b6⟩:=hb
 obtain ⟨_,w2⟩:=hw
 obtain ⟨_,h2⟩:=hh
 obtain ⟨x1,x2⟩:=F9 (a:=a.1) (n:=a.2.2.1) (b:=b.1) (m:=b.2.2.1) (by omega) (by omega) (by omega) (by omega)
 obtain ⟨y1,y2⟩:=F9 (a:=a.2.1) (n:=a.2.2.2) (b:=b.2.1) (m:=b.2.2.2) (by omega) (by omega) (by omega) (by omega)
 refine ⟨⟨x1,lu fun _=>y1⟩,?_⟩
 unfold sL
 dsimp only
 rw [jv,x2,jv,y2]
 unfold JV
 by_cases c1:a.1+a.2.2.1<=b.1<;>by_cases c2:b.1+b.2.2.1<=a.1<;>simp [c1,c2]
theorem JI (w h:Int) (hw:kF w) (hh:kF h) (r:vf):mQ (w,h,r)=true↔Mn w h r:=by
 obtain ⟨w1,w2⟩:=hw
 obtain ⟨h1,h2⟩:=hh
 unfold mQ Mn
 dsimp only
 by_cases c1:r.2.2.1>=1
 ·by_cases c2:r.2.2.2≥1
  ·by_cases c3:r.1≥0
   ·by_cases c4:r.2.1≥0
    ·by_cases c5:r.2.2.1≤w
     ·by_cases c6:r.2.2.2≤h
      ·rw [if_pos c1,if_pos c2,if_pos c3,if_pos c4,if_pos c5,if_pos c6,aR (n:=w- r.2.2.1) (by omega) (by omega),aR (n:=h- r.2.2.2) (by omega) (by omega)]
       by_cases c7:r.1<=w- r.2.2.1
       ·rw [if_pos c7,decide_eq_true_iff];omega
       ·rw [if_neg c7];exact ⟨fun q=>(by cases q),fun q=>absurd q (by omega)⟩
      ·rw [if_pos c1,if_pos c2,if_pos c3,if_pos c4,if_pos c5,if_neg c6];exact ⟨fun q=>(by cases q),fun q=>absurd q (by omega)⟩
     ·rw [if_pos c1,if_pos c2,if_pos c3,if_pos c4,if_neg c5];exact ⟨fun q=>(by cases q),fun q=>absurd q (by omega)⟩
    ·rw [if_pos c1,if_pos c2,if_pos c3,if_neg c4];exact ⟨fun q=>(by cases q),fun q=>absurd q (by omega)⟩
   ·rw [if_pos c1,if_pos c2,if_neg c3];exact ⟨fun q=>(by cases q),fun q=>absurd q (by omega)⟩
  ·rw [if_pos c1,if_neg c2];exact ⟨fun q=>(by cases q),fun q=>absurd q (by omega)⟩
 ·rw [if_neg c1];exact ⟨fun q=>(by cases q),fun q=>absurd q (by omega)⟩
end Go.Proofs.YtbjfokijjefoeaaGreat
