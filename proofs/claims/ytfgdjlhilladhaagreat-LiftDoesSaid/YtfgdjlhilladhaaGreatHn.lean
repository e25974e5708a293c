/- Plain laws: shelves: places under a sky. -/
import Derived.Test.YtfgdjlhilladhaaGreatAa
import Derived.Test.YtfgdjlhilladhaaGreatQa
import Derived.Test.YtfgdjlhilladhaaGreatQm
import Derived.Test.YtfgdjlhilladhaaGreatHc
noncomputable section
set_option linter.unusedSectionVars false
set_option linter.unusedVariables false
set_option linter.unusedSimpArgs false
namespace Go.Proofs.YtfgdjlhilladhaaGreat
open Go Go.Ev Go.Proofs
theorem bg {S R:Type} [Inhabited R] {step:S->S⊕R} {pre:S->Prop} (n:Nat) (J:Nat->S->Prop) (Post:R->Prop)
  (h1: ∀i s,i<n->J i s->pre s/\ ((∃s',step s= .inl s'/\ J (i+1) s')\/ (∃r,step s= .inr r/\ Post r)))
  (h2: ∀s,J n s->pre s/\ ∃r,step s= .inr r/\ Post r) {s:S} (h0:J 0 s):TR step pre s Post:=by
 have key: ∀k i,i+k=n-> ∀s,J i s->TR step pre s Post:=by
  intro k
  induction k with
  |zero=>
   intro i e s hj
   have:i=n:=by omega
   subst this
   obtain ⟨hp,r,e1,hq⟩:=h2 s hj
   exact TR.stop hp e1 hq
  |succ k ih=>
   intro i e s hj
   obtain ⟨hp,⟨s',e1,hj'⟩|⟨r,e1,hq⟩⟩:=h1 i s (by omega) hj
   ·exact TR.go hp e1 (ih (i+1) (by omega) s' hj')
   ·exact TR.stop hp e1 hq
 exact key n 0 (by omega) s h0
theorem eV {α:Type} {l:List α} {i:Nat} (h:i<l.length) (d:α):l.take (i+1)=l.take i++ [l.getD i d]:=by
 rw [List.take_add_one,List.getD_eq_getElem?_getD,List.getElem?_eq_getElem h];rfl
theorem cq {α:Type} {l:List α} {i:Nat} (h:i<l.length) (d:α):l.getD i d∈l:=by
 rw [List.getD_eq_getElem?_getD,List.getElem?_eq_getElem h];exact List.getElem_mem h
theorem lO {i n:Nat} (h:i<n) (hn:n<4611686018427387904):aj ((i:Int)+1)=((i+1:Nat):Int):=cnt h hn
def pM (v:Int):Prop:=1<=v/\ v<=256
end Go.Proofs.YtfgdjlhilladhaaGreat
namespace Go.Proofs.YtfgdjlhilladhaaGreat
open Go Go.Ev Go.Proofs
abbrev JI:Type:=Int×(Int×Int×Int)
abbrev zR:JI:=(0,0,0,0)
def YB (w h:Int) (r:JI):Prop:=(1<=r.2.2.1/\ 1<=r.2.2.2)/\ (0<=r.1/\ 0<=r.2.1)/\ r.1+r.2.2.1<=w/\ r.2.1+r.2.2.2<=h
def SV (a b:JI):Prop:=a.1+a.2.2.1<=b.1\/ b.1+b.2.2.1<=a.1\/ a.2.1+a.2.2.2<=b.2.1\/ b.2.1+b.2.2.2<=a.2.1
theorem SV.symm {a b:JI} (h:SV a b):SV b a:=by unfold SV at*;omega
theorem wrap64 {n:Int} (h1:0<=n) (h2:n<18446744073709551616):IntKind.wrap IntKind.u64 n=n:=by
 unfold IntKind.wrap
 simp [IntKind.bits,IntKind.signed]
 omega
theorem uL {a n b:Int} (ha:0<=a) (hn:0<=n) (hb:0<=b) (ha2:a<1000) (hn2:n<1000) (kH:b<1000):behind (a,n,b)=decide (a+n<=b):=by
 unfold behind
 dsimp only
 by_cases h:b>=a
 ·rw [if_pos h,wrap64 hb (by omega),wrap64 ha (by omega),wrap64 hn (by omega),wrap64 (by omega) (by omega),decide_eq_decide]
  omega
 ·rw [if_neg h];symm;exact decide_eq_false (by omega)
theorem LQ {w h:Int} (hw:pM w) (hh:pM h) {a b:JI} (ha:YB w h a) (hb:YB w h b):Sx (a,b)=true↔SV a b:=by
 obtain ⟨⟨a1,a2⟩,⟨a3,a4⟩,a5,a6⟩:=ha
 obtain ⟨⟨b1,b2⟩,⟨b3,b4⟩,b5,b6⟩:=hb
 obtain ⟨_,w2⟩:=hw
 obtain ⟨_,h2⟩:=hh
 have n1: ¬a.2.2.1<=0:=by omega
 have n2: ¬a.2.2.2<=0:=by omega
 have n3: ¬b.2.2.1<=0:=by omega
 have n4: ¬b.2.2.2<=0:=by omega
 have k1:=uL (a:=a.1) (n:=a.2.2.1) (b:=b.1) (by omega) (by omega) (by omega) (by omega) (by omega) (by omega)
 have k2:=uL (a:=b.1) (n:=b.2.2.1) (b:=a.1) (by omega) (by omega) (by omega) (by omega) (by omega) (by omega)
 have k3:=uL (a:=a.2.1) (n:=a.2.2.2) (b:=b.2.1) (by omega) (by omega) (by omega) (by omega) (by omega) (by omega)
 have k4:=uL (a:=b.2.1) (n:=b.2.2.2) (b:=a.2.1) (by omega) (by omega) (by omega) (by omega) (by omega) (by omega)
 unfold Sx Zw aq
 dsimp only
 rw [if_neg n1,if_neg n2,if_neg n3,if_neg n4,k1,k2,k3,k4]
 unfold SV
 simp only [decide_eq_true_eq]
 by_cases c1:a.1+a.2.2.1<=b.1
 ·simp [c1]
 ·by_cases c2:b.1+b.2.2.1≤a.1
  ·simp [c1,c2]
  ·by_cases c3:a.2.1+a.2.2.2≤b.2.1
   ·simp [c1,c2,c3]
   ·simp [c1,c2,c3]
theorem M5 (l:List JI) (hl:l.length<4611686018427387904) (r:JI):sO (l,r)/\ zo (l,r)=l.any fun o=>T6 (o,r):=by
 have h:=kW l hl (fun o=>T6 (o,r)) (jw (l,r)) (sV (l,r)) (fun i hi=>by
   unfold sV
   intro h
   simp only [Int.toNat_natCast]
   dsimp only at h ⊢;omega) (fun i x hx=>by
   have hlt:=bt hx
   unfold jw aq
   rw [if_pos (by dsimp only;omega),Int.toNat_natCast]
   dsimp only
   rw [cY hx]) (by
   unfold jw
   rw [if_neg (by dsimp only;omega)])
 refine ⟨h.1,?_⟩
 have e:WB (l,r)=_:=h.2
 unfold zo aq
 rw [e]
 exact xD l _
def QH (w h:Int) (l:List JI):Prop:= ∀i,i<l.length->YB w h (l.getD i zR)/\ ∀k,k<i->SV (l.getD k zR) (l.getD i zR)
theorem afH {w h:Int} (hw:pM w) (hh:pM h) (l:List JI) (hl:l.length<4611686018427387904):LU (w,h,l)/\ (afG (w,h,l)=true↔QH w h l):=by
 have key:TR (mJ (w,h,l)) (sD (w,h,l)) 0 fun r=>(r= .inl ()/\ ¬QH w h l)\/ (r= .inr ()/\ QH w h l):=by
  refine bg l.length (fun i s=>s=(i:Int)/\ ∀j,j<i->YB w h (l.getD j zR)/\ ∀k,k<j->SV (l.getD k zR) (l.getD j zR)) _ (fun i s hi hj=> ?_) (fun s hj=> ?_) ⟨rfl,fun j hj=>absurd hj (Nat.not_lt_zero _)⟩
  ·obtain ⟨e,hJ⟩:=hj
   subst e
   have Nd:(¬(YB w h (l.getD i zR)/\ ∀k,k<i->SV (l.getD k zR) (l.getD i zR)))-> ¬QH w h l:=fun q q'=>q (q' i hi)
   obtain ⟨c1,c2⟩:=M5 (l.take i) (by rw [List.length_take];omega) (l.getD i zR)
   have m1:=gA (l.getD i zR).2.2.1 (l.getD i zR).2.2.2
   have m2:=gA (l.getD i zR).1 (l.getD i zR).2.1
   have hw':=hw
   have IS:=hh
   obtain ⟨w1,w2⟩:=hw
   obtain ⟨h1,h2⟩:=hh
   refine ⟨?_,?_⟩
   ·unfold sD
    intro _
    dsimp only
    rw [Int.toNat_natCast]
    exact ⟨by omega,hi,hi,fun _ _ _ _ _ _=>⟨by omega,c1⟩⟩
   ·unfold mJ aq
    dsimp only
    rw [if_pos (by omega),Int.toNat_natCast]
    by_cases d1:aG (l.getD i zR).2.2.1 (l.getD i zR).2.2.2<1
    ·rw [if_pos d1]
     exact .inr ⟨_,rfl,.inl ⟨rfl,Nd fun q=>by have:=q.1.1;omega⟩⟩
    rw [if_neg d1]
    by_cases d2:aG (l.getD i zR).1 (l.getD i zR).2.1<0
    ·rw [if_pos d2]
     exact .inr ⟨_,rfl,.inl ⟨rfl,Nd fun q=>by have:=q.1.2.1;omega⟩⟩
    rw [if_neg d2]
    by_cases d3:(l.getD i zR).2.2.1>w
    ·rw [if_pos d3]
     exact .inr ⟨_,rfl,.inl ⟨rfl,Nd fun q=>by have:=q.1.2.2.1;have:=q.1.2.1;omega⟩⟩
    rw [if_neg d3]
    by_cases d4:(l.getD i zR).2.2.2>h
    ·rw [if_pos d4]
     exact .inr ⟨_,rfl,.inl ⟨rfl,Nd fun q=>by have:=q.1.2.2.2;have:=q.1.2.1;omega⟩⟩
    rw [if_neg d4,ay (n:=w- (l.getD i zR).2.2.1) (by omega) (by omega)]
    by_cases d5:(l.getD i zR).1>w- (l.getD i zR).2.2.1
    ·rw [if_pos d5]
     exact .inr ⟨_,rfl,.inl ⟨rfl,Nd fun q=>by have:=q.1.2.2.1;omega⟩⟩
    rw [if_neg d5,ay (n:=h- (l.getD i zR).2.2.2) (by omega) (by omega)]
    by_cases d6:(l.getD i zR).2.1>h- (l.getD i zR).2.2.2
    ·rw [if_pos d6]
     exact .inr ⟨_,rfl,.inl ⟨rfl,Nd fun q=>by have:=q.1.2.2.2;omega⟩⟩
    rw [if_neg d6,c2]
    have hin:YB w h (l.getD i zR):=⟨⟨by omega,by omega⟩,⟨by omega,by omega⟩,by omega,by omega⟩
    have ak9:((l.take i).any fun o=>T6 (o,l.getD i zR))=false↔ ∀k,k<i->SV (l.getD k zR) (l.getD i zR):=by
     rw [List.any_eq_false]
     constructor
     ·intro q k hk
      have hm:l.getD k zR∈l.take i:=by
       have:l.getD k zR=(l.take i).getD k zR:=by rw [List.getD_eq_getElem?_getD,List.getD_eq_getElem?_getD,List.getElem?_take,if_pos hk]
       rw [this];exact cq (by rw [List.length_take];omega) _
      have:=q _ hm
      unfold T6 aq at this
      exact (LQ hw' IS (hJ k hk).1 hin).1 (by simpa using this)
     ·intro q o ho
      obtain ⟨k,hk,rfl⟩:=List.getElem_of_mem ho
      rw [List.length_take] at hk
      have e:(l.take i)[k]=l.getD k zR:=by
       rw [List.getElem_take,List.getD_eq_getElem?_getD,List.getElem?_eq_getElem (by omega)];rfl
      rw [e]
      unfold T6 aq
      rw [(LQ hw' IS (hJ k (by omega)).1 hin).2 (q k (by omega))];simp
    cases hc:(l.take i).any fun o=>T6 (o,l.getD i zR) with
    |true=>
     rw [if_pos rfl]
     refine .inr ⟨_,rfl,.inl ⟨rfl,Nd fun q=> ?_⟩⟩
     rw [ak9.2 q.2] at hc;cases hc
    |false=>
     rw [if_neg (by decide)]
     refine .inl ⟨_,rfl,lO hi hl,fun j hj=> ?_⟩
     rcases Nat.lt_or_ge j i with hji|hji
     ·exact hJ j hji
     ·have:j=i:=by omega
      subst this
      exact ⟨hin,ak9.1 hc⟩
  ·obtain ⟨e,hJ⟩:=hj
   subst e
   refine ⟨?_,.inr (),?_,.inr ⟨rfl,hJ⟩⟩
   ·unfold sD
    intro q
    dsimp only at q;omega
   ·unfold mJ
    rw [if_neg (by dsimp only;omega)]
 refine ⟨key.1,?_⟩
 unfold afG aq
 rcases key.2 with ⟨e,hn⟩|⟨e,hy⟩
 ·rw [e];exact ⟨fun q=>(by cases q),fun q=>absurd q hn⟩
 ·rw [e];exact ⟨fun _=>hy,fun _=>rfl⟩
end Go.Proofs.YtfgdjlhilladhaaGreat
namespace Go.Proofs.YtfgdjlhilladhaaGreat
open Go Go.Ev Go.Proofs
def V:List Int->Int
 | []=>0
 |d::r=>d+10*V r
def Su:List Int->Int
 | []=>0
 |d::r=>d+Su r
abbrev Nn (l:List Int):Prop:= ∀d∈l,0<=d
abbrev rh (l:List Int):Prop:= ∀d∈l,0<=d/\ d<=9
theorem rh.nn {l:List Int} (h:rh l):Nn l:=fun d hd=>(h d hd).1
theorem DA (n:Nat):(0:Int)<10^n:=Int.pow_pos (by decide)
theorem l9 (n:Nat):(10:Int)^(n+1)=10*10^n:=by rw [Int.pow_succ,Int.mul_comm]
theorem SY (a b:List Int):V (a++b)=V a+10^a.length*V b:=by
 induction a with
 |nil=>simp [V]
 |cons d r ih=>simp only [List.cons_append,V,ih,List.length_cons,l9];grind
theorem VU (l:List Int) (k:Nat):V (l.drop k)=l.getD k 0+10*V (l.drop (k+1)):=by
 rcases Nat.lt_or_ge k l.length with h|h
 ·rw [List.drop_eq_getElem_cons h,List.getD_eq_getElem?_getD,List.getElem?_eq_getElem h];rfl
 ·rw [List.drop_eq_nil_of_le h,List.drop_eq_nil_of_le (by omega),List.getD_eq_getElem?_getD,List.getElem?_eq_none h];rfl
theorem Cz (l:List Int) (k:Nat):V l=V (l.take k)+10^k*V (l.drop k):=by
 rcases Nat.lt_or_ge k l.length with h|h
 ·have:=SY (l.take k) (l.drop k)
  rw [List.take_append_drop,List.length_take,Nat.min_eq_left (by omega)] at this
  exact this
 ·rw [List.take_of_length_le h,List.drop_eq_nil_of_le h];simp [V]
theorem BG (l:List Int) (k:Nat):V (l.take (k+1))=V (l.take k)+10^k*l.getD k 0:=by
 rcases Nat.lt_or_ge k l.length with h|h
 ·rw [List.take_add_one,List.getElem?_eq_getElem h,Option.toList_some,SY,List.length_take,Nat.min_eq_left (by omega),List.getD_eq_getElem?_getD,List.getElem?_eq_getElem h]
  simp [V]
 ·rw [List.take_of_length_le (by omega),List.take_of_length_le h,List.getD_eq_getElem?_getD,List.getElem?_eq_none h];simp
theorem M3 {l:List Int} (h:Nn l):0<=V l:=by
 induction l with
 |nil=>exact Int.le_refl _
 |cons d r ih=>
  have h1:=h d (by simp)
  have h2:=ih fun x hx=>h x (by simp [hx])
  simp only [V];omega
theorem agC {l:List Int} (h:rh l):V l<10^l.length:=by
 induction l with
 |nil=>decide
 |cons d r ih=>
  have h1:=h d (by simp)
  have h2:=ih fun x hx=>h x (by simp [hx])
  simp only [V,List.length_cons,l9];omega
theorem aiW {l:List Int} (h:Nn l) (hv:V l=0): ∀d∈l,d=0:=by
 induction l with
 |nil=>intro d hd;cases hd
 |cons d r ih=>
  have h1:=h d (by simp)
  have h2:=M3 (l:=r) fun x hx=>h x (by simp [hx])
  simp only [V] at hv
  intro x hx
  rcases List.mem_cons.1 hx with rfl|hx
  ·omega
  ·exact ih (fun x hx=>h x (by simp [hx])) (by omega) x hx
theorem YE {l:List Int} (h: ∀d∈l,d=0):V l=0:=by
 induction l with
 |nil=>rfl
 |cons d r ih=>
  have h1:=h d (by simp)
  have h2:=ih fun x hx=>h x (by simp [hx])
  simp only [V];omega
theorem u5 {l:List Int} (h:Nn l) (i:Nat):0<=l.getD i 0:=by
 rw [List.getD_eq_getElem?_getD]
 cases e:l[i]? with
 |none=>exact Int.le_refl _
 |some x=>exact h x (List.mem_of_getElem? e)
theorem uZ {l:List Int} (h:rh l) (i:Nat):0<=l.getD i 0/\ l.getD i 0<=9:=by
 rw [List.getD_eq_getElem?_getD]
 cases e:l[i]? with
 |none=>exact ⟨by decide,by decide⟩
 |some x=>exact h x (List.mem_of_getElem? e)
theorem Ki {l:List Int} {i:Nat} (h:l.length<=i):l.getD i 0=0:=by
 rw [List.getD_eq_getElem?_getD,List.getElem?_eq_none h];rfl
theorem aid {l:List Int} (h:rh l) (k:Nat):rh (l.take k):=fun d hd=>h d (List.mem_of_mem_take hd)
theorem agT {l:List Int} (h:rh l) (k:Nat):rh (l.drop k):=fun d hd=>h d (List.mem_of_mem_drop hd)
theorem FK {l:List Int} (h:rh l) (k:Nat):0<=V (l.take k)/\ V (l.take k)<10^k:=by
 refine ⟨M3 (aid h k).nn,?_⟩
 induction k with
 |zero=>simp [V]
 |succ k ih=>
  rw [BG,l9]
  have:=Int.mul_le_mul_of_nonneg_left (uZ h k).2 (show (0:Int)<=10^k from Int.le_of_lt (DA k))
  omega
theorem zb (b:Bool) (d:List Int) (hd:Nn d) (hl:d.length<1000000):b8 (b,d)/\ ∃d',gh (b,d)=(b&&decide (0<V d),d')/\ V d'=V d/\ (∀x∈d',x∈d)/\ d'.length<=d.length:=by
 obtain ⟨h1,n,hr,hn,hz,hw⟩:=cV (step:=cP (b,d)) (pre:=ja (b,d)) (fun s=> ∃n:Nat,s=n/\ n<=d.length/\ ∀x∈d.drop n,x=0) (fun s=>s.toNat)
  (fun r=> ∃n:Nat,r=n/\ n<=d.length/\ (∀x∈d.drop n,x=0)/\ (n=0\/ d.getD (n- 1) 0≠0)) (fun s ⟨n,e,hn,hz⟩=>by
   subst e
   match n with
   |0=>
    refine ⟨fun h=>absurd h (by decide),fun s' h=> ?_,fun r h=> ?_⟩<;>unfold cP at h<;>rw [if_neg (by decide)] at h
    ·cases h
    ·cases h;exact ⟨0,rfl,by omega,hz,.inl rfl⟩
   |n+1=>
    have e:aj (((n+1:Nat):Int)- 1)=n:=by rw [ay (by omega) (by omega)];omega
    unfold cP ja
    dsimp only
    rw [e,Int.toNat_natCast,if_pos (by omega)]
    refine ⟨fun _=>by omega,fun s' h=> ?_,fun r h=> ?_⟩
    ·split at h
     ·rename_i h0
      cases h
      refine ⟨⟨n,rfl,by omega,fun x hx=> ?_⟩,by simp⟩
      rw [List.drop_eq_getElem_cons (by omega)] at hx
      rcases List.mem_cons.1 hx with rfl|hx
      ·rw [List.getD_eq_getElem?_getD,List.getElem?_eq_getElem (by omega)] at h0
       simpa using h0
      ·exact hz x hx
     ·cases h
    ·split at h
     ·cases h
     ·rename_i h0
      cases h
      exact ⟨n+1,rfl,hn,hz,.inr (by simpa using h0)⟩) (d.length:Int) ⟨d.length,rfl,Nat.le_refl _,by simp⟩
 have hv:V (d.take n)=V d:=by rw [Cz d n,YE hz];omega
 have hpos:(0<n)↔0<V d:=by
  have h0:=M3 hd
  constructor
  ·intro h
   rcases hw with hw|hw
   ·omega
   ·rcases Int.lt_or_eq_of_le h0 with h2|h2
    ·exact h2
    ·exact absurd (aiW hd h2.symm _ (by
      rw [List.getD_eq_getElem?_getD,List.getElem?_eq_getElem (by omega)];exact List.getElem_mem _)) hw
  ·intro h
   rcases Nat.eq_zero_or_pos n with h2|h2
   ·subst h2
    simp [V] at hv;omega
   ·exact h2
 refine ⟨⟨h1,?_⟩,d.take n,?_,hv,fun x hx=>List.mem_of_mem_take hx,by simp;omega⟩
 ·unfold az
  dsimp only
  rw [hr]
  exact ⟨fun _=>⟨by omega,by omega⟩,fun _=>⟨by omega,by omega⟩⟩
 ·unfold gh
  dsimp only [aq]
  rw [hr,Int.toNat_natCast]
  cases b
  ·rfl
  ·rw [if_pos rfl]
   congr 1
   rw [Bool.true_and,Bool.eq_iff_iff,decide_eq_true_iff,decide_eq_true_iff,<- hpos];omega
theorem fC (a:Bool×List Int) (i:Nat):dM (a,(i:Int))/\ fj (a,(i:Int))=a.2.getD i 0:=by
 unfold fj dM
 dsimp only
 rw [Int.toNat_natCast]
 refine ⟨fun h=>by omega,?_⟩
 split
 ·rfl
 ·rw [Ki (by omega)]
theorem anX (m:Int):(0<=m->m.tdiv 10=m / 10/\ m.tmod 10=m % 10)/\ (m<0->m.tdiv 10= -((-m) / 10)/\ m.tmod 10= -((-m) % 10)):=by
 refine ⟨fun h=>⟨Int.tdiv_eq_ediv_of_nonneg h,Int.tmod_eq_emod_of_nonneg h⟩,fun h=> ?_⟩
 have e1:=Int.tdiv_eq_ediv_of_nonneg (a:= -m) (b:=10) (by omega)
 have e2:=Int.tmod_eq_emod_of_nonneg (a:= -m) (b:=10) (by omega)
 rw [Int.neg_tdiv] at e1
 rw [Int.neg_tmod] at e2
 omega
theorem OP (n:Int) (h1: -9223372036854775808<=n) (h2:n<=9223372036854775807):cM n/\ ∃d,cL n=(decide (n<0),d)/\ V d=n.natAbs/\ rh d/\ d.length<=19:=by
 obtain ⟨g1,gl,gd,gv⟩:=cV (step:=cu n) (pre:=gW n) (fun s=>s.1.natAbs<10^(19- s.2.length)/\ s.2.length<=19/\ rh s.2/\ V s.2+10^s.2.length*(s.1.natAbs:Int)=n.natAbs/\ -9223372036854775808<=s.1/\ s.1<=9223372036854775807) (fun s=>s.1.natAbs)
  (fun r=>r.length<=19/\ rh r/\ V r=n.natAbs) (fun s hs=>by
   obtain ⟨m,ds⟩:=s
   obtain ⟨j1,j2,j3,j4,j5,j6⟩:=hs
   dsimp only at j1 j2 j3 j4 j5 j6
   unfold cu gW
   dsimp only
   by_cases h0:m=0
   ·subst h0
    refine ⟨fun h=>by simp at h,fun s' h=> ?_,fun r h=> ?_⟩<;>rw [if_neg (by decide)] at h
    ·cases h
    ·cases h;exact ⟨j2,j3,by simpa using j4⟩
   ·have hlen:ds.length<19:=by
     rcases Nat.lt_or_ge ds.length 19 with h|h
     ·exact h
     ·have:19- ds.length=0:=by omega
      rw [this] at j1;omega
    refine ⟨fun _=>⟨fun _=>by omega,fun _=>by omega⟩,?_⟩
    rw [if_pos (by simpa using h0)]
    have key: ∀(q r:Int),q.natAbs=m.natAbs / 10-> -9223372036854775808<=q->q<=9223372036854775807->r=(m.natAbs % 10:Nat)->(q.natAbs<10^(19- (ds++ [r]).length)/\ (ds++ [r]).length<=19/\ rh (ds++ [r])/\ V (ds++ [r])+10^(ds++ [r]).length*(q.natAbs:Int)=n.natAbs/\ -9223372036854775808<=q/\ q<=9223372036854775807)/\ q.natAbs<m.natAbs:=by
     intro q r hq q1 q2 hr
     have e:19- ds.length=(19- (ds++ [r]).length)+1:=by simp;omega
     rw [e,Nat.pow_succ] at j1
     refine ⟨⟨by rw [hq];omega,by simp;omega,fun d hd=> ?_,?_,q1,q2⟩,by omega⟩
     ·rcases List.mem_append.1 hd with hd|hd
      ·exact j3 d hd
      ·rw [List.mem_singleton] at hd;subst hd;omega
     ·rw [SY,List.length_append,List.length_singleton,l9,hq,←j4]
      simp only [V]
      have:(m.natAbs:Int)=10*((m.natAbs / 10:Nat):Int)+((m.natAbs % 10:Nat):Int):=by omega
      rw [hr,this]
      generalize (10:Int)^ds.length=t
      generalize ((m.natAbs / 10:Nat):Int)=u
      generalize ((m.natAbs % 10:Nat):Int)=v
      grind
    obtain ⟨t1,t2⟩:=anX m
    rcases Int.lt_or_le m 0 with hm|hm
    ·obtain ⟨e1,e2⟩:=t2 hm
     rw [e1,e2,ay (n:= -(-m / 10)) (by omega) (by omega)]
     refine ⟨fun s' h=> ?_,fun r h=> ?_⟩
     ·split at h
      ·cases h
       rw [ay (by omega) (by omega)]
       exact key _ _ (by omega) (by omega) (by omega) (by omega)
      ·cases h
       exact key _ _ (by omega) (by omega) (by omega) (by omega)
     ·split at h<;>cases h
    ·obtain ⟨e1,e2⟩:=t1 hm
     rw [e1,e2,ay (n:=m / 10) (by omega) (by omega)]
     refine ⟨fun s' h=> ?_,fun r h=> ?_⟩
     ·split at h
      ·omega
      ·cases h
       exact key _ _ (by omega) (by omega) (by omega) (by omega)
     ·split at h<;>cases h) (n,[]) ⟨by dsimp only [List.length_nil,Nat.sub_zero];omega,by simp,(fun d hd=>by cases hd),by simp [V],h1,h2⟩
 obtain ⟨t1,d,t2,t3,t4,t5⟩:=zb (decide (n<0)) (run (cu n) (n,[])) gd.nn (by omega)
 refine ⟨⟨g1,t1⟩,d,?_,by rw [t3,gv],fun x hx=>gd x (t4 x hx),by omega⟩
 unfold cL
 dsimp only [aq]
 rw [t2,gv]
 congr 1
 rw [Bool.eq_iff_iff,Bool.and_eq_true,decide_eq_true_iff,decide_eq_true_iff];omega
end Go.Proofs.YtfgdjlhilladhaaGreat
