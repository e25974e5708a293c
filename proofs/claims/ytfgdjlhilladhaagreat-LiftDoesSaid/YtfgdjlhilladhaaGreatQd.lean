/- Plain laws: triangles that do not overlap, boxes, turned triangles. -/
import Derived.Test.YtfgdjlhilladhaaGreatQa
import Derived.Test.YtfgdjlhilladhaaGreatFf
noncomputable section
set_option linter.unusedSectionVars false
set_option linter.unusedVariables false
set_option linter.unusedSimpArgs false
namespace Go.Proofs.YtfgdjlhilladhaaGreat
open Go Go.Ev Go.Proofs
abbrev P2:Type:=Int×Int
abbrev T2:Type:=P2×(P2×P2)
abbrev z2:P2:=(0,0)
abbrev zT:T2:=(z2,z2,z2)
theorem zW {p:Prop} [Decidable p] (h:(!decide p)=true): ¬p:=by simpa using h
theorem Az {p:Prop} [Decidable p] (h: ¬(!decide p)=true):p:=by simpa using h
theorem KQ (x:P2×(P2×P2×Int)):lA x:=(bF _ _ _).1
theorem CC (x:T2×(Int×List P2)) (hl:x.2.2.length<4611686018427387904) (a:Int):
  Term (cj x) (tU x) (a,true,0)/\ Term (ck x) (tV x) (a,true,0)/\ Term (cJ x) (tW x) (a,true,0):=by
 have main: ∀(step:Int×(Bool×Int)->(Int×Bool×Int)⊕(Int×Bool)) (pre:Int×(Bool×Int)->Prop),
   (∀a b (i:Nat),i<=x.2.2.length->pre (a,b,(i:Int)))->(∀a b (i:Nat) s',step (a,b,(i:Int))= .inl s'->i<x.2.2.length/\ ∃a' b',s'=(a',b',aj ((i:Int)+1)))->Term step pre (a,true,0):=fun step pre h1 h2=>by
  refine Term.of (fun s=> ∃i:Nat,s.2.2=(i:Int)/\ i<=x.2.2.length) (fun s=>x.2.2.length- s.2.2.toNat) (fun s hs=> ?_) _ ⟨0,rfl,Nat.zero_le _⟩
  obtain ⟨a,b,c⟩:=s
  obtain ⟨i,e,hi⟩:=hs
  dsimp only at e;subst e
  refine ⟨h1 a b i hi,fun s' h=> ?_⟩
  obtain ⟨hlt,a',b',rfl⟩:=h2 a b i s' h
  rw [cnt hlt hl]
  exact ⟨⟨i+1,rfl,hlt⟩,by simp only [Int.toNat_natCast];omega⟩
 refine ⟨main _ _ (fun a b i hi h=> ?_) (fun a b i s' h=> ?_),main _ _ (fun a b i hi h=> ?_) (fun a b i s' h=> ?_),main _ _ (fun a b i hi h=> ?_) (fun a b i s' h=> ?_)⟩
 ·dsimp only at h ⊢
  simp only [Int.toNat_natCast]
  exact ⟨by omega,by omega,by omega,fun _=>KQ _⟩
 ·unfold cj at h
  dsimp only [aq] at h
  split at h
  ·split at h<;>cases h<;>exact ⟨by omega,_,_,rfl⟩
  ·cases h
 ·dsimp only at h ⊢
  simp only [Int.toNat_natCast]
  exact ⟨by omega,by omega,by omega,fun _=>KQ _⟩
 ·unfold ck at h
  dsimp only [aq] at h
  split at h
  ·split at h<;>cases h<;>exact ⟨by omega,_,_,rfl⟩
  ·cases h
 ·dsimp only at h ⊢
  simp only [Int.toNat_natCast]
  exact ⟨by omega,by omega,by omega,fun _=>KQ _⟩
 ·unfold cJ at h
  dsimp only [aq] at h
  split at h
  ·split at h<;>cases h<;>exact ⟨by omega,_,_,rfl⟩
  ·cases h
theorem F9 (x:T2×(Int×List P2)) (hl:x.2.2.length<4611686018427387904):qG x:=
 ⟨(bF _ _ _).1,(CC x hl _).1,fun _=>⟨(CC x hl _).2.1,fun _=>(CC x hl _).2.2⟩⟩
theorem T1 (x:T2×T2):vk x:=
 ⟨(bF _ _ _).1,fun _=>⟨(bF _ _ _).1,fun _=>⟨F9 _ (by simp),fun _=>F9 _ (by simp)⟩⟩⟩
def Cy (t u:T2):Bool:= !(gQ (t,u)).1&&(gQ (t,u)).2==0
theorem CZ (t u:T2):Cy t u=true↔(gQ (t,u)).1=false/\ (gQ (t,u)).2=0:=by
 unfold Cy;simp
def Yz (l:List T2) (i:Nat) (t:T2) (r:Unit⊕Int):Prop:=(r= .inl ()/\ ∃k,k<i/\ Cy t (l.getD k zT)=false)\/ (r= .inr (i:Int)/\ ∀k,k<i->Cy t (l.getD k zT)=true)
theorem JK (l:List T2) (hl:l.length<4611686018427387904) (i:Nat) (hi:i<l.length) (t:T2):
  Term (gK l) (nI l) (t.1.1,t.1.2,t.2.1.1,t.2.1.2,t.2.2.1,t.2.2.2,(i:Int),i,(((min i (l.length- 0):Nat):Int)),(0:Int))/\
  Yz l i t
   (run (gK l) (t.1.1,t.1.2,t.2.1.1,t.2.1.2,t.2.2.1,t.2.2.2,(i:Int),i,(((min i (l.length- 0):Nat):Int)),(0:Int))):=by
 have e:min i (l.length- 0)=i:=by omega
 rw [e]
 refine cV (step:=gK l) (pre:=nI l) (fun s=> ∃k:Nat,s=(t.1.1,t.1.2,t.2.1.1,t.2.1.2,t.2.2.1,t.2.2.2,(i:Int),i,(i:Int),(k:Int))/\ k<=i/\ ∀j,j<k->Cy t (l.getD j zT)=true)
  (fun s=>i- s.2.2.2.2.2.2.2.2.2.toNat) (Yz l i t) (fun s hs=> ?_) _ ⟨0,rfl,Nat.zero_le _,fun j h=>absurd h (Nat.not_lt_zero _)⟩
 obtain ⟨k,rfl,hk,hf⟩:=hs
 unfold gK nI
 dsimp only [aq]
 simp only [Int.toNat_natCast,Nat.zero_add]
 refine ⟨fun h=>⟨⟨by omega,by omega⟩,by omega,by omega,T1 _⟩,fun s' h=> ?_,fun r h=> ?_⟩
 ·split at h
  ·rename_i hlt
   split at h
   ·cases h
   ·rename_i h1
    split at h
    ·cases h
    ·rename_i h2
     cases h
     refine ⟨⟨k+1,by rw [cnt (n:=l.length) (by omega) hl],by omega,fun j hj=> ?_⟩,?_⟩
     ·rcases Nat.lt_or_ge j k with hjk|hjk
      ·exact hf j hjk
      ·have:j=k:=by omega
       subst this
       rw [CZ]
       exact ⟨by simpa using h1,by simpa using h2⟩
     ·rw [cnt (n:=l.length) (by omega) hl]
      simp only [Int.toNat_natCast];omega
  ·cases h
 ·split at h
  ·rename_i hlt
   split at h
   ·rename_i h1
    cases h
    refine .inl ⟨rfl,k,by omega,?_⟩
    unfold Cy
    rw [h1];rfl
   ·split at h
    ·rename_i h2
     cases h
     refine .inl ⟨rfl,k,by omega,?_⟩
     rw [Bool.eq_false_iff]
     intro q
     rw [CZ] at q
     rw [q.2] at h2
     exact absurd h2 (by decide)
    ·cases h
  ·rename_i hlt
   cases h
   have:k=i:=by omega
   subst this
   exact .inr ⟨rfl,hf⟩
theorem J3 (l:List T2) (hl:l.length<4611686018427387904):BT l/\ (J2 l=true↔ ∀i k,i<l.length->k<i->Cy (l.getD i zT) (l.getD k zT)=true):=by
 obtain ⟨h1,h2⟩:=cV (step:=lS l) (pre:=sR l) (fun s=> ∃i:Nat,s=i/\ i<=l.length/\ ∀j k,j<i->k<j->Cy (l.getD j zT) (l.getD k zT)=true) (fun s=>l.length- s.toNat)
  (fun r=>Sum.elim (fun _=>false) (fun _=>true) r=true↔ ∀i k,i<l.length->k<i->Cy (l.getD i zT) (l.getD k zT)=true) (fun s ⟨i,e,hi,hf⟩=>by
   subst e
   unfold lS sR
   dsimp only [aq]
   simp only [Int.toNat_natCast]
   refine ⟨fun h=>⟨⟨by omega,by omega⟩,by omega,by omega,⟨by omega,by omega⟩,(JK l hl i (by omega) _).1⟩,fun s' h=> ?_,fun r h=> ?_⟩
   ·split at h
    ·rename_i hlt
     rcases (JK l hl i (by omega) (l.getD i zT)).2 with ⟨g1,g2⟩|⟨g1,g2⟩
     ·rw [g1] at h;cases h
     ·rw [g1] at h
      cases h
      refine ⟨⟨i+1,by rw [cnt (n:=l.length) (by omega) hl],by omega,fun j k hj hk=> ?_⟩,?_⟩
      ·rcases Nat.lt_or_ge j i with hji|hji
       ·exact hf j k hji hk
       ·have:j=i:=by omega
        subst this;exact g2 k hk
      ·rw [cnt (n:=l.length) (by omega) hl]
       simp only [Int.toNat_natCast];omega
    ·cases h
   ·split at h
    ·rename_i hlt
     rcases (JK l hl i (by omega) (l.getD i zT)).2 with ⟨g1,g2⟩|⟨g1,g2⟩
     ·rw [g1] at h
      cases h
      obtain ⟨k,hk,hF⟩:=g2
      refine ⟨fun q=>(by cases q),fun q=> ?_⟩
      rw [q i k (by omega) hk] at hF;cases hF
     ·rw [g1] at h;cases h
    ·cases h
     have:i=l.length:=by omega
     subst this
     exact ⟨fun _=>hf,fun _=>rfl⟩) 0 ⟨0,rfl,Nat.zero_le _,fun j k h=>absurd h (Nat.not_lt_zero _)⟩
 exact ⟨h1,h2⟩
def tp (t:T2):List P2:= [t.1,t.2.1,t.2.2]
def pts (l:List T2):List P2:=l.flatMap tp
structure NV (l:List P2) (lo hi:P2):Prop where
 low: ∀p∈l,lo.1<=p.1/\ lo.2<=p.2
 high: ∀p∈l,p.1<=hi.1/\ p.2<=hi.2
 l1: ∃p∈l,p.1=lo.1
 l2: ∃p∈l,p.2=lo.2
 h1: ∃p∈l,p.1=hi.1
 h2: ∃p∈l,p.2=hi.2
theorem NV.uniq {l:List P2} {lo hi lo' hi':P2} (h:NV l lo hi) (h':NV l lo' hi'):lo=lo'/\ hi=hi':=by
 obtain ⟨p1,m1,e1⟩:=h.l1
 obtain ⟨p2,m2,e2⟩:=h.l2
 obtain ⟨p3,m3,e3⟩:=h.h1
 obtain ⟨p4,m4,e4⟩:=h.h2
 obtain ⟨q1,n1,f1⟩:=h'.l1
 obtain ⟨q2,n2,f2⟩:=h'.l2
 obtain ⟨q3,n3,f3⟩:=h'.h1
 obtain ⟨q4,n4,f4⟩:=h'.h2
 have a1:=(h.low q1 n1).1
 have a2:=(h'.low p1 m1).1
 have a3:=(h.low q2 n2).2
 have a4:=(h'.low p2 m2).2
 have a5:=(h.high q3 n3).1
 have a6:=(h'.high p3 m3).1
 have a7:=(h.high q4 n4).2
 have a8:=(h'.high p4 m4).2
 exact ⟨Prod.ext (by omega) (by omega),Prod.ext (by omega) (by omega)⟩
theorem gA (a b:Int):aG a b<=a/\ aG a b<=b/\ (aG a b=a\/ aG a b=b):=by unfold aG;split<;>omega
theorem fN (a b:Int):a<=aI a b/\ b<=aI a b/\ (aI a b=a\/ aI a b=b):=by unfold aI;split<;>omega
theorem aeP (l:List T2) (i:Nat) (hi:i<l.length):pts (l.take (i+1))=pts (l.take i)++tp (l.getD i zT):=by
 unfold pts
 rw [List.take_succ_eq_append_getElem hi,List.flatMap_append,List.getD_eq_getElem?_getD,List.getElem?_eq_getElem hi]
 simp
theorem pR {l:List T2} {i:Nat} (hi:i<l.length) {p:P2} (hp:p∈tp (l.getD i zT)):p∈pts l:=by
 unfold pts
 rw [List.mem_flatMap]
 refine ⟨_,?_,hp⟩
 rw [List.getD_eq_getElem?_getD,List.getElem?_eq_getElem hi]
 exact List.getElem_mem _
structure acW (l:List T2) (i:Nat) (a b c d:Int):Prop where
 sm: ∀p∈pts (l.take i),Sm p
 low: ∀p∈pts (l.take i),a<=p.1/\ b<=p.2
 high: ∀p∈pts (l.take i),p.1<=c/\ p.2<=d
 l1: ∃p∈pts l,p.1=a
 l2: ∃p∈pts l,p.2=b
 h1: ∃p∈pts l,p.1=c
 h2: ∃p∈pts l,p.2=d
theorem wK {l:List P2} {f:P2->Int} {a b c:Int} (h1: ∃p∈l,f p=a) (h2: ∃p∈l,f p=b) (h:c=a\/ c=b): ∃p∈l,f p=c:=by
 rcases h with rfl|rfl
 ·exact h1
 ·exact h2
theorem acW.step {l:List T2} {i:Nat} {a b c d:Int} (h:acW l i a b c d) (hi:i<l.length) (s1:Sm (l.getD i zT).1) (s2:Sm (l.getD i zT).2.1) (s3:Sm (l.getD i zT).2.2):
  acW l (i+1) (aG (aG (aG a (l.getD i zT).1.1) (l.getD i zT).2.1.1) (l.getD i zT).2.2.1) (aG (aG (aG b (l.getD i zT).1.2) (l.getD i zT).2.1.2) (l.getD i zT).2.2.2)
   (aI (aI (aI c (l.getD i zT).1.1) (l.getD i zT).2.1.1) (l.getD i zT).2.2.1) (aI (aI (aI d (l.getD i zT).1.2) (l.getD i zT).2.1.2) (l.getD i zT).2.2.2):=by
 have hm: ∀p∈tp (l.getD i zT),p∈pts l:=fun p hp=>pR hi hp
 have m1:=hm (l.getD i zT).1 (by simp [tp])
 have m2:=hm (l.getD i zT).2.1 (by simp [tp])
 have m3:=hm (l.getD i zT).2.2 (by simp [tp])
 have hs:=aeP l i hi
 generalize l.getD i zT=t at*
 have a1:=gA a t.1.1
 have a2:=gA (aG a t.1.1) t.2.1.1
 have a3:=gA (aG (aG a t.1.1) t.2.1.1) t.2.2.1
 have b1:=gA b t.1.2
 have b2:=gA (aG b t.1.2) t.2.1.2
 have b3:=gA (aG (aG b t.1.2) t.2.1.2) t.2.2.2
 have c1:=fN c t.1.1
 have c2:=fN (aI c t.1.1) t.2.1.1
 have c3:=fN (aI (aI c t.1.1) t.2.1.1) t.2.2.1
 have d1:=fN d t.1.2
 have d2:=fN (aI d t.1.2) t.2.1.2
 have d3:=fN (aI (aI d t.1.2) t.2.1.2) t.2.2.2
 refine ⟨fun p hp=> ?_,fun p hp=> ?_,fun p hp=> ?_,?_,?_,?_,?_⟩
 ·rw [hs] at hp
  rcases List.mem_append.1 hp with hp|hp
  ·exact h.sm p hp
  ·simp only [tp,List.mem_cons,List.not_mem_nil,or_false] at hp
   rcases hp with rfl|rfl|rfl<;>assumption
 ·rw [hs] at hp
  rcases List.mem_append.1 hp with hp|hp
  ·have:=h.low p hp;omega
  ·simp only [tp,List.mem_cons,List.not_mem_nil,or_false] at hp
   rcases hp with rfl|rfl|rfl<;>omega
 ·rw [hs] at hp
  rcases List.mem_append.1 hp with hp|hp
  ·have:=h.high p hp;omega
  ·simp only [tp,List.mem_cons,List.not_mem_nil,or_false] at hp
   rcases hp with rfl|rfl|rfl<;>omega
 ·exact wK (f:=(·.1)) (wK (f:=(·.1)) (wK (f:=(·.1)) h.l1 ⟨_,m1,rfl⟩ a1.2.2) ⟨_,m2,rfl⟩ a2.2.2) ⟨_,m3,rfl⟩ a3.2.2
 ·exact wK (f:=(·.2)) (wK (f:=(·.2)) (wK (f:=(·.2)) h.l2 ⟨_,m1,rfl⟩ b1.2.2) ⟨_,m2,rfl⟩ b2.2.2) ⟨_,m3,rfl⟩ b3.2.2
 ·exact wK (f:=(·.1)) (wK (f:=(·.1)) (wK (f:=(·.1)) h.h1 ⟨_,m1,rfl⟩ c1.2.2) ⟨_,m2,rfl⟩ c2.2.2) ⟨_,m3,rfl⟩ c3.2.2
 ·exact wK (f:=(·.2)) (wK (f:=(·.2)) (wK (f:=(·.2)) h.h2 ⟨_,m1,rfl⟩ d1.2.2) ⟨_,m2,rfl⟩ d2.2.2) ⟨_,m3,rfl⟩ d3.2.2
def acT (l:List T2) (r:(Int×Int×Int×Int)⊕(Int×Int×Int×Int)):Prop:=(∃a,r= .inl a/\ ∃p∈pts l,¬Sm p)\/ (∃a b c d,r= .inr (a,b,c,d)/\ (∀p∈pts l,Sm p)/\ NV (pts l) (a,b) (c,d))
theorem aav (l:List T2) (hl:l.length<4611686018427387904) (h0:l≠ []):
  Term (bO l ()) (dA l ()) ((l.getD 0 zT).1.1,(l.getD 0 zT).1.2,(l.getD 0 zT).1.1,(l.getD 0 zT).1.2,(0:Int))/\
  acT l
   (run (bO l ()) ((l.getD 0 zT).1.1,(l.getD 0 zT).1.2,(l.getD 0 zT).1.1,(l.getD 0 zT).1.2,(0:Int))):=by
 have hlen:0<l.length:=List.length_pos_iff.2 h0
 have hm0:(l.getD 0 zT).1∈pts l:=pR hlen (by simp [tp])
 refine cV (step:=bO l ()) (pre:=dA l ()) (fun s=> ∃(a b c d:Int) (i:Nat),s=(a,b,c,d,(i:Int))/\ i<=l.length/\ acW l i a b c d)
  (fun s=>l.length- s.2.2.2.2.toNat) (acT l) (fun s hs=> ?_) _ ⟨_,_,_,_,0,rfl,Nat.zero_le _,⟨fun p hp=>(by simp [pts] at hp),fun p hp=>(by simp [pts] at hp),fun p hp=>(by simp [pts] at hp),⟨_,hm0,rfl⟩,⟨_,hm0,rfl⟩,⟨_,hm0,rfl⟩,⟨_,hm0,rfl⟩⟩⟩
 obtain ⟨a,b,c,d,i,rfl,hi,hB⟩:=hs
 unfold bO dA
 dsimp only [aq,az]
 simp only [Int.toNat_natCast,qY]
 refine ⟨fun h=>⟨⟨by omega,by omega⟩,by omega,by omega,(gp _ (by simp)).1,fun _=>⟨(gp _ (by simp)).1,fun _=>(gp _ (by simp)).1⟩⟩,fun s' h=> ?_,fun r h=> ?_⟩
 ·split at h
  ·rename_i hlt
   have hlt:i<l.length:=by omega
   split at h
   ·cases h
   ·rename_i s1
    split at h
    ·cases h
    ·rename_i s2
     split at h
     ·cases h
     ·rename_i s3
      cases h
      rw [cnt hlt hl]
      exact ⟨⟨_,_,_,_,i+1,rfl,hlt,hB.step hlt (Az s1) (Az s2) (Az s3)⟩,by simp only [Int.toNat_natCast];omega⟩
  ·cases h
 ·split at h
  ·rename_i hlt
   have hlt:i<l.length:=by omega
   split at h
   ·rename_i s1
    cases h
    exact .inl ⟨_,rfl,_,pR hlt (p:=(l.getD i zT).1) (by simp [tp]),zW s1⟩
   ·split at h
    ·rename_i s2
     cases h
     exact .inl ⟨_,rfl,_,pR hlt (p:=(l.getD i zT).2.1) (by simp [tp]),zW s2⟩
    ·split at h
     ·rename_i s3
      cases h
      exact .inl ⟨_,rfl,_,pR hlt (p:=(l.getD i zT).2.2) (by simp [tp]),zW s3⟩
     ·cases h
  ·rename_i hlt
   cases h
   have:i=l.length:=by omega
   subst this
   have e:l.take l.length=l:=List.take_length
   refine .inr ⟨a,b,c,d,rfl,fun p hp=>hB.sm p (by rw [e];exact hp),?_⟩
   exact ⟨fun p hp=>hB.low p (by rw [e];exact hp),fun p hp=>hB.high p (by rw [e];exact hp),hB.l1,hB.l2,hB.h1,hB.h2⟩
theorem xy (l:List T2) (hl:l.length<4611686018427387904):qz l/\
  ((l= []/\ jn l=(z2,z2,1))\/ ((∃p∈pts l,¬Sm p)/\ jn l=(z2,z2,5))\/ (l≠ []/\ (∀p∈pts l,Sm p)/\ ∃lo hi,NV (pts l) lo hi/\ jn l=(lo,hi,0))):=by
 unfold qz jn
 cases l with
 |nil=>exact ⟨fun h=>absurd rfl h,.inl ⟨rfl,rfl⟩⟩
 |cons x r=>
  have hlen:0<(x::r).length:=by simp
  have hne: ¬((((x::r).length:Int)==(0:Int))=true):=by simp only [beq_iff_eq];omega
  obtain ⟨h1,h2⟩:=aav (x::r) hl (by simp)
  refine ⟨fun _=>⟨by omega,hlen,hlen,hlen,by omega,hlen,hlen,hlen,h1⟩,.inr ?_⟩
  rw [if_neg hne]
  dsimp only [aq]
  rcases h2 with ⟨a,e,hp⟩|⟨a,b,c,d,e,hs,hB⟩
  ·rw [e];exact .inl ⟨hp,rfl⟩
  ·rw [e];exact .inr ⟨by simp,hs,(a,b),(c,d),hB,rfl⟩
end Go.Proofs.YtfgdjlhilladhaaGreat
