/- Plain laws: the references of layers 4, 9 and 10 say what the program says. -/
import Derived.Test.YtfgdjlhilladhaaGreatHv
import Derived.Test.YtfgdjlhilladhaaGreatQm
import Derived.Test.YtfgdjlhilladhaaGreatLb
import Derived.Test.YtfgdjlhilladhaaGreatHc
noncomputable section
set_option linter.unusedSectionVars false
set_option linter.unusedVariables false
set_option linter.unusedSimpArgs false
namespace Go.Proofs.YtfgdjlhilladhaaGreat
open Go Go.Ev Go.Proofs
theorem abZ (p:P3):Zn p=decide (II p):=by
 unfold Zn
 dsimp only [aq]
 rw [qT,qT,qT,Bool.eq_iff_iff]
 simp
theorem Lw (x:List P2) (hl:x.length<4611686018427387904):Ce x/\ Sf x=decide (∀p∈x,FG p):=by
 rw [<- xX (bad:=fun p=> !decide (FG p)) (fun _=>rfl)]
 refine gG x hl _ _ _ (fun i hi=> ?_) (fun i v hv=> ?_) ?_
 ·unfold A5
  intro h
  simp only [Int.toNat_natCast]
  exact ⟨by omega,by omega,by omega⟩
 ·have hlt:=bt hv
  unfold mD
  rw [if_pos (by omega),Int.toNat_natCast,cY hv]
  unfold aq
  rw [uo]
 ·unfold mD
  rw [if_neg (by omega)]
theorem vI (x:List P3) (hl:x.length<4611686018427387904):vJ x/\ Gr x=decide (∀p∈x,II p):=by
 rw [<- xX (bad:=fun p=> !decide (II p)) (fun _=>rfl)]
 refine gG x hl _ _ _ (fun i hi=> ?_) (fun i v hv=> ?_) ?_
 ·unfold A6
  intro h
  simp only [Int.toNat_natCast]
  exact ⟨by omega,by omega,by omega⟩
 ·have hlt:=bt hv
  unfold mE
  rw [if_pos (by omega),Int.toNat_natCast,cY hv]
  unfold aq
  rw [abZ]
 ·unfold mE
  rw [if_neg (by omega)]
end Go.Proofs.YtfgdjlhilladhaaGreat
namespace Go.Proofs.YtfgdjlhilladhaaGreat
open Go Go.Ev Go.Proofs
theorem El (n a b:Int):fS (n,a,b)=decide (a<=n/\ n<=b):=by
 unfold fS;exact zG rfl
theorem acH (i:Int) {n:Nat} (h:n<=2000):fS (i,0,aj ((n:Int)- 1))=jr (i,(n:Int),false):=by
 rw [El,FM,ay (by omega) (by omega),Bool.eq_iff_iff]
 simp only [Bool.false_and,Bool.or_false,decide_eq_true_eq]
 omega
theorem MT (i:Int) {n:Nat} (h:n<=2000):fS (i,-1,aj ((n:Int)- 1))=jr (i,(n:Int),true):=by
 rw [El,FM,ay (by omega) (by omega),Bool.eq_iff_iff]
 simp only [Bool.true_and,Bool.or_eq_true,decide_eq_true_eq,beq_iff_eq]
 omega
theorem afj (m:rq) (h1:m.1.length<=2000) (h2:m.2.1.length<=2000) (h3:m.2.2.1.length<=2000) (h:m.2.2.2.length<=500):Term (jZ m) (yA m) 0/\ Sum.elim (fun _=>false) (fun _=>true) (run (jZ m) 0)=m.2.2.2.all (NU m):=by
 rw [<- YH]
 refine gG m.2.2.2 (by omega) (fun t=> !NU m t) _ _ (fun i hi=> ?_) (fun i t ht=> ?_) ?_
 ·unfold yA
  intro h
  simp only [Int.toNat_natCast]
  omega
 ·have hlt:=bt ht
  unfold jZ
  rw [if_pos (by omega),Int.toNat_natCast,cY ht]
  dsimp only [aq]
  simp only [acH _ h1,MT _ h2,MT _ h3]
  unfold NU
  exact cr (cr (cr (cr (cr (cr (cr (cr (cr (cr (cr (cr (cr (cr rfl)))))))))))))
 ·unfold jZ
  rw [if_neg (by omega)]
theorem UN (m:rq):Ej m/\ ahS m=Dq m:=by
 unfold Ej ahS Dq
 dsimp only [az,aq]
 by_cases hf:Q8 m=true
 ·obtain ⟨h1,h2,h3,h4⟩:=Q9 hf
  rw [hf,if_neg (by omega),if_neg (by omega),if_neg (by omega),if_neg (by omega),(vI m.1 (by omega)).2,(Lw m.2.1 (by omega)).2,(vI m.2.2.1 (by omega)).2,(afj m h1 h2 h3 h4).2]
  refine ⟨fun _ _ _ _=>⟨(vI m.1 (by omega)).1,fun _=>⟨(Lw m.2.1 (by omega)).1,fun _=>⟨(vI m.2.2.1 (by omega)).1,fun _=>(afj m h1 h2 h3 h4).1⟩⟩⟩,?_⟩
  generalize decide (∀p∈m.1,II p)=b1
  generalize decide (∀p∈m.2.1,FG p)=b2
  generalize decide (∀p∈m.2.2.1,II p)=b3
  cases b1<;>cases b2<;>cases b3<;>simp
 ·have hn: ¬(m.1.length≤2000∧m.2.1.length≤2000∧m.2.2.1.length≤2000∧m.2.2.2.length≤500):=fun q=>hf (by unfold Q8;exact decide_eq_true q)
  have hb:Q8 m=false:=by simpa using hf
  rw [hb]
  refine ⟨fun _ _ _ _=>absurd ?_ hn,?_⟩
  ·omega
  ·split
   ·rfl
   ·split
    ·rfl
    ·split
     ·rfl
     ·split
      ·rfl
      ·exact absurd (by omega) hn
theorem s6 (n:Int):lG n=decide (-4096<=n/\ n<=4096):=by
 unfold lG;exact zG rfl
theorem Uk (m:rq) (hl:m.1.length<4611686018427387904):r8 m/\ DH m=uG m:=by
 have hh:=gG m.1 hl (fun p=> !decide (Nr p)) (dV m) (qK m) (fun i hi=>by
   unfold qK
   dsimp only [az]
   intro h
   simp only [Int.toNat_natCast]
   exact ⟨⟨by omega,h⟩,by omega,by omega,by omega,fun _=>⟨⟨by omega,h⟩,by omega,by omega,by omega,fun _=>⟨⟨by omega,h⟩,by omega,by omega,by omega⟩⟩⟩) (fun i p hp=>by
   have hlt:=bt hp
   unfold dV
   rw [if_pos (by omega),Int.toNat_natCast,cY hp]
   dsimp only [aq]
   rw [s6,s6,s6,VG]
   by_cases h:Nr p
   ·rw [if_pos h,decide_eq_true h,if_neg (by decide)]
   ·rw [if_neg h,decide_eq_false h,if_pos (by decide)]) (by
   unfold dV
   rw [if_neg (by omega)])
 rw [xX (P:=Nr) (fun _=>rfl)] at hh
 unfold r8 DH uG
 dsimp only [az,aq]
 rw [(UN m).2]
 obtain ⟨hT,hR⟩:=hh
 cases hr:run (dV m) 0 with
 |inl a=>
  rw [hr] at hR
  exact ⟨⟨hT,trivial⟩,by rw [<- hR];simp⟩
 |inr b=>
  rw [hr] at hR
  exact ⟨⟨hT,(UN m).1⟩,by rw [<- hR];simp⟩
end Go.Proofs.YtfgdjlhilladhaaGreat
namespace Go.Proofs.YtfgdjlhilladhaaGreat
open Go Go.Ev Go.Proofs
theorem WQ {α:Type} {v:α} {f:α->Prop} (h:f v):az v f:=h
theorem ai6 {α β:Type} {x:α⊕β} {b:β} {f:α->Prop} {g:β->Prop} (e:x= .inr b) (h:g b):cS x f g:=by subst e;exact h
theorem KH {α β:Type} (v:α) (f:α->β):aq v f=f v:=rfl
theorem anR {m:rq} (h:m.1.length<=1000000):TR (gZ (m,m)) (n6 (m,m)) 0 (fun r=>r= .inr ()):=by
 refine bg m.1.length (fun i s=>s=(i:Int)) _ (fun i s hi e=> ?_) (fun s e=> ?_) rfl
 ·subst e
  constructor
  ·unfold n6
   intro _
   rw [Int.toNat_natCast]
   exact ⟨⟨by omega,by dsimp only;omega⟩,hi,hi,⟨by omega,by dsimp only;omega⟩,hi,hi⟩
  ·refine .inl ?_
   unfold gZ
   rw [if_pos (by dsimp only;omega),if_neg (by simp),cnt (n:=1000000) (by omega) (by omega)]
   exact ⟨_,rfl,rfl⟩
 ·subst e
  constructor
  ·unfold n6
   dsimp only
   intro h;omega
  ·unfold gZ
   rw [if_neg (by dsimp only;omega)]
   exact ⟨_,rfl,rfl⟩
theorem anS {m:rq} (h:m.2.1.length<=1000000):TR (g9 (m,m)) (n7 (m,m)) 0 (fun r=>r= .inr ()):=by
 refine bg m.2.1.length (fun i s=>s=(i:Int)) _ (fun i s hi e=> ?_) (fun s e=> ?_) rfl
 ·subst e
  constructor
  ·unfold n7
   intro _
   rw [Int.toNat_natCast]
   exact ⟨⟨by omega,by dsimp only;omega⟩,hi,hi,⟨by omega,by dsimp only;omega⟩,hi,hi⟩
  ·refine .inl ?_
   unfold g9
   rw [if_pos (by dsimp only;omega),if_neg (by simp),cnt (n:=1000000) (by omega) (by omega)]
   exact ⟨_,rfl,rfl⟩
 ·subst e
  constructor
  ·unfold n7
   dsimp only
   intro h;omega
  ·unfold g9
   rw [if_neg (by dsimp only;omega)]
   exact ⟨_,rfl,rfl⟩
theorem anT {m:rq} (h:m.2.2.1.length<=1000000):TR (ia (m,m)) (n8 (m,m)) 0 (fun r=>r= .inr ()):=by
 refine bg m.2.2.1.length (fun i s=>s=(i:Int)) _ (fun i s hi e=> ?_) (fun s e=> ?_) rfl
 ·subst e
  constructor
  ·unfold n8
   intro _
   rw [Int.toNat_natCast]
   exact ⟨⟨by omega,by dsimp only;omega⟩,hi,hi,⟨by omega,by dsimp only;omega⟩,hi,hi⟩
  ·refine .inl ?_
   unfold ia
   rw [if_pos (by dsimp only;omega),if_neg (by simp),cnt (n:=1000000) (by omega) (by omega)]
   exact ⟨_,rfl,rfl⟩
 ·subst e
  constructor
  ·unfold n8
   dsimp only
   intro h;omega
  ·unfold ia
   rw [if_neg (by dsimp only;omega)]
   exact ⟨_,rfl,rfl⟩
theorem anQ {m:rq} (h:m.2.2.2.length<=1000000):TR (jI (m.2.2.2,m.2.2.2)) (n5 (m.2.2.2,m.2.2.2)) 0 (fun r=>r= .inr ()):=by
 refine bg m.2.2.2.length (fun i s=>s=(i:Int)) _ (fun i s hi e=> ?_) (fun s e=> ?_) rfl
 ·subst e
  constructor
  ·unfold n5
   intro _
   rw [Int.toNat_natCast]
   exact ⟨⟨by omega,by dsimp only;omega⟩,hi,hi,⟨by omega,by dsimp only;omega⟩,hi,hi⟩
  ·refine .inl ?_
   unfold jI
   rw [if_pos (by dsimp only;omega),if_neg (by simp),cnt (n:=1000000) (by omega) (by omega)]
   exact ⟨_,rfl,rfl⟩
 ·subst e
  constructor
  ·unfold n5
   dsimp only
   intro h;omega
  ·unfold jI
   rw [if_neg (by dsimp only;omega)]
   exact ⟨_,rfl,rfl⟩
theorem XR {m:rq} (h1:m.1.length<=1000000) (h2:m.2.1.length<=1000000) (h3:m.2.2.1.length<=1000000) (h4:m.2.2.2.length<=1000000):vM (m,m)/\ Lz (m,m)=true:=by
 have k0:=anR h1
 have k2:=anS h2
 have k4:=anT h3
 have k7:=anQ h4
 have e7:vL (m.2.2.2,m.2.2.2)/\ Si (m.2.2.2,m.2.2.2)=true:=by
  unfold vL Si
  rw [if_neg (by simp),KH,k7.2]
  exact ⟨fun _=>k7.1,rfl⟩
 constructor
 ·unfold vM
  exact fun _ _ _=>⟨k0.1,WQ (ai6 k0.2 ⟨k2.1,WQ (ai6 k2.2 ⟨k4.1,WQ (ai6 k4.2 e7.1)⟩)⟩)⟩
 ·unfold Lz
  rw [if_neg (by simp),if_neg (by simp),if_neg (by simp),KH,k0.2,Sum.elim_inr,KH,k2.2,Sum.elim_inr,KH,k4.2,Sum.elim_inr,KH]
  exact e7.2
end Go.Proofs.YtfgdjlhilladhaaGreat
namespace Go.Proofs.YtfgdjlhilladhaaGreat
open Go Go.Ev Go.Proofs
theorem Hy (n:Int):Ab n=Ol n:=rfl
def YC (l:List T2) (r:Unit⊕(Int×Int×Int×Int)):Prop:=(r= .inl ()/\ ∃p∈pts l,¬Sm p)\/ (∃a b c d,r= .inr (a,b,c,d)/\ (∀p∈pts l,Sm p)/\ NV (pts l) (a,b) (c,d))
theorem Un (l:List T2) (hl:l.length<4611686018427387904) (h0:l≠ []):
  Term (gS l) (nP l) ((l.getD 0 zT).1.1,(l.getD 0 zT).1.2,(l.getD 0 zT).1.1,(l.getD 0 zT).1.2,(0:Int))/\
  YC l (run (gS l) ((l.getD 0 zT).1.1,(l.getD 0 zT).1.2,(l.getD 0 zT).1.1,(l.getD 0 zT).1.2,(0:Int))):=by
 have hlen:0<l.length:=List.length_pos_iff.2 h0
 have hm0:(l.getD 0 zT).1∈pts l:=pR hlen (by simp [tp])
 refine cV (step:=gS l) (pre:=nP l) (fun s=> ∃(a b c d:Int) (i:Nat),s=(a,b,c,d,(i:Int))/\ i<=l.length/\ acW l i a b c d)
  (fun s=>l.length- s.2.2.2.2.toNat) (YC l) (fun s hs=> ?_) _ ⟨_,_,_,_,0,rfl,Nat.zero_le _,⟨fun p hp=>(by simp [pts] at hp),fun p hp=>(by simp [pts] at hp),fun p hp=>(by simp [pts] at hp),⟨_,hm0,rfl⟩,⟨_,hm0,rfl⟩,⟨_,hm0,rfl⟩,⟨_,hm0,rfl⟩⟩⟩
 obtain ⟨a,b,c,d,i,rfl,hi,hB⟩:=hs
 unfold gS nP
 dsimp only [aq,az]
 simp only [Int.toNat_natCast,dk]
 refine ⟨fun h=>⟨⟨by omega,h⟩,by omega,by omega,by omega,fun _=>⟨⟨by omega,h⟩,by omega,by omega,by omega,fun _=>⟨⟨by omega,h⟩,by omega,by omega,by omega⟩⟩⟩,fun s' h=> ?_,fun r h=> ?_⟩
 ·split at h
  ·rename_i hlt
   have hlt:i<l.length:=by omega
   split at h
   ·cases h
   ·rename_i s1
    split at h
    ·cases h
    ·rename_i s2
     split at h
     ·cases h
     ·rename_i s3
      cases h
      rw [cnt hlt hl]
      exact ⟨⟨_,_,_,_,i+1,rfl,hlt,hB.step hlt (Az s1) (Az s2) (Az s3)⟩,by simp only [Int.toNat_natCast];omega⟩
  ·cases h
 ·split at h
  ·rename_i hlt
   have hlt:i<l.length:=by omega
   split at h
   ·rename_i s1
    cases h
    exact .inl ⟨rfl,_,pR hlt (p:=(l.getD i zT).1) (by simp [tp]),zW s1⟩
   ·split at h
    ·rename_i s2
     cases h
     exact .inl ⟨rfl,_,pR hlt (p:=(l.getD i zT).2.1) (by simp [tp]),zW s2⟩
    ·split at h
     ·rename_i s3
      cases h
      exact .inl ⟨rfl,_,pR hlt (p:=(l.getD i zT).2.2) (by simp [tp]),zW s3⟩
     ·cases h
  ·rename_i hlt
   cases h
   have:i=l.length:=by omega
   subst this
   have e:l.take l.length=l:=List.take_length
   exact .inr ⟨a,b,c,d,rfl,fun p hp=>hB.sm p (by rw [e];exact hp),fun p hp=>hB.low p (by rw [e];exact hp),fun p hp=>hB.high p (by rw [e];exact hp),hB.l1,hB.l2,hB.h1,hB.h2⟩
theorem Xk (l:List T2) (hl:l.length<4611686018427387904):vw l/\ K3 l=jn l:=by
 have hf:=(xy l hl).2
 unfold vw K3
 cases l with
 |nil=>exact ⟨fun h=>absurd rfl h,by rcases hf with ⟨_,e⟩|⟨⟨p,hp,_⟩,_⟩|⟨h,_⟩<;>first|(rw [e];rfl)|(simp [pts] at hp)|exact absurd rfl h⟩
 |cons x r=>
  have hlen:0<(x::r).length:=by simp
  have hne: ¬((((x::r).length:Int)==(0:Int))=true):=by simp only [beq_iff_eq];omega
  obtain ⟨h1,h2⟩:=Un (x::r) hl (by simp)
  refine ⟨fun _=>⟨by omega,hlen,hlen,hlen,by omega,hlen,hlen,hlen,h1⟩,?_⟩
  rw [if_neg hne]
  dsimp only [aq]
  rcases h2 with ⟨e,p,hp,hn⟩|⟨a,b,c,d,e,hs,hB⟩
  ·rw [e]
   rcases hf with ⟨h,_⟩|⟨_,e2⟩|⟨_,hs,_⟩
   ·cases h
   ·rw [e2];rfl
   ·exact absurd (hs p hp) hn
  ·rw [e]
   rcases hf with ⟨h,_⟩|⟨⟨p,hp,hn⟩,_⟩|⟨_,_,lo,hi,hB2,e2⟩
   ·cases h
   ·exact absurd (hs p hp) hn
   ·rw [e2]
    obtain ⟨rfl,rfl⟩:=hB.uniq hB2
    rfl
theorem ab9 (l:List T2) (hl:l.length<4611686018427387904) (i:Nat) (hi:i<l.length):
  Term (eT l) (kN l) ((i:Int),(0:Int))/\ Yz l i (l.getD i zT) (run (eT l) ((i:Int),(0:Int))):=by
 refine cV (step:=eT l) (pre:=kN l) (fun s=> ∃k:Nat,s=((i:Int),(k:Int))/\ k<=i/\ ∀j,j<k->Cy (l.getD i zT) (l.getD j zT)=true)
  (fun s=>i- s.2.toNat) (Yz l i (l.getD i zT)) (fun s hs=> ?_) _ ⟨0,rfl,Nat.zero_le _,fun j h=>absurd h (Nat.not_lt_zero _)⟩
 obtain ⟨k,rfl,hk,hf⟩:=hs
 unfold eT kN
 dsimp only [aq]
 simp only [Int.toNat_natCast]
 have e:=(ye (l.getD i zT) (l.getD k zT)).2
 refine ⟨fun h=>⟨⟨by omega,by omega⟩,by omega,by omega,⟨by omega,by omega⟩,by omega,by omega,(ye _ _).1⟩,?_⟩
 simp only [e]
 by_cases hlt:k<i
 ·rw [if_pos (by omega)]
  by_cases hF:Cy (l.getD i zT) (l.getD k zT)=true
  ·obtain ⟨g1,g2⟩:=(CZ _ _).1 hF
   simp only [g1,g2]
   rw [if_neg (by decide),if_neg (by decide),cnt (n:=l.length) (by omega) hl]
   refine ⟨fun s' q=> ?_,fun r q=>(by cases q)⟩
   cases q
   refine ⟨⟨k+1,rfl,hlt,fun j hj=> ?_⟩,by simp only [Int.toNat_natCast];omega⟩
   rcases Nat.lt_or_ge j k with h1|h1
   ·exact hf j h1
   ·have:j=k:=by omega
    subst this;exact hF
  ·have hF':Cy (l.getD i zT) (l.getD k zT)=false:=by simpa using hF
   have: ∀ {α:Type} (A B:α),(if (((gQ (l.getD i zT,l.getD k zT)).2 !=0)=true) then A else if ((gQ (l.getD i zT,l.getD k zT)).1=true) then A else B)=A:=fun A B=>by
    by_cases h2:(gQ (l.getD i zT,l.getD k zT)).2=0
    ·by_cases h1:(gQ (l.getD i zT,l.getD k zT)).1=true
     ·rw [if_neg (by simpa using h2),if_pos h1]
     ·exact absurd ((CZ _ _).2 ⟨by simpa using h1,h2⟩) hF
    ·rw [if_pos (by simpa using h2)]
   rw [this]
   exact ⟨fun s' q=>(by cases q),fun r q=>by cases q;exact .inl ⟨rfl,k,hlt,hF'⟩⟩
 ·rw [if_neg (by omega)]
  refine ⟨fun s' q=>(by cases q),fun r q=> ?_⟩
  cases q
  have:k=i:=by omega
  subst this
  exact .inr ⟨rfl,hf⟩
theorem RU (l:List T2) (hl:l.length<4611686018427387904):vv l/\ K2 l=J2 l:=by
 have hF:=(J3 l hl).2
 obtain ⟨h1,h2⟩:=cV (step:=jR l) (pre:=pC l) (fun s=> ∃i:Nat,s=i/\ i<=l.length/\ ∀j k,j<i->k<j->Cy (l.getD j zT) (l.getD k zT)=true) (fun s=>l.length- s.toNat)
  (fun r=>Sum.elim (fun _=>false) (fun _=>true) r=true↔ ∀i k,i<l.length->k<i->Cy (l.getD i zT) (l.getD k zT)=true) (fun s ⟨i,e,hi,hf⟩=>by
   subst e
   unfold jR pC
   dsimp only [aq]
   by_cases hlt:i<l.length
   ·obtain ⟨t,o⟩:=ab9 l hl i hlt
    rw [if_pos (by omega)]
    refine ⟨fun _=>t,?_⟩
    rcases o with ⟨g1,k,hk,hb⟩|⟨g1,g2⟩
    ·rw [g1]
     refine ⟨fun s' q=>(by cases q),fun r q=> ?_⟩
     cases q
     exact ⟨fun q=>(by cases q),fun q=>by rw [q i k hlt hk] at hb;cases hb⟩
    ·rw [g1]
     refine ⟨fun s' q=> ?_,fun r q=>(by cases q)⟩
     cases q
     refine ⟨⟨i+1,by rw [cnt hlt hl],hlt,fun j k hj hk=> ?_⟩,by rw [cnt hlt hl];simp only [Int.toNat_natCast];omega⟩
     rcases Nat.lt_or_ge j i with hji|hji
     ·exact hf j k hji hk
     ·have:j=i:=by omega
      subst this;exact g2 k hk
   ·rw [if_neg (by omega)]
    refine ⟨fun q=>absurd q (by omega),fun s' q=>(by cases q),fun r q=> ?_⟩
    cases q
    have:i=l.length:=by omega
    subst this
    exact ⟨fun _=>hf,fun _=>rfl⟩) 0 ⟨0,rfl,Nat.zero_le _,fun j k h=>absurd h (Nat.not_lt_zero _)⟩
 refine ⟨h1,?_⟩
 rw [Bool.eq_iff_iff,hF]
 exact h2
theorem O3 (x:SX):ua x/\ DM x=VO x:=by
 have hI:=(nJ x).2
 obtain ⟨tr,uv,w,h⟩:=x
 unfold ua DM
 dsimp only [az,aq]
 have no: ¬fI (tr,uv,w,h)->VO (tr,uv,w,h)=false:=fun q=>by rw [Bool.eq_false_iff];exact fun z=>q (hI.1 z)
 by_cases h0:(((tr.length:Nat):Int)==0)=true
 ·refine ⟨fun q=>absurd h0 q,?_⟩
  rw [if_pos h0,no]
  intro q
  have h1:tr.length=0:=by simpa using h0
  have h2:=q.same
  have h3:=q.ok
  dsimp only at h2 h3
  have h4:uv= []:=List.length_eq_zero_iff.1 (by omega)
  subst h4
  rcases (xy [] (by simp)).2 with ⟨_,e⟩|⟨⟨p,hp,_⟩,_⟩|⟨g,_⟩
  ·rw [e] at h3;cases h3
  ·simp [pts] at hp
  ·exact g rfl
 rw [if_neg h0]
 by_cases h1:((tr.length:Nat):Int)>500
 ·refine ⟨fun _ q=>absurd h1 q,?_⟩
  rw [if_pos h1,no]
  exact fun q=>absurd q.len (by dsimp only;omega)
 rw [if_neg h1]
 by_cases h2:(((uv.length:Nat):Int) !=((tr.length:Nat):Int))=true
 ·refine ⟨fun _ _ q=>absurd h2 q,?_⟩
  rw [if_pos h2,no]
  intro q
  have:=q.same
  dsimp only at this
  rw [this] at h2;simp at h2
 rw [if_neg h2]
 have hlen:uv.length=tr.length:=by simp only [bne_iff_ne,ne_eq,Decidable.not_not] at h2;omega
 have hl:uv.length<4611686018427387904:=by omega
 have hh:=gG uv hl (fun t=> !decide (M1 t)) (eK (tr,uv,w,h)) (vx (tr,uv,w,h)) (fun i hi=>by
   unfold vx
   intro q
   simp only [Int.toNat_natCast];dsimp only at q ⊢;omega) (fun i t ht=>by
   have hlt:=bt ht
   unfold eK
   dsimp only [aq]
   rw [if_pos (by omega),Int.toNat_natCast,cY ht,show cW t=decide (M1 t) from jP _ _ _]) (by
   unfold eK
   dsimp only
   rw [if_neg (by omega)])
 rw [xX (P:=M1) (fun _=>rfl)] at hh
 obtain ⟨hT,hR⟩:=hh
 have hb:=Xk uv hl
 have ha:=RU uv hl
 refine ⟨fun _ _ _=>⟨hT,?_⟩,?_⟩
 ·cases run (eK (tr,uv,w,h)) 0 with
  |inl a=>trivial
  |inr b=>exact ⟨hb.1,fun _ _ _ _ _ _=>ha.1⟩
 cases hr:run (eK (tr,uv,w,h)) 0 with
 |inl a=>
  rw [hr] at hR
  dsimp only [Sum.elim_inl] at hR ⊢
  rw [no]
  intro q
  rw [decide_eq_true (show∀t∈uv,M1 t from q.right)] at hR;cases hR
 |inr b=>
  rw [hr] at hR
  dsimp only [Sum.elim_inr] at hR ⊢
  have hright: ∀t∈uv,M1 t:=of_decide_eq_true hR.symm
  rw [hb.2,ha.2,Hy,Hy,zB,zB]
  dsimp only
  rw [Bool.eq_iff_iff,hI]
  by_cases h4:((jn uv).2.2 !=0)=true
  ·rw [if_pos h4]
   refine ⟨fun q=>(by cases q),fun q=> ?_⟩
   have:=q.ok
   dsimp only at this
   rw [this] at h4;exact absurd h4 (by decide)
  rw [if_neg h4]
  have h4:(jn uv).2.2=0:=by simpa using h4
  have he:(((jn uv).1.1==0)&&(((jn uv).1.2==0)&&true))=true↔(jn uv).1=z2:=by
   generalize (jn uv).1=p
   obtain ⟨a,b⟩:=p
   simp
  by_cases h5:(jn uv).1=z2
  ·have hhi:(jn uv).2.1.1≤4096∧(jn uv).2.1.2≤4096:=by
    rcases (xy uv hl).2 with ⟨_,e⟩|⟨_,e⟩|⟨_,hs,lo,hi,hB,e⟩
    ·rw [e];decide
    ·rw [e];decide
    ·rw [e]
     obtain ⟨p,hp,e1⟩:=hB.h1
     obtain ⟨q,hq,e2⟩:=hB.h2
     have s1:=hs p hp
     have s2:=hs q hq
     dsimp only;omega
   rw [he.2 h5,if_neg (by decide),if_neg (by omega),if_neg (by omega)]
   by_cases h6:w=Sz (jn uv).2.1.1
   ·rw [if_pos (by rw [h6];simp)]
    by_cases h7:h=Sz (jn uv).2.1.2
    ·rw [if_pos (by rw [h7];simp)]
     exact ⟨fun q=>⟨by dsimp only;omega,hlen,hright,h4,h5,h6,h7,q⟩,fun q=>q.free⟩
    ·rw [if_neg (by simpa using h7)]
     exact ⟨fun q=>(by cases q),fun q=>absurd q.h h7⟩
   ·rw [if_neg (by simpa using h6)]
    exact ⟨fun q=>(by cases q),fun q=>absurd q.w h6⟩
  ·rw [if_pos (by
    rw [Bool.not_eq_true',Bool.eq_false_iff]
    exact fun q=>h5 (he.1 q))]
   exact ⟨fun q=>(by cases q),fun q=>absurd q.zero h5⟩
end Go.Proofs.YtfgdjlhilladhaaGreat
