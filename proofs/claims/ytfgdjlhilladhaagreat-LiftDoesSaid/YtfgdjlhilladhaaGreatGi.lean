/- Plain laws: texels at a triangle's corners. -/
import Derived.Test.YtfgdjlhilladhaaGreatGd
import Derived.Test.YtfgdjlhilladhaaGreatHu
noncomputable section
set_option linter.unusedSectionVars false
set_option linter.unusedVariables false
set_option linter.unusedSimpArgs false
namespace Go.Proofs.YtfgdjlhilladhaaGreat
open Go Go.Ev Go.Proofs
def FF (m:P2->Int) (k:Int) (l:List P2):Bool:=l.all fun p=>decide (m p<k)
theorem JN (c k:Int) (l:List P2) (hl:l.length<4611686018427387904) (m:P2->Int) (step:Int×(Bool×Int)->(Int×Bool×Int)⊕(Int×Bool)) (hT:Term step (fun _=>True) (c,true,0))
  (h1: ∀(i:Nat) (p:P2),l[i]? =some p->step (c,true,(i:Int))= .inl (c,decide (m p<k),aj ((i:Int)+1)))
  (h2: ∀(i:Nat) (p:P2),l[i]? =some p->step (c,false,(i:Int))= .inl (c,false,aj ((i:Int)+1)))
  (h3: ∀b,step (c,b,(l.length:Int))= .inr (c,b)):run step (c,true,0)=(c,FF m k l):=by
 obtain ⟨_,h⟩:=cV (step:=step) (pre:=fun _=>True) (fun s=> ∃i:Nat,s=(c,FF m k (l.take i),(i:Int))/\ i<=l.length) (fun s=>l.length- s.2.2.toNat) (fun r=>r=(c,FF m k l)) (fun s ⟨i,e,hi⟩=>by
  subst e
  refine ⟨trivial,?_⟩
  rcases Nat.lt_or_ge i l.length with hlt|hge
  ·have hg:=List.getElem?_eq_getElem hlt
   have hs:step (c,FF m k (l.take i),(i:Int))= .inl (c,FF m k (l.take (i+1)),aj ((i:Int)+1)):=by
    rw [List.take_succ_eq_append_getElem hlt]
    have e:FF m k (l.take i++ [l[i]])=(FF m k (l.take i)&&decide (m l[i]<k)):=by unfold FF;rw [List.all_append,List.all_cons,List.all_nil,Bool.and_true]
    rw [e]
    cases FF m k (l.take i) with
    |true=>rw [h1 i _ hg];rfl
    |false=>rw [h2 i _ hg];rfl
   refine ⟨fun s' q=> ?_,fun r q=> ?_⟩
   ·rw [hs] at q
    cases q
    rw [cnt hlt hl]
    exact ⟨⟨i+1,rfl,hlt⟩,by simp only [Int.toNat_natCast];omega⟩
   ·rw [hs] at q;cases q
  ·have:i=l.length:=by omega
   subst this
   rw [h3,List.take_length]
   exact ⟨fun s' q=>(by cases q),fun r q=>by cases q;rfl⟩) (c,true,0) ⟨0,rfl,Nat.zero_le _⟩
 exact h
theorem GN {S R:Type} {step:S->S⊕R} {pre:S->Prop} {s:S} (h:Term step pre s):Term step (fun _=>True) s:=by
 induction h with
 |mk s _ _ ih=>exact .mk s trivial ih
theorem B3 {a b c:P2} (hr:Right a b c) (k:Int) (l:List P2) (hs: ∀p∈l,Sm p) (hl:l.length<4611686018427387904):
  vg ((a,b,c),k,l)=(FF (Sd a b c) k l||FF (Sd b c a) k l||FF (Sd c a b) k l):=by
 have hT:=CC ((a,b,c),k,l) hl (sg (c8 a b c))
 have e1:run (cj ((a,b,c),k,l)) (sg (c8 a b c),true,0)=(sg (c8 a b c),FF (Sd a b c) k l):=by
  refine JN _ k l hl _ _ (GN hT.1) (fun i p hp=> ?_) (fun i p hp=> ?_) (fun q=> ?_)
  ·have hlt:=bt hp
   unfold cj
   dsimp only [aq]
   rw [if_pos (by omega),if_pos rfl,Int.toNat_natCast,cY hp,ql _ (hs p (List.mem_of_getElem? hp)) hr.1.1 hr.1.2.1];rfl
  ·have hlt:=bt hp
   unfold cj
   dsimp only [aq]
   rw [if_pos (by omega),if_neg (by decide)]
  ·unfold cj
   dsimp only
   rw [if_neg (by omega)]
 have e2:run (ck ((a,b,c),k,l)) (sg (c8 a b c),true,0)=(sg (c8 a b c),FF (Sd b c a) k l):=by
  refine JN _ k l hl _ _ (GN hT.2.1) (fun i p hp=> ?_) (fun i p hp=> ?_) (fun q=> ?_)
  ·have hlt:=bt hp
   unfold ck
   dsimp only [aq]
   rw [if_pos (by omega),if_pos rfl,Int.toNat_natCast,cY hp,ql _ (hs p (List.mem_of_getElem? hp)) hr.1.2.1 hr.1.2.2]
   unfold Sd;rw [e8 a b c]
  ·have hlt:=bt hp
   unfold ck
   dsimp only [aq]
   rw [if_pos (by omega),if_neg (by decide)]
  ·unfold ck
   dsimp only
   rw [if_neg (by omega)]
 have e3:run (cJ ((a,b,c),k,l)) (sg (c8 a b c),true,0)=(sg (c8 a b c),FF (Sd c a b) k l):=by
  refine JN _ k l hl _ _ (GN hT.2.2) (fun i p hp=> ?_) (fun i p hp=> ?_) (fun q=> ?_)
  ·have hlt:=bt hp
   unfold cJ
   dsimp only [aq]
   rw [if_pos (by omega),if_pos rfl,Int.toNat_natCast,cY hp,ql _ (hs p (List.mem_of_getElem? hp)) hr.1.2.2 hr.1.1]
   unfold Sd;rw [e8 b c a,e8 a b c]
  ·have hlt:=bt hp
   unfold cJ
   dsimp only [aq]
   rw [if_pos (by omega),if_neg (by decide)]
  ·unfold cJ
   dsimp only
   rw [if_neg (by omega)]
 unfold vg
 dsimp only [aq]
 rw [Ar,if_pos hr.1]
 dsimp only
 rw [e1]
 dsimp only
 rw [e2]
 dsimp only
 rw [e3]
 dsimp only
 generalize FF (Sd a b c) k l=x
 generalize FF (Sd b c a) k l=y
 generalize FF (Sd c a b) k l=z
 cases x<;>cases y<;>cases z<;>rfl
def pk (t:T2) (k:Nat):P2:=if k=0 then t.1 else if k=1 then t.2.1 else t.2.2
theorem aj1 (t:T2) {k:Nat} (h:k<3):pk t k∈tp t:=by
 have:k=0\/ k=1\/ k=2:=by omega
 rcases this with rfl|rfl|rfl<;>simp [pk,tp]
def YD (X Y:Int):List P2:= [(X,Y),(X+16,Y),(X+16,Y+16),(X,Y+16)]
def acV (X Y:Int) (t:T2):Prop:=(aG (aG t.1.1 t.2.1.1) t.2.2.1<=X+16/\ X<=aI (aI t.1.1 t.2.1.1) t.2.2.1)/\ aG (aG t.1.2 t.2.1.2) t.2.2.2<=Y+16/\ Y<=aI (aI t.1.2 t.2.1.2) t.2.2.2
theorem YK {x y:Nat} (hx:x<256) (hy:y<256) {t:T2} (hr:mright t=true):
  (I7 x y t=true↔acV (16*(x:Int)) (16*(y:Int)) t/\ vg (t,0,YD (16*(x:Int)) (16*(y:Int)))=false):=by
 have m1:=gA (x:Int) (y:Int)
 have m2:=fN (x:Int) (y:Int)
 have e1:aj (16*(x:Int))=16*(x:Int):=ay (by omega) (by omega)
 have e2:aj (16*(y:Int))=16*(y:Int):=ay (by omega) (by omega)
 have e3:aj (16*(x:Int)+16)=16*(x:Int)+16:=ay (by omega) (by omega)
 have e4:aj (16*(y:Int)+16)=16*(y:Int)+16:=ay (by omega) (by omega)
 have s1:Sm (16*(x:Int),16*(y:Int)):=by unfold Sm;dsimp only;omega
 have s2:Sm (16*(x:Int)+16,16*(y:Int)+16):=by unfold Sm;dsimp only;omega
 unfold I7 Ao aq
 dsimp only
 rw [if_neg (by omega),if_neg (by omega),hr,if_neg (by decide),e1,e2]
 unfold RC aq
 dsimp only
 rw [e3,e4,qY,qY,decide_eq_true s1,decide_eq_true s2,hr,if_neg (by decide),if_neg (by decide),if_neg (by decide),if_neg (by decide),if_neg (by decide)]
 unfold acV
 by_cases c1:aG (aG t.1.1 t.2.1.1) t.2.2.1<=16*(x:Int)+16
 ·rw [if_pos c1]
  by_cases c2:aI (aI t.1.1 t.2.1.1) t.2.2.1>=16*(x:Int)
  ·rw [if_pos c2]
   by_cases c3:aG (aG t.1.2 t.2.1.2) t.2.2.2<=16*(y:Int)+16
   ·rw [if_pos c3]
    by_cases c4:aI (aI t.1.2 t.2.1.2) t.2.2.2>=16*(y:Int)
    ·rw [if_pos c4]
     unfold YD
     dsimp only
     rw [Bool.not_eq_true']
     exact ⟨fun q=>⟨⟨⟨c1,c2⟩,c3,c4⟩,q⟩,fun q=>q.2⟩
    ·rw [if_neg c4]
     exact ⟨fun q=>(by cases q),fun q=>absurd q.1.2.2 c4⟩
   ·rw [if_neg c3]
    exact ⟨fun q=>(by cases q),fun q=>absurd q.1.2.1 c3⟩
  ·rw [if_neg c2]
   split<;>exact ⟨fun q=>(by cases q),fun q=>absurd q.1.1.2 c2⟩
 ·rw [if_neg c1]
  split<;>exact ⟨fun q=>(by cases q),fun q=>absurd q.1.1.1 c1⟩
theorem fI.pt {p:SX} (h:fI p) {q:P2} (hq:q∈pts p.2.1):(0<=q.1/\ q.1<16*p.2.2.1)/\ 0<=q.2/\ q.2<16*p.2.2.2:=by
 have hl:=h.len
 have hs:=h.same
 rcases (xy p.2.1 (by omega)).2 with ⟨e,_⟩|⟨_,e⟩|⟨_,hsm,lo,hi,hB,e⟩
 ·rw [e] at hq;simp [pts] at hq
 ·have:=h.ok;rw [e] at this;exact absurd this (by decide)
 ·have hz:=h.zero
  have hw:=h.w
  have hh:=h.h
  rw [e] at hz hw hh
  have hz:lo=z2:=hz
  subst hz
  have hw:p.2.2.1=Sz hi.1:=hw
  have hh:p.2.2.2=Sz hi.2:=hh
  have b1:=hB.low q hq
  have b2:=hB.high q hq
  obtain ⟨m1,hm1,e1⟩:=hB.h1
  obtain ⟨m2,hm2,e2⟩:=hB.h2
  have s1:=hsm m1 hm1
  have s2:=hsm m2 hm2
  dsimp only [z2] at b1
  have f1:Sz hi.1=hi.1 / 16+1:=by unfold Sz;rw [if_neg (by omega),if_neg (by omega)]
  have f2:Sz hi.2=hi.2 / 16+1:=by unfold Sz;rw [if_neg (by omega),if_neg (by omega)]
  rw [hw,hh,f1,f2]
  omega
def Inn (r:JI) (pad:Int) (p:P2):Prop:=(16*(r.1+pad)<=p.1/\ p.1<16*(r.1+r.2.2.1- pad))/\ 16*(r.2.1+pad)<=p.2/\ p.2<16*(r.2.1+r.2.2.2- pad)
theorem WG {a:GR} (hA:qt a) {j:Nat} (hj:j<a.2.2.2.1.length) {t:T2} (ht:t∈xR a.2.2.2.1 a.2.2.2.2 a.2.2.1 j) {k:Nat} (hk:k<3):Inn (a.2.2.2.2.getD j zR) a.2.2.1 (pk t k):=by
 obtain ⟨u,hu,rfl⟩:=List.mem_map.1 ht
 have hp:=hA.rgt.all _ (cq hj zP)
 have hq:pk u k∈pts (a.2.2.2.1.getD j zP).2.1:=List.mem_flatMap.2 ⟨u,hu,aj1 u hk⟩
 have hb:=hp.pt hq
 have adX:=hA.way hj
 have hs:=hA.JB j hj
 have hs1:(a.2.2.2.2.getD j zR).2.2.1=(a.2.2.2.1.getD j zP).2.2.1+2*a.2.2.1:=congrArg Prod.fst hs
 have hs2:(a.2.2.2.2.getD j zR).2.2.2=(a.2.2.2.1.getD j zP).2.2.2+2*a.2.2.1:=congrArg Prod.snd hs
 have hd:=hp.ai9
 have e:pk (w4 (fun p=>eI (p,dx a.2.2.2.2 a.2.2.1 j)) u) k=eI (pk u k,dx a.2.2.2.2 a.2.2.1 j):=by
  unfold pk w4;split<;>(try split)<;>rfl
 rw [e]
 have e2:eI (pk u k,dx a.2.2.2.2 a.2.2.1 j)=((pk u k).1+(dx a.2.2.2.2 a.2.2.1 j).1,(pk u k).2+(dx a.2.2.2.2 a.2.2.1 j).2):=by
  unfold eI
  dsimp only
  rw [ay (n:=(pk u k).1+(dx a.2.2.2.2 a.2.2.1 j).1) (by omega) (by omega),ay (n:=(pk u k).2+(dx a.2.2.2.2 a.2.2.1 j).2) (by omega) (by omega)]
 rw [e2]
 unfold Inn
 dsimp only [dx]
 omega
theorem ai0 {l:M0} (hl:Rgt l) (R:List JI) (pad:Int): ∀k,k<=l.length-> ∀i,i<(sL l R pad k).length-> ∃j,j<k/\ (CB l k).getD i 0=(j:Int)/\ (sL l R pad k).getD i zT∈xR l R pad j/\ (eO (l.take k)).getD i 0∈(l.getD j zP).1:=by
 intro k
 induction k with
 |zero=>intro _ i hi;simp [sL] at hi
 |succ k ih=>
  intro hk i hi
  obtain ⟨t1,t2,_⟩:=tH hl R pad k (by omega)
  have hm:=zQ l R pad k
  have hs:=(hl.all _ (cq (show k<l.length by omega) zP)).same
  rw [tI,List.length_append] at hi
  rw [tI,zi,eV (show k<l.length by omega) zP,nD]
  simp only [List.getD_eq_getElem?_getD]
  rcases Nat.lt_or_ge i (sL l R pad k).length with h1|h1
  ·obtain ⟨j,j1,j2,j3,j4⟩:=ih (by omega) i h1
   rw [List.getElem?_append_left (by omega),List.getElem?_append_left (by omega),List.getElem?_append_left (by omega)]
   simp only [List.getD_eq_getElem?_getD] at j2 j3 j4
   exact ⟨j,by omega,j2,j3,j4⟩
  ·refine ⟨k,by omega,?_,?_,?_⟩
   ·rw [List.getElem?_append_right (by omega),List.getElem?_replicate,if_pos (by rw [<- List.getD_eq_getElem?_getD];omega)];rfl
   ·rw [List.getElem?_append_right (by omega),List.getElem?_eq_getElem (by omega)]
    exact List.getElem_mem _
   ·rw [List.getElem?_append_right (by omega),List.getElem?_eq_getElem (show i- (eO (l.take k)).length<(l[k]?.getD zP).1.length by
     rw [<- List.getD_eq_getElem?_getD];omega)]
    exact List.getElem_mem _
end Go.Proofs.YtfgdjlhilladhaaGreat
