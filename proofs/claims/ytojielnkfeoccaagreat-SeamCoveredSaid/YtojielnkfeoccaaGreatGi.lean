/- Plain laws: texels along a triangle's edges. -/
import Derived.Test.YtojielnkfeoccaaGreatGd
noncomputable section
set_option linter.unusedSectionVars false
set_option linter.unusedVariables false
set_option linter.unusedSimpArgs false
namespace Go.Proofs.YtojielnkfeoccaaGreat
open Go Go.Ev Go.Proofs
theorem zv {p a b:P2} (n:Int) (hp:Sm p) (ha:Sm a) (hb:Sm b):FP (p,a,b,sg n)=sg n*sg (q9 a b p):=by
 unfold FP
 rw [GQ,if_pos ⟨ha,hb,hp⟩]
 dsimp only [au]
 rcases sP n with ⟨_,e⟩|⟨_,e⟩|⟨_,e⟩<;>rcases sP (q9 a b p) with ⟨_,f⟩|⟨_,f⟩|⟨_,f⟩<;>rw [e,f]<;>rfl
def Eu (m:P2->Int) (k:Int) (l:List P2):Bool:=l.all fun p=>decide (m p<k)
theorem Cp (c k:Int) (l:List P2) (hl:l.length<4611686018427387904) (m:P2->Int) (step:Int×(Bool×Int)->(Int×Bool×Int)⊕(Int×Bool)) (hT:Term step (fun _=>True) (c,true,0))
  (h1: ∀(i:Nat) (p:P2),l[i]? =some p->step (c,true,(i:Int))= .inl (c,decide (m p<k),aj ((i:Int)+1)))
  (h2: ∀(i:Nat) (p:P2),l[i]? =some p->step (c,false,(i:Int))= .inl (c,false,aj ((i:Int)+1)))
  (h3: ∀b,step (c,b,(l.length:Int))= .inr (c,b)):run step (c,true,0)=(c,Eu m k l):=by
 obtain ⟨_,h⟩:=pO (step:=step) (pre:=fun _=>True) (fun s=> ∃i:Nat,s=(c,Eu m k (l.take i),(i:Int))/\ i<=l.length) (fun s=>l.length- s.2.2.toNat) (fun r=>r=(c,Eu m k l)) (fun s ⟨i,e,hi⟩=>by
  subst e
  refine ⟨trivial,?_⟩
  rcases Nat.lt_or_ge i l.length with hlt|hge
  ·have hg:=List.getElem?_eq_getElem hlt
   have hs:step (c,Eu m k (l.take i),(i:Int))= .inl (c,Eu m k (l.take (i+1)),aj ((i:Int)+1)):=by
    rw [List.take_succ_eq_append_getElem hlt]
    have e:Eu m k (l.take i++ [l[i]])=(Eu m k (l.take i)&&decide (m l[i]<k)):=by unfold Eu;rw [List.all_append,List.all_cons,List.all_nil,Bool.and_true]
    rw [e]
    cases Eu m k (l.take i) with
    |true=>rw [h1 i _ hg];rfl
    |false=>rw [h2 i _ hg];rfl
   refine ⟨fun s' q=> ?_,fun r q=> ?_⟩
   ·rw [hs] at q
    cases q
    rw [cnt hlt hl]
    exact ⟨⟨i+1,rfl,hlt⟩,by simp only [Int.toNat_natCast];omega⟩
   ·rw [hs] at q;cases q
  ·have:i=l.length:=by omega
   subst this
   rw [h3,List.take_length]
   exact ⟨fun s' q=>(by cases q),fun r q=>by cases q;rfl⟩) (c,true,0) ⟨0,rfl,Nat.zero_le _⟩
 exact h
theorem zX {S R:Type} {step:S->S⊕R} {pre:S->Prop} {s:S} (h:Term step pre s):Term step (fun _=>True) s:=by
 induction h with
 |mk s _ _ ih=>exact .mk s trivial ih
theorem ML {a b c:P2} (hr:Right a b c) (k:Int) (l:List P2) (hs: ∀p∈l,Sm p) (hl:l.length<4611686018427387904):
  sy ((a,b,c),k,l)=(Eu (Sd a b c) k l||Eu (Sd b c a) k l||Eu (Sd c a b) k l):=by
 have hT:=wg ((a,b,c),k,l) hl (sg (q9 a b c))
 have e1:run (cu ((a,b,c),k,l)) (sg (q9 a b c),true,0)=(sg (q9 a b c),Eu (Sd a b c) k l):=by
  refine Cp _ k l hl _ _ (zX hT.1) (fun i p hp=> ?_) (fun i p hp=> ?_) (fun q=> ?_)
  ·have hlt:=cU hp
   unfold cu
   dsimp only [au]
   rw [if_pos (by omega),if_pos rfl,Int.toNat_natCast,gY hp,zv _ (hs p (List.mem_of_getElem? hp)) hr.1.1 hr.1.2.1];rfl
  ·have hlt:=cU hp
   unfold cu
   dsimp only [au]
   rw [if_pos (by omega),if_neg (by decide)]
  ·unfold cu
   dsimp only
   rw [if_neg (by omega)]
 have e2:run (cw ((a,b,c),k,l)) (sg (q9 a b c),true,0)=(sg (q9 a b c),Eu (Sd b c a) k l):=by
  refine Cp _ k l hl _ _ (zX hT.2.1) (fun i p hp=> ?_) (fun i p hp=> ?_) (fun q=> ?_)
  ·have hlt:=cU hp
   unfold cw
   dsimp only [au]
   rw [if_pos (by omega),if_pos rfl,Int.toNat_natCast,gY hp,zv _ (hs p (List.mem_of_getElem? hp)) hr.1.2.1 hr.1.2.2]
   unfold Sd;rw [CF a b c]
  ·have hlt:=cU hp
   unfold cw
   dsimp only [au]
   rw [if_pos (by omega),if_neg (by decide)]
  ·unfold cw
   dsimp only
   rw [if_neg (by omega)]
 have e3:run (cP ((a,b,c),k,l)) (sg (q9 a b c),true,0)=(sg (q9 a b c),Eu (Sd c a b) k l):=by
  refine Cp _ k l hl _ _ (zX hT.2.2) (fun i p hp=> ?_) (fun i p hp=> ?_) (fun q=> ?_)
  ·have hlt:=cU hp
   unfold cP
   dsimp only [au]
   rw [if_pos (by omega),if_pos rfl,Int.toNat_natCast,gY hp,zv _ (hs p (List.mem_of_getElem? hp)) hr.1.2.2 hr.1.1]
   unfold Sd;rw [CF b c a,CF a b c]
  ·have hlt:=cU hp
   unfold cP
   dsimp only [au]
   rw [if_pos (by omega),if_neg (by decide)]
  ·unfold cP
   dsimp only
   rw [if_neg (by omega)]
 unfold sy
 dsimp only [au]
 rw [GQ,if_pos hr.1]
 dsimp only
 rw [e1]
 dsimp only
 rw [e2]
 dsimp only
 rw [e3]
 dsimp only
 generalize Eu (Sd a b c) k l=x
 generalize Eu (Sd b c a) k l=y
 generalize Eu (Sd c a b) k l=z
 cases x<;>cases y<;>cases z<;>rfl
def pk (t:T2) (k:Nat):P2:=if k=0 then t.1 else if k=1 then t.2.1 else t.2.2
theorem Uc (t:T2) {k:Nat} (h:k<3):pk t k∈tp t:=by
 have:k=0\/ k=1\/ k=2:=by omega
 rcases this with rfl|rfl|rfl<;>simp [pk,tp]
def Xe (X Y:Int):List P2:= [(X,Y),(X+16,Y),(X+16,Y+16),(X,Y+16)]
def I0 (X Y:Int) (t:T2):Prop:=(aO (aO t.1.1 t.2.1.1) t.2.2.1<=X+16/\ X<=aS (aS t.1.1 t.2.1.1) t.2.2.1)/\ aO (aO t.1.2 t.2.1.2) t.2.2.2<=Y+16/\ Y<=aS (aS t.1.2 t.2.1.2) t.2.2.2
theorem NR {x y:Nat} (hx:x<256) (hy:y<256) {t:T2} (hr:mright t=true):
  (RZ x y t=true↔I0 (16*(x:Int)) (16*(y:Int)) t/\ sy (t,0,Xe (16*(x:Int)) (16*(y:Int)))=false):=by
 have m1:=da (x:Int) (y:Int)
 have m2:=cZ (x:Int) (y:Int)
 have e1:aj (16*(x:Int))=16*(x:Int):=bf (by omega) (by omega)
 have e2:aj (16*(y:Int))=16*(y:Int):=bf (by omega) (by omega)
 have e3:aj (16*(x:Int)+16)=16*(x:Int)+16:=bf (by omega) (by omega)
 have e4:aj (16*(y:Int)+16)=16*(y:Int)+16:=bf (by omega) (by omega)
 have s1:Sm (16*(x:Int),16*(y:Int)):=by unfold Sm;dsimp only;omega
 have s2:Sm (16*(x:Int)+16,16*(y:Int)+16):=by unfold Sm;dsimp only;omega
 unfold RZ tR au
 dsimp only
 rw [if_neg (by omega),if_neg (by omega),hr,if_neg (by decide),e1,e2]
 unfold H8 au
 dsimp only
 rw [e3,e4,vI,vI,decide_eq_true s1,decide_eq_true s2,hr,if_neg (by decide),if_neg (by decide),if_neg (by decide),if_neg (by decide),if_neg (by decide)]
 unfold I0
 by_cases c1:aO (aO t.1.1 t.2.1.1) t.2.2.1<=16*(x:Int)+16
 ·rw [if_pos c1]
  by_cases c2:aS (aS t.1.1 t.2.1.1) t.2.2.1>=16*(x:Int)
  ·rw [if_pos c2]
   by_cases c3:aO (aO t.1.2 t.2.1.2) t.2.2.2<=16*(y:Int)+16
   ·rw [if_pos c3]
    by_cases c4:aS (aS t.1.2 t.2.1.2) t.2.2.2>=16*(y:Int)
    ·rw [if_pos c4]
     unfold Xe
     dsimp only
     rw [Bool.not_eq_true']
     exact ⟨fun q=>⟨⟨⟨c1,c2⟩,c3,c4⟩,q⟩,fun q=>q.2⟩
    ·rw [if_neg c4]
     exact ⟨fun q=>(by cases q),fun q=>absurd q.1.2.2 c4⟩
   ·rw [if_neg c3]
    exact ⟨fun q=>(by cases q),fun q=>absurd q.1.2.1 c3⟩
  ·rw [if_neg c2]
   split<;>exact ⟨fun q=>(by cases q),fun q=>absurd q.1.1.2 c2⟩
 ·rw [if_neg c1]
  split<;>exact ⟨fun q=>(by cases q),fun q=>absurd q.1.1.1 c1⟩
theorem Zk (m n:Int):sg m*sg n<0↔sg m*n<0:=by
 rcases sP m with ⟨_,e⟩|⟨_,e⟩|⟨_,e⟩<;>rcases sP n with ⟨_,f⟩|⟨_,f⟩|⟨_,f⟩<;>rw [e,f]<;>omega
theorem abb {α β γ X Y u v:Int} (hu:8*X<=u/\ u<8*X+128) (hv:8*Y<=v/\ v<8*Y+128)
  (h1:α+β*X+γ*Y<0) (h2:α+β*(X+16)+γ*Y<0) (h3:α+β*(X+16)+γ*(Y+16)<0) (h4:α+β*X+γ*(Y+16)<0):8*α+β*u+γ*v<0:=by
 have p1:=Int.mul_add β X 16
 have p2:=Int.mul_add γ Y 16
 have x1:β*(8*X)=8*(β*X):=by rw [Int.mul_left_comm]
 have x2:γ*(8*Y)=8*(γ*Y):=by rw [Int.mul_left_comm]
 have x3:β*(8*X+128)=8*(β*X)+128*β:=by rw [Int.mul_add,x1,Int.mul_comm β 128]
 have x4:γ*(8*Y+128)=8*(γ*Y)+128*γ:=by rw [Int.mul_add,x2,Int.mul_comm γ 128]
 rcases Int.le_total 0 β with hb|hb<;>rcases Int.le_total 0 γ with hc|hc
 ·have m1:=Int.mul_nonneg hb (show 0≤8*X+128- u by omega)
  have m2:=Int.mul_nonneg hc (show 0<=8*Y+128- v by omega)
  rw [Int.mul_sub,x3] at m1
  rw [Int.mul_sub,x4] at m2
  omega
 ·have m1:=Int.mul_nonneg hb (show 0≤8*X+128- u by omega)
  have m2:=Int.mul_nonneg (show 0<= -γ by omega) (show 0<=v- 8*Y by omega)
  rw [Int.mul_sub,x3] at m1
  rw [Int.mul_sub,Int.neg_mul,Int.neg_mul,x2] at m2
  omega
 ·have m1:=Int.mul_nonneg (show 0≤ -β by omega) (show 0≤u- 8*X by omega)
  have m2:=Int.mul_nonneg hc (show 0<=8*Y+128- v by omega)
  rw [Int.mul_sub,Int.neg_mul,Int.neg_mul,x1] at m1
  rw [Int.mul_sub,x4] at m2
  omega
 ·have m1:=Int.mul_nonneg (show 0≤ -β by omega) (show 0≤u- 8*X by omega)
  have m2:=Int.mul_nonneg (show 0<= -γ by omega) (show 0<=v- 8*Y by omega)
  rw [Int.mul_sub,Int.neg_mul,Int.neg_mul,x1] at m1
  rw [Int.mul_sub,Int.neg_mul,Int.neg_mul,x2] at m2
  omega
theorem CD (s:Int) (a b p:P2):s*q9 a b p=(s*((b.2- a.2)*a.1)- s*((b.1- a.1)*a.2))+(-(s*(b.2- a.2)))*p.1+(s*(b.1- a.1))*p.2:=by
 unfold q9;grind
def q8 (p q:P2) (n:Nat):P2:=(8*p.1+(n:Int)*(q.1- p.1),8*p.2+(n:Int)*(q.2- p.2))
theorem WD {p q:P2} {n:Nat} (hn:n<=8) {lo hi:Int} (h1:lo<=p.1/\ p.1<=hi) (h2:lo<=q.1/\ q.1<=hi):8*lo<=(q8 p q n).1/\ (q8 p q n).1<=8*hi:=by
 unfold q8
 have:n=0\/ n=1\/ n=2\/ n=3\/ n=4\/ n=5\/ n=6\/ n=7\/ n=8:=by omega
 rcases this with rfl|rfl|rfl|rfl|rfl|rfl|rfl|rfl|rfl<;>(dsimp only;omega)
theorem WE {p q:P2} {n:Nat} (hn:n<=8) {lo hi:Int} (h1:lo<=p.2/\ p.2<=hi) (h2:lo<=q.2/\ q.2<=hi):8*lo<=(q8 p q n).2/\ (q8 p q n).2<=8*hi:=by
 unfold q8
 have:n=0\/ n=1\/ n=2\/ n=3\/ n=4\/ n=5\/ n=6\/ n=7\/ n=8:=by omega
 rcases this with rfl|rfl|rfl|rfl|rfl|rfl|rfl|rfl|rfl<;>(dsimp only;omega)
theorem acz (α β γ:Int) (p q:P2) (n:Nat):8*α+β*(q8 p q n).1+γ*(q8 p q n).2=(8- (n:Int))*(α+β*p.1+γ*p.2)+(n:Int)*(α+β*q.1+γ*q.2):=by
 unfold q8;dsimp only;grind
theorem yV {a b c p q:P2} {n:Nat} (hn:n<=8) {X Y:Int} (hu:8*X<=(q8 p q n).1/\ (q8 p q n).1<8*X+128) (hv:8*Y<=(q8 p q n).2/\ (q8 p q n).2<8*Y+128) (h1:0<=sg (q9 a b c)*q9 a b p) (h2:0<=sg (q9 a b c)*q9 a b q):Eu (Sd a b c) 0 (Xe X Y)=false:=by
 cases hb:Eu (Sd a b c) 0 (Xe X Y) with
 |false=>rfl
 |true=>
  unfold Eu Xe Sd at hb
  simp only [List.all_cons,List.all_nil,Bool.and_eq_true,decide_eq_true_eq,Bool.and_true,Zk,CD] at hb
  obtain ⟨g1,g2,g3,g4⟩:=hb
  rw [CD] at h1 h2
  have:=abb hu hv g1 g2 g3 g4
  rw [acz] at this
  have m1:=Int.mul_nonneg (show 0<=8- (n:Int) by omega) h1
  have m2:=Int.mul_nonneg (show 0<=(n:Int) by omega) h2
  omega
theorem PW (a b:P2):q9 a b a=0:=by unfold q9;grind
theorem PX (a b:P2):q9 a b b=0:=by unfold q9;grind
theorem Ni (n:Int):0<=sg n*n:=by
 rcases sP n with ⟨_,e⟩|⟨_,e⟩|⟨_,e⟩<;>rw [e]<;>omega
theorem Ud (t:T2) {k:Nat} (hk:k<3):pk t k=t.1\/ pk t k=t.2.1\/ pk t k=t.2.2:=by
 have:k=0\/ k=1\/ k=2:=by omega
 rcases this with rfl|rfl|rfl
 ·exact .inl rfl
 ·exact .inr (.inl rfl)
 ·exact .inr (.inr rfl)
theorem yY {a b c p:P2} (h:p=a\/ p=b\/ p=c):0<=sg (q9 a b c)*q9 a b p:=by
 rcases h with rfl|rfl|rfl
 ·rw [PW];omega
 ·rw [PX];omega
 ·exact Ni _
theorem Ik (t:T2) {k:Nat} (hk:k<3):(aO (aO t.1.1 t.2.1.1) t.2.2.1<=(pk t k).1/\ (pk t k).1<=aS (aS t.1.1 t.2.1.1) t.2.2.1)/\ aO (aO t.1.2 t.2.1.2) t.2.2.2<=(pk t k).2/\ (pk t k).2<=aS (aS t.1.2 t.2.1.2) t.2.2.2:=by
 have m1:=da t.1.1 t.2.1.1
 have m2:=da (aO t.1.1 t.2.1.1) t.2.2.1
 have m3:=cZ t.1.1 t.2.1.1
 have m4:=cZ (aS t.1.1 t.2.1.1) t.2.2.1
 have m5:=da t.1.2 t.2.1.2
 have m6:=da (aO t.1.2 t.2.1.2) t.2.2.2
 have m7:=cZ t.1.2 t.2.1.2
 have m8:=cZ (aS t.1.2 t.2.1.2) t.2.2.2
 rcases Ud t hk with e|e|e<;>rw [e]<;>omega
theorem Pp {x y:Nat} (hx:x<256) (hy:y<256) {t:T2} (hr:mright t=true) {i j n:Nat} (hi:i<3) (hj:j<3) (hn:n<=8)
  (hu:8*(16*(x:Int))<=(q8 (pk t i) (pk t j) n).1/\ (q8 (pk t i) (pk t j) n).1<8*(16*(x:Int))+128) (hv:8*(16*(y:Int))<=(q8 (pk t i) (pk t j) n).2/\ (q8 (pk t i) (pk t j) n).2<8*(16*(y:Int))+128):RZ x y t=true:=by
 have b1:=Ik t hi
 have b2:=Ik t hj
 have c1:=WD hn b1.1 b2.1
 have c2:=WE hn b1.2 b2.2
 rw [NR hx hy hr]
 refine ⟨by unfold I0;omega,?_⟩
 have o1:=Ud t hi
 have o2:=Ud t hj
 clear b1 b2 c1 c2
 obtain ⟨a,b,c⟩:=t
 have hR:Right a b c:=by
  rw [vo] at hr
  exact of_decide_eq_true hr
 generalize pk (a,b,c) i=p at*
 generalize pk (a,b,c) j=q at*
 have Qp: ∀p∈Xe (16*(x:Int)) (16*(y:Int)),Sm p:=by
  intro p hp
  simp only [Xe,List.mem_cons,List.not_mem_nil,or_false] at hp
  rcases hp with rfl|rfl|rfl|rfl<;>(unfold Sm;dsimp only;omega)
 dsimp only at o1 o2
 rw [ML hR 0 _ Qp (by simp [Xe]),yV hn hu hv (yY o1) (yY o2),
  yV (a:=b) (b:=c) (c:=a) hn hu hv (yY (o1.elim (fun e=> .inr (.inr e)) fun h=>h.elim .inl fun e=> .inr (.inl e))) (yY (o2.elim (fun e=> .inr (.inr e)) fun h=>h.elim .inl fun e=> .inr (.inl e))),
  yV (a:=c) (b:=a) (c:=b) hn hu hv (yY (o1.elim (fun e=> .inr (.inl e)) fun h=>h.elim (fun e=> .inr (.inr e)) .inl)) (yY (o2.elim (fun e=> .inr (.inl e)) fun h=>h.elim (fun e=> .inr (.inr e)) .inl))]
 rfl
theorem jP.pt {p:U7} (h:jP p) {q:P2} (hq:q∈pts p.2.1):(0<=q.1/\ q.1<16*p.2.2.1)/\ 0<=q.2/\ q.2<16*p.2.2.2:=by
 have hl:=h.len
 have hs:=h.same
 rcases (Jy p.2.1 (by omega)).2 with ⟨e,_⟩|⟨_,e⟩|⟨_,Qp,lo,hi,hB,e⟩
 ·rw [e] at hq;simp [pts] at hq
 ·have:=h.ok;rw [e] at this;exact absurd this (by decide)
 ·have hz:=h.zero
  have hw:=h.w
  have hh:=h.h
  rw [e] at hz hw hh
  have hz:lo=z2:=hz
  subst hz
  have hw:p.2.2.1=Sz hi.1:=hw
  have hh:p.2.2.2=Sz hi.2:=hh
  have b1:=hB.low q hq
  have b2:=hB.high q hq
  obtain ⟨m1,Rq,e1⟩:=hB.h1
  obtain ⟨m2,V6,e2⟩:=hB.h2
  have s1:=Qp m1 Rq
  have s2:=Qp m2 V6
  dsimp only [z2] at b1
  have f1:Sz hi.1=hi.1 / 16+1:=by unfold Sz;rw [if_neg (by omega),if_neg (by omega)]
  have f2:Sz hi.2=hi.2 / 16+1:=by unfold Sz;rw [if_neg (by omega),if_neg (by omega)]
  rw [hw,hh,f1,f2]
  omega
def Vo (r:G5) (pad:Int) (p:P2):Prop:=(16*(r.1+pad)<=p.1/\ p.1<16*(r.1+r.2.2.1- pad))/\ 16*(r.2.1+pad)<=p.2/\ p.2<16*(r.2.1+r.2.2.2- pad)
theorem Mw {a:Cd} (hA:lG a) {j:Nat} (hj:j<a.2.2.2.1.length) {t:T2} (ht:t∈uz a.2.2.2.1 a.2.2.2.2 a.2.2.1 j) {k:Nat} (hk:k<3):Vo (a.2.2.2.2.getD j zR) a.2.2.1 (pk t k):=by
 obtain ⟨u,hu,rfl⟩:=List.mem_map.1 ht
 have hp:=hA.XM.all _ (fc hj zP)
 have hq:pk u k∈pts (a.2.2.2.1.getD j zP).2.1:=List.mem_flatMap.2 ⟨u,hu,Uc u hk⟩
 have hb:=hp.pt hq
 have S0:=hA.way hj
 have hs:=hA.Nj j hj
 have hs1:(a.2.2.2.2.getD j zR).2.2.1=(a.2.2.2.1.getD j zP).2.2.1+2*a.2.2.1:=congrArg Prod.fst hs
 have hs2:(a.2.2.2.2.getD j zR).2.2.2=(a.2.2.2.1.getD j zP).2.2.2+2*a.2.2.1:=congrArg Prod.snd hs
 have hd:=hp.X5
 have e:pk (EW (fun p=>jE (p,kF a.2.2.2.2 a.2.2.1 j)) u) k=jE (pk u k,kF a.2.2.2.2 a.2.2.1 j):=by
  unfold pk EW;split<;>(try split)<;>rfl
 rw [e]
 have e2:jE (pk u k,kF a.2.2.2.2 a.2.2.1 j)=((pk u k).1+(kF a.2.2.2.2 a.2.2.1 j).1,(pk u k).2+(kF a.2.2.2.2 a.2.2.1 j).2):=by
  unfold jE
  dsimp only
  rw [bf (n:=(pk u k).1+(kF a.2.2.2.2 a.2.2.1 j).1) (by omega) (by omega),bf (n:=(pk u k).2+(kF a.2.2.2.2 a.2.2.1 j).2) (by omega) (by omega)]
 rw [e2]
 unfold Vo
 dsimp only [kF]
 omega
theorem X1 {l:Ls} (hl:Vr l) (R:List G5) (pad:Int): ∀k,k<=l.length-> ∀i,i<(rI l R pad k).length-> ∃j,j<k/\ (yS l k).getD i 0=(j:Int)/\ (rI l R pad k).getD i zT∈uz l R pad j/\ (lI (l.take k)).getD i 0∈(l.getD j zP).1:=by
 intro k
 induction k with
 |zero=>intro _ i hi;simp [rI] at hi
 |succ k ih=>
  intro hk i hi
  obtain ⟨t1,t2,_⟩:=rJ hl R pad k (by omega)
  have hm:=zu l R pad k
  have hs:=(hl.all _ (fc (show k<l.length by omega) zP)).same
  rw [s8,List.length_append] at hi
  rw [s8,yT,iU (show k<l.length by omega) zP,tU]
  simp only [List.getD_eq_getElem?_getD]
  rcases Nat.lt_or_ge i (rI l R pad k).length with h1|h1
  ·obtain ⟨j,j1,j2,j3,j4⟩:=ih (by omega) i h1
   rw [List.getElem?_append_left (by omega),List.getElem?_append_left (by omega),List.getElem?_append_left (by omega)]
   simp only [List.getD_eq_getElem?_getD] at j2 j3 j4
   exact ⟨j,by omega,j2,j3,j4⟩
  ·refine ⟨k,by omega,?_,?_,?_⟩
   ·rw [List.getElem?_append_right (by omega),List.getElem?_replicate,if_pos (by rw [<- List.getD_eq_getElem?_getD];omega)];rfl
   ·rw [List.getElem?_append_right (by omega),List.getElem?_eq_getElem (by omega)]
    exact List.getElem_mem _
   ·rw [List.getElem?_append_right (by omega),List.getElem?_eq_getElem (show i- (lI (l.take k)).length<(l[k]?.getD zP).1.length by
     rw [<- List.getD_eq_getElem?_getD];omega)]
    exact List.getElem_mem _
theorem ZS {a:Cd} (hA:lG a) {i j:Nat} (hi:i<a.2.2.2.1.length) (hj:j<a.2.2.2.1.length) (hne:i≠j):Ph (a.2.2.2.2.getD i zR) (a.2.2.2.2.getD j zR):=by
 have hl:=hA.len
 rcases Nat.lt_or_gt_of_ne hne with h|h
 ·exact (hA.sh j (by omega)).2 i h
 ·exact ((hA.sh i (by omega)).2 j h).symm
theorem VP {r r':G5} {pad:Int} (hp:1<=pad) (hA:Ph r r') {p q:P2} (h1:Vo r pad p) (Zy:Vo r pad q) {n:Nat} (hn8:n<=8) {t:T2} (h2: ∀k,k<3->Vo r' pad (pk t k)) {X Y:Int} (hu:8*X<=(q8 p q n).1/\ (q8 p q n).1<8*X+128) (hv:8*Y<=(q8 p q n).2/\ (q8 p q n).2<8*Y+128) (hn:I0 X Y t):False:=by
 have a1:Vo r' pad t.1:=h2 0 (by omega)
 have a2:Vo r' pad t.2.1:=h2 1 (by omega)
 have a3:Vo r' pad t.2.2:=h2 2 (by omega)
 unfold Vo at a1 a2 a3 h1 Zy
 unfold Ph at hA
 unfold I0 at hn
 have c1:=WD hn8 (lo:=16*(r.1+pad)) (hi:=16*(r.1+r.2.2.1- pad)- 1) ⟨h1.1.1,by omega⟩ ⟨Zy.1.1,by omega⟩
 have c2:=WE hn8 (lo:=16*(r.2.1+pad)) (hi:=16*(r.2.1+r.2.2.2- pad)- 1) ⟨h1.2.1,by omega⟩ ⟨Zy.2.1,by omega⟩
 generalize (q8 p q n).1=u at*
 generalize (q8 p q n).2=v at*
 have m1:=da t.1.1 t.2.1.1
 have m2:=da (aO t.1.1 t.2.1.1) t.2.2.1
 have m3:=cZ t.1.1 t.2.1.1
 have m4:=cZ (aS t.1.1 t.2.1.1) t.2.2.1
 have m5:=da t.1.2 t.2.1.2
 have m6:=da (aO t.1.2 t.2.1.2) t.2.2.2
 have m7:=cZ t.1.2 t.2.1.2
 have m8:=cZ (aS t.1.2 t.2.1.2) t.2.2.2
 generalize aO (aO t.1.1 t.2.1.1) t.2.2.1=u1 at*
 generalize aS (aS t.1.1 t.2.1.1) t.2.2.1=u2 at*
 generalize aO (aO t.1.2 t.2.1.2) t.2.2.2=u3 at*
 generalize aS (aS t.1.2 t.2.1.2) t.2.2.2=u4 at*
 clear h1 Zy
 omega
theorem Ub {w h:Int} {t:T2} (hT:Ab w h t) {k:Nat} (hk:k<3):IY w h (pk t k):=by
 have:k=0\/ k=1\/ k=2:=by omega
 rcases this with rfl|rfl|rfl
 ·exact hT.1
 ·exact hT.2.1
 ·exact hT.2.2
theorem Po {w h:Int} (hw:uc w) (hh:uc h) {t:T2} (hT:Ab w h t) {i j n:Nat} (hi:i<3) (hj:j<3) (hn:n<=8) {x y:Nat}
  (hu:8*(16*(x:Int))<=(q8 (pk t i) (pk t j) n).1/\ (q8 (pk t i) (pk t j) n).1<8*(16*(x:Int))+128) (hv:8*(16*(y:Int))<=(q8 (pk t i) (pk t j) n).2/\ (q8 (pk t i) (pk t j) n).2<8*(16*(y:Int))+128):Lo t x y:=by
 have p1:=Ik t hi
 have p2:=Ik t hj
 have s1:=WD hn p1.1 p2.1
 have s2:=WE hn p1.2 p2.2
 clear p1 p2
 obtain ⟨q1,q2,q3⟩:=hT
 obtain ⟨⟨b1,b2,b3,b4,b5⟩,b6,b7,b8,b9,Es⟩:=B4 hw q1.1 q2.1 q3.1
 obtain ⟨⟨c1,c2,c3,c4,c5⟩,c6,c7,c8,c9,Cu⟩:=B4 hh q1.2 q2.2 q3.2
 have d1:Oj t=_:=b1
 have d2:Vd t=_:=b6
 have d3:Ol t=_:=c1
 have d4:Ve t=_:=c6
 have m1:=cZ (aj (Oj t- 1)) 0
 have m2:=cZ (aj (Ol t- 1)) 0
 obtain ⟨w1,w2⟩:=hw
 obtain ⟨h1,h2⟩:=hh
 have r1:=q1.1
 have r2:=q1.2
 have e1:aj (Oj t- 1)=Oj t- 1:=bf (by rw [d1];omega) (by rw [d1];omega)
 have e2:aj (Ol t- 1)=Ol t- 1:=bf (by rw [d3];omega) (by rw [d3];omega)
 rw [e1] at m1
 rw [e2] at m2
 unfold Lo
 rw [e1,e2]
 clear b1 b6 c1 c6 e1 e2
 refine ⟨⟨?_,?_⟩,?_,?_⟩
 ·rw [d1] at m1 ⊢;omega
 ·rw [d2];omega
 ·rw [d3] at m2 ⊢;omega
 ·rw [d4];omega
end Go.Proofs.YtojielnkfeoccaaGreat
