/- Sorting, plain: the patterns that are broken. -/
import Derived.Test.YtlkgabjhkfhgaaaGreatTf
noncomputable section
set_option linter.unusedSectionVars false
set_option linter.unusedVariables false
set_option linter.unusedSimpArgs false
namespace Go.Proofs.YtlkgabjhkfhgaaaGreat
open Go Go.Ev Go.Proofs
theorem u8w (n:Int):IntKind.wrap IntKind.u8 n=n % 256:=by simp [IntKind.wrap,IntKind.bits,IntKind.signed]
theorem SS (n:Int):IntKind.wrap IntKind.u64 n=n % 18446744073709551616:=by simp [IntKind.wrap,IntKind.bits,IntKind.signed]
theorem fdN (n c:Nat):Int.fdiv (n:Int) (c:Int)=((n / c:Nat):Int):=by
 rw [Int.fdiv_eq_ediv_of_nonneg _ (Int.natCast_nonneg c)];rfl
def tB (T:ByteArray) (k:Int) (z:Int):Int:=ae (k+(ae (((UInt8.toNat (ByteArray.get! T (Int.toNat (IntKind.wrap IntKind.u8 z)))):Nat):Int)))
def AH:ByteArray:=⟨((List.range 256).map fun b=>UInt8.ofNat (if b=0 then 0 else Nat.log2 b+1)).toArray⟩
theorem PN: ∀b,b<256->UInt8.toNat (ByteArray.get! AH b)<=8/\ (0<b->2^UInt8.toNat (ByteArray.get! AH b)<=2*b):=by decide+kernel
theorem Xi (x:Int):BF x=
  (if (x>=(4294967296:Int)) then
   (if ((Int.fdiv x (4294967296:Int))>=(65536:Int)) then
    (if ((Int.fdiv (Int.fdiv x (4294967296:Int)) (65536:Int))>=(256:Int)) then tB AH 56 (Int.fdiv (Int.fdiv (Int.fdiv x (4294967296:Int)) (65536:Int)) (256:Int)) else tB AH 48 (Int.fdiv (Int.fdiv x (4294967296:Int)) (65536:Int))) else
    (if ((Int.fdiv x (4294967296:Int))>=(256:Int)) then tB AH 40 (Int.fdiv (Int.fdiv x (4294967296:Int)) (256:Int)) else tB AH 32 (Int.fdiv x (4294967296:Int)))) else
   (if (x>=(65536:Int)) then
    (if ((Int.fdiv x (65536:Int))>=(256:Int)) then tB AH 24 (Int.fdiv (Int.fdiv x (65536:Int)) (256:Int)) else tB AH 16 (Int.fdiv x (65536:Int))) else
    (if (x>=(256:Int)) then tB AH 8 (Int.fdiv x (256:Int)) else tB AH 0 x))):=by kernel_rfl
theorem Rs: ∃T:ByteArray,(∀b,b<256->UInt8.toNat (ByteArray.get! T b)<=8/\ (0<b->2^UInt8.toNat (ByteArray.get! T b)<=2*b))/\ ∀x,BF x=
  (if (x>=(4294967296:Int)) then
   (if ((Int.fdiv x (4294967296:Int))>=(65536:Int)) then
    (if ((Int.fdiv (Int.fdiv x (4294967296:Int)) (65536:Int))>=(256:Int)) then tB T 56 (Int.fdiv (Int.fdiv (Int.fdiv x (4294967296:Int)) (65536:Int)) (256:Int)) else tB T 48 (Int.fdiv (Int.fdiv x (4294967296:Int)) (65536:Int))) else
    (if ((Int.fdiv x (4294967296:Int))>=(256:Int)) then tB T 40 (Int.fdiv (Int.fdiv x (4294967296:Int)) (256:Int)) else tB T 32 (Int.fdiv x (4294967296:Int)))) else
   (if (x>=(65536:Int)) then
    (if ((Int.fdiv x (65536:Int))>=(256:Int)) then tB T 24 (Int.fdiv (Int.fdiv x (65536:Int)) (256:Int)) else tB T 16 (Int.fdiv x (65536:Int))) else
    (if (x>=(256:Int)) then tB T 8 (Int.fdiv x (256:Int)) else tB T 0 x))):=⟨AH,PN,Xi⟩
theorem su {T:ByteArray} (hT: ∀b,b<256->UInt8.toNat (ByteArray.get! T b)<=8/\ (0<b->2^UInt8.toNat (ByteArray.get! T b)<=2*b)) (k b n:Nat) (hb:0<b) (fc:b<256) (hk:k<=56) (hn:2^k*b<=n):
  ∃y:Nat,tB T (k:Int) (b:Int)=(y:Int)/\ y<=64/\ 2^y<=2*n:=by
 obtain ⟨h1,h2⟩:=hT b fc
 refine ⟨k+UInt8.toNat (ByteArray.get! T b),?_,by omega,?_⟩
 ·unfold tB
  rw [u8w,show ((b:Int) % 256)=(b:Int) by omega,Int.toNat_natCast,aL (n:=((UInt8.toNat (ByteArray.get! T b):Nat):Int)) (by omega) (by omega),aL (by omega) (by omega)]
  omega
 ·rw [Nat.pow_add]
  calc 2^k*2^UInt8.toNat (ByteArray.get! T b)<=2^k*(2*b):=Nat.mul_le_mul_left _ (h2 hb)
   _=2*(2^k*b):=by rw [Nat.mul_left_comm]
   _<=2*n:=by omega
theorem Uu (n:Nat) (h:0<n) (hn:n<9223372036854775808):kf (n:Int)/\ ∃y:Nat,BF (n:Int)=(y:Int)/\ y<=64/\ 2^y<=2*n:=by
 obtain ⟨T,hT,hx⟩:=Rs
 have f1: ∀m:Nat,Int.fdiv (m:Int) 4294967296=((m / 4294967296:Nat):Int):=fun m=>fdN m 4294967296
 have f2: ∀m:Nat,Int.fdiv (m:Int) 65536=((m / 65536:Nat):Int):=fun m=>fdN m 65536
 have f3: ∀m:Nat,Int.fdiv (m:Int) 256=((m / 256:Nat):Int):=fun m=>fdN m 256
 refine ⟨?_,?_⟩
 ·simp only [kf,u8w]
  repeat' (first|with_reducible apply And.intro|intro _)
  all_goals omega
 ·rw [hx]
  simp only [f1,f2,f3]
  repeat' split
  ·exact su hT 56 _ n (by omega) (by omega) (by omega) (by simp only [Nat.reducePow];omega)
  ·exact su hT 48 _ n (by omega) (by omega) (by omega) (by simp only [Nat.reducePow];omega)
  ·exact su hT 40 _ n (by omega) (by omega) (by omega) (by simp only [Nat.reducePow];omega)
  ·exact su hT 32 _ n (by omega) (by omega) (by omega) (by simp only [Nat.reducePow];omega)
  ·exact su hT 24 _ n (by omega) (by omega) (by omega) (by simp only [Nat.reducePow];omega)
  ·exact su hT 16 _ n (by omega) (by omega) (by omega) (by simp only [Nat.reducePow];omega)
  ·exact su hT 8 _ n (by omega) (by omega) (by omega) (by simp only [Nat.reducePow];omega)
  ·exact su hT 0 _ n (by omega) (by omega) (by omega) (by simp only [Nat.reducePow];omega)
theorem RI (n:Nat) (h:0<n) (hn:n<4611686018427387904):ta (n:Int)/\ ∃m:Nat,IB (n:Int)=(m:Int)/\ 0<m/\ m<=2*n:=by
 obtain ⟨h1,y,h2,h3,h4⟩:=Uu n h (by omega)
 have e:IntKind.wrap IntKind.u64 (n:Int)=(n:Int):=by rw [SS];omega
 have hp:0<2^y:=Nat.two_pow_pos y
 refine ⟨?_,2^y,?_,hp,h4⟩
 ·simp only [ta,vM,Iu,az,ai,e,h2]
  exact ⟨h1,by omega⟩
 ·simp only [IB,Iu,ai,e,h2,Int.toNat_natCast,SS,Int.one_mul]
  rw [Nat.min_eq_left h3]
  have:((2:Int)^y)=((2^y:Nat):Int):=by push_cast;rfl
  rw [this]
  omega
theorem P0 (x:List Int×Int×Int×RT) (a b m:Nat) (hx:x.2.1=(a:Int)) (pR:x.2.2.1=(b:Int)) (h8:8<=b- a) (hm:0<m) (Tf:m<=2*(b- a)): ∀(n:Nat) (d:List Int) (s:Int) (i:Nat),cr x.2.2.2 d->b<=d.length->a<=i->(a+(b- a) / 4*2+1)+1- i<=n->
  TR (dI x) (iE x) (d,(s,((m:Int),(i:Int)))) fun r=>Out x.2.2.2 d a b r:=by
 intro n
 induction n with
 |zero=>
  intro d s i hf hb hi hn
  have hl:=hf.len
  have e:ae ((b:Int)- (a:Int))=((b- a:Nat):Int):=bT (by omega) (by omega)
  have e0:ae (Int.tdiv ((b- a:Nat):Int) 4)=(((b- a) / 4:Nat):Int):=bT (by rw [Int.tdiv_eq_ediv_of_nonneg (by omega)];omega) (by omega)
  have m2:ae ((((b- a) / 4:Nat):Int)*2)=(((b- a) / 4*2:Nat):Int):=bT (by omega) (by omega)
  have n2:ae ((a:Int)+(((b- a) / 4*2:Nat):Int))=((a+(b- a) / 4*2:Nat):Int):=bT (by omega) (by omega)
  have n3:ae (((a+(b- a) / 4*2:Nat):Int)+1)=((a+(b- a) / 4*2+1:Nat):Int):=bT (by omega) (by omega)
  refine TR.stop (r:=d) ?_ ?_ ⟨Sort.permIn_refl _ _ _,rfl,hf⟩
  ·simp only [iE,hx,pR,e,e0,m2,n2,n3];intro h;exfalso;omega
  ·simp only [dI,hx,pR,e,e0,m2,n2,n3];rw [if_neg (by omega)]
 |succ n ih=>
  intro d s i hf hb hi hn
  have hl:=hf.len
  have e:ae ((b:Int)- (a:Int))=((b- a:Nat):Int):=bT (by omega) (by omega)
  have e0:ae (Int.tdiv ((b- a:Nat):Int) 4)=(((b- a) / 4:Nat):Int):=bT (by rw [Int.tdiv_eq_ediv_of_nonneg (by omega)];omega) (by omega)
  have m2:ae ((((b- a) / 4:Nat):Int)*2)=(((b- a) / 4*2:Nat):Int):=bT (by omega) (by omega)
  have n2:ae ((a:Int)+(((b- a) / 4*2:Nat):Int))=((a+(b- a) / 4*2:Nat):Int):=bT (by omega) (by omega)
  have n3:ae (((a+(b- a) / 4*2:Nat):Int)+1)=((a+(b- a) / 4*2+1:Nat):Int):=bT (by omega) (by omega)
  by_cases hc:i<=a+(b- a) / 4*2+1
  ·have ho:BitVec.toNat ((BitVec.ofInt 64 (EJ s).1)&&&(BitVec.ofInt 64 (IntKind.wrap IntKind.u64 ((m:Int)- 1))))<2*(b- a):=by
    rw [BitVec.toNat_and]
    refine Nat.lt_of_le_of_lt Nat.and_le_right ?_
    have e5:IntKind.wrap IntKind.u64 ((m:Int)- 1)=((m- 1:Nat):Int):=by rw [SS];omega
    rw [e5,BitVec.ofInt_natCast,BitVec.toNat_ofNat]
    exact Nat.lt_of_le_of_lt (Nat.mod_le _ _) (by omega)
   obtain ⟨o,hoe⟩: ∃o,o=BitVec.toNat ((BitVec.ofInt 64 (EJ s).1)&&&(BitVec.ofInt 64 (IntKind.wrap IntKind.u64 ((m:Int)- 1)))):=⟨_,rfl⟩
   rw [<- hoe] at ho
   have e6:ae (IntKind.wrap IntKind.u64 (o:Int))=(o:Int):=by rw [SS];exact bT (by omega) (by omega)
   have e7:ae ((i:Int)+1)=((i+1:Nat):Int):=bT (by omega) (by omega)
   obtain ⟨j,hj⟩: ∃j,j=if o>=b- a then a+(o- (b- a)) else a+o:=⟨_,rfl⟩
   have hj1:a<=j/\ j<b:=by rw [hj];split<;>omega
   have hs:=Sort.swp_permIn d.toArray a b i j hi (by omega) hj1.1 hj1.2 (by simpa using hb)
   refine TR.go (s':=(sw d i j,((EJ s).2,((m:Int),((i+1:Nat):Int))))) ?_ ?_ ((ih _ _ (i+1) (hf.sw (i:=i) (j:=j) (by omega) (by omega)) (by rw [cf];omega) (by omega) (by omega)).mono fun r hr=>⟨Sort.permIn_trans _ _ _ _ _ hs (by rw [<- ia];exact hr.1),by rw [hr.2.1,cf],hr.2.2⟩)
   ·simp only [iE,az,hx,pR,e,e0,m2,n2,n3,←hoe,e6,List.length_set,Int.toNat_natCast]
    intro _
    refine ⟨fun h=> ?_,fun h=> ?_⟩
    ·have e8:ae ((o:Int)- ((b- a:Nat):Int))=((o- (b- a):Nat):Int):=bT (by omega) (by omega)
     have e9:ae ((a:Int)+((o- (b- a):Nat):Int))=((a+(o- (b- a)):Nat):Int):=bT (by omega) (by omega)
     simp only [e8,e9,Int.toNat_natCast]
     repeat' (first|with_reducible apply And.intro|intro _)
     all_goals omega
    ·have e9:ae ((a:Int)+(o:Int))=((a+o:Nat):Int):=bT (by omega) (by omega)
     simp only [e9,Int.toNat_natCast]
     repeat' (first|with_reducible apply And.intro|intro _)
     all_goals omega
   ·simp only [dI,ai,hx,pR,e,e0,m2,n2,n3,←hoe,e6,e7,Int.toNat_natCast]
    rw [if_pos (by omega)]
    by_cases h:o>=b- a
    ·have e8:ae ((o:Int)- ((b- a:Nat):Int))=((o- (b- a):Nat):Int):=bT (by omega) (by omega)
     have e9:ae ((a:Int)+((o- (b- a):Nat):Int))=((a+(o- (b- a)):Nat):Int):=bT (by omega) (by omega)
     rw [if_pos (by omega),hj,if_pos h]
     simp only [e8,e9,Int.toNat_natCast];rfl
    ·have e9:ae ((a:Int)+(o:Int))=((a+o:Nat):Int):=bT (by omega) (by omega)
     rw [if_neg (by omega),hj,if_neg h]
     simp only [e9,Int.toNat_natCast];rfl
  ·refine TR.stop (r:=d) ?_ ?_ ⟨Sort.permIn_refl _ _ _,rfl,hf⟩
   ·simp only [iE,hx,pR,e,e0,m2,n2,n3];intro h;exfalso;omega
   ·simp only [dI,hx,pR,e,e0,m2,n2,n3];rw [if_neg (by omega)]
theorem TA {r:RT} {d:List Int} (hf:cr r d) {a b:Nat} (hab:a<=b) (hb:b<=d.length):
  oK (d,((a:Int),((b:Int),r)))/\ Out r d a b (HA (d,((a:Int),((b:Int),r)))).2.1:=by
 have hl:=hf.len
 have e:ae ((b:Int)- (a:Int))=((b- a:Nat):Int):=bT (by omega) (by omega)
 have e0:ae (Int.tdiv ((b- a:Nat):Int) 4)=(((b- a) / 4:Nat):Int):=bT (by rw [Int.tdiv_eq_ediv_of_nonneg (by omega)];omega) (by omega)
 have m2:ae ((((b- a) / 4:Nat):Int)*2)=(((b- a) / 4*2:Nat):Int):=bT (by omega) (by omega)
 have n2:ae ((a:Int)+(((b- a) / 4*2:Nat):Int))=((a+(b- a) / 4*2:Nat):Int):=bT (by omega) (by omega)
 by_cases h8:8<=b- a
 ·have n3:ae (((a+(b- a) / 4*2:Nat):Int)- 1)=((a+(b- a) / 4*2- 1:Nat):Int):=bT (by omega) (by omega)
  obtain ⟨p1,m,p2,p3,p4⟩:=RI (b- a) (by omega) (by omega)
  obtain ⟨h1,h2⟩:=P0 (d,((a:Int),((b:Int),r))) a b m rfl rfl h8 p3 p4 _ d (IntKind.wrap IntKind.u64 ((b- a:Nat):Int)) (a+(b- a) / 4*2- 1) hf hb (by omega) (Nat.le_refl _)
  refine ⟨?_,?_⟩
  ·simp only [oK,az,e,e0,m2,n2,n3,p2]
   exact ⟨fun _=>⟨p1,h1,h2.2.1⟩,fun _=>by first|trivial|rfl⟩
  ·simp only [HA,ai,e,e0,m2,n2,n3,p2]
   rw [if_pos (by omega)]
   exact h2
 ·refine ⟨?_,?_⟩
  ·simp only [oK,az,e]
   exact ⟨fun h=>absurd h (show¬((b- a:Nat):Int)>=8 by omega),fun _=>by first|trivial|rfl⟩
  ·simp only [HA,ai,e]
   rw [if_neg (by omega)]
   exact ⟨Sort.permIn_refl _ _ _,rfl,hf⟩
end Go.Proofs.YtlkgabjhkfhgaaaGreat
namespace Go.Proofs.YtlkgabjhkfhgaaaGreat
open Go Go.Ev Go.Proofs
theorem GL {S R:Type} [Inhabited R] {step:S->S⊕R} {pre:S->Prop} (st:Nat->S) (out:Nat->R) (p:Int->Bool) (d:List Int) (lo j:Nat)
  (hp: ∀i,lo<=i->i<=j+2->pre (st i)) (h1: ∀i,lo<=i->i<=j->p (d.getD i 0)=true->step (st i)= .inl (st (i+1)))
  (h2: ∀i,lo<=i->i<=j+2-> ¬(i<=j/\ p (d.getD i 0)=true)->step (st i)= .inr (out i)):
  ∀(n i:Nat),lo<=i->i<=j+2->j+1- i<=n->TR step pre (st i) fun r=>r=out (Sort.scanUp p d.toArray j i)/\ i<=Sort.scanUp p d.toArray j i/\ Sort.scanUp p d.toArray j i<=j+2:=by
 intro n
 induction n with
 |zero=>
  intro i hi hij hn
  have hc: ¬(i<=j/\ p (d.getD i 0)=true):=fun h=>by omega
  have e:Sort.scanUp p d.toArray j i=i:=by rw [Sort.scanUp,aS,if_neg (by rw [Bool.and_eq_true,decide_eq_true_eq];exact hc)]
  exact TR.stop (hp i hi hij) (h2 i hi hij hc) ⟨by rw [e],by rw [e];omega,by rw [e];omega⟩
 |succ n ih=>
  intro i hi hij hn
  by_cases hc:i<=j/\ p (d.getD i 0)=true
  ·have e:Sort.scanUp p d.toArray j i=Sort.scanUp p d.toArray j (i+1):=by rw [Sort.scanUp,aS,if_pos (by rw [Bool.and_eq_true,decide_eq_true_eq];exact hc)]
   rw [e]
   exact TR.go (hp i hi hij) (h1 i hi hc.1 hc.2) ((ih (i+1) (by omega) (by omega) (by omega)).mono fun r hr=>⟨hr.1,by omega,hr.2.2⟩)
  ·have e:Sort.scanUp p d.toArray j i=i:=by rw [Sort.scanUp,aS,if_neg (by rw [Bool.and_eq_true,decide_eq_true_eq];exact hc)]
   exact TR.stop (hp i hi hij) (h2 i hi hij hc) ⟨by rw [e],by rw [e];omega,by rw [e];omega⟩
theorem ye {S R:Type} [Inhabited R] {step:S->S⊕R} {pre:S->Prop} (st:Nat->S) (out:Nat->R) (p:Int->Bool) (d:List Int) (hi i:Nat) (h0:1<=i)
  (hp: ∀j,j<=hi->pre (st j)) (h1: ∀j,j+1<=hi->i<=j+1->p (d.getD (j+1) 0)=true->step (st (j+1))= .inl (st j))
  (h2: ∀j,j<=hi-> ¬(i<=j/\ p (d.getD j 0)=true)->step (st j)= .inr (out j)):
  ∀(j:Nat),j<=hi->i<=j+2->TR step pre (st j) fun r=>r=out (Sort.scanDown p d.toArray i j)/\ Sort.scanDown p d.toArray i j<=j/\ i<=Sort.scanDown p d.toArray i j+2:=by
 intro j
 induction j with
 |zero=>
  intro hj hij
  exact TR.stop (hp 0 hj) (h2 0 hj fun h=>by omega) ⟨by rw [Sort.scanDown],by rw [Sort.scanDown];omega,by rw [Sort.scanDown];omega⟩
 |succ j ih=>
  intro hj hij
  by_cases hc:i<=j+1/\ p (d.getD (j+1) 0)=true
  ·have e:Sort.scanDown p d.toArray i (j+1)=Sort.scanDown p d.toArray i j:=by rw [Sort.scanDown,aS,if_pos (by rw [Bool.and_eq_true,decide_eq_true_eq];exact hc)]
   rw [e]
   exact TR.go (hp _ hj) (h1 j hj hc.1 hc.2) ((ih (by omega) (by omega)).mono fun r hr=>⟨hr.1,by omega,hr.2.2⟩)
  ·have e:Sort.scanDown p d.toArray i (j+1)=j+1:=by rw [Sort.scanDown,aS,if_neg (by rw [Bool.and_eq_true,decide_eq_true_eq];exact hc)]
   exact TR.stop (hp _ hj) (h2 _ hj hc) ⟨by rw [e],by rw [e];omega,by rw [e];omega⟩
theorem Mq (r:RT) (x y:Int):((!(decide (jQ (r,(x,y))<0)))=true)↔(!cW r x y)=true:=by unfold cW;simp
section
variable {x:List Int×Int×Int×Int×RT} {a:Nat}
theorem ZB (hx:x.2.1=(a:Int)) {d:List Int} (hf:cr x.2.2.2.2 d) {j:Nat} (ha:a<d.length) (hj:j<d.length) {i:Nat} (hi:i<=j+2):
  TR (dF x) (lR x) (d,((i:Int),(j:Int))) fun r=>r=(d,(((Sort.scanUp (fun y=> !cW x.2.2.2.2 (d.getD a 0) y) d.toArray j i:Nat):Int),(j:Int)))/\ i<=Sort.scanUp (fun y=> !cW x.2.2.2.2 (d.getD a 0) y) d.toArray j i/\ Sort.scanUp (fun y=> !cW x.2.2.2.2 (d.getD a 0) y) d.toArray j i<=j+2:=by
 have hl:=hf.len
 refine GL (fun i=>(d,((i:Int),(j:Int)))) (fun i=>(d,((i:Int),(j:Int)))) _ d 0 j (fun i _ hi=> ?_) (fun i _ hi h=> ?_) (fun i _ hi h=> ?_) _ i (by omega) hi (Nat.le_refl _)
 ·simp only [lR,hx,Int.toNat_natCast]
  intro h
  refine ⟨?_,?_,?_,?_,?_,?_,hf.LS ha (by omega)⟩<;>omega
 ·simp only [dF,ai,hx,Int.toNat_natCast]
  rw [if_pos (by omega),if_pos ((Mq _ _ _).2 h),bT (n:=(i:Int)+1) (m:=i+1) (by omega) (by omega)]
 ·simp only [dF,ai,hx,Int.toNat_natCast]
  by_cases hc:i<=j
  ·rw [if_pos (by omega),if_neg (fun h'=>h ⟨hc,(Mq _ _ _).1 h'⟩)]
  ·rw [if_neg (by omega)]
theorem U0 (hx:x.2.1=(a:Int)) {d:List Int} (hf:cr x.2.2.2.2 d) {i:Nat} (h0:1<=i) (ha:a<d.length) {j:Nat} (hj:j<d.length) (hi:i<=j+2):
  TR (dG x) (lS x) (d,((i:Int),(j:Int))) fun r=>r=(d,((i:Int),((Sort.scanDown (fun y=>cW x.2.2.2.2 (d.getD a 0) y) d.toArray i j:Nat):Int)))/\ Sort.scanDown (fun y=>cW x.2.2.2.2 (d.getD a 0) y) d.toArray i j<=j/\ i<=Sort.scanDown (fun y=>cW x.2.2.2.2 (d.getD a 0) y) d.toArray i j+2:=by
 have hl:=hf.len
 refine ye (fun j=>(d,((i:Int),(j:Int)))) (fun j=>(d,((i:Int),(j:Int)))) _ d j i h0 (fun j hj=> ?_) (fun j hj hi h=> ?_) (fun j hj h=> ?_) j (Nat.le_refl _) hi
 ·simp only [lS,hx,Int.toNat_natCast]
  intro h
  refine ⟨?_,?_,?_,?_,?_,?_,hf.LS ha (by omega)⟩<;>omega
 ·simp only [dG,ai,hx,Int.toNat_natCast]
  rw [if_pos (by omega),if_pos ((jr _ _ _).2 h),bT (n:=((j+1:Nat):Int)- 1) (m:=j) (by omega) (by omega)]
 ·simp only [dG,ai,hx,Int.toNat_natCast]
  by_cases hc:i<=j
  ·rw [if_pos (by omega),if_neg (fun h'=>h ⟨hc,(jr _ _ _).1 h'⟩)]
  ·rw [if_neg (by omega)]
theorem U3 (hx:x.2.1=(a:Int)): ∀(n:Nat) (d:List Int) (i j:Nat),cr x.2.2.2.2 d->1<=i->a<d.length->j<d.length->i<=j+2->j+1- i<=n->
  TR (cx x) (iQ x) (d,((i:Int),(j:Int))) fun r=>r.1.toArray=(Sort.partEqLoop (cW x.2.2.2.2) a i j d.toArray).2/\ r.2=((Sort.partEqLoop (cW x.2.2.2.2) a i j d.toArray).1:Int)/\ r.1.length=d.length/\ cr x.2.2.2.2 r.1:=by
 intro n
 induction n using Nat.strongRecOn with
 |ind n ih=>
 intro d i j hf h0 ha hj hij hn
 have hl:=hf.len
 obtain ⟨u1,u2,u3,u4⟩:=ZB hx hf ha hj hij
 obtain ⟨i2,Kr⟩: ∃i2,i2=Sort.scanUp (fun y=> !cW x.2.2.2.2 (d.getD a 0) y) d.toArray j i:=⟨_,rfl⟩
 rw [<- Kr] at u2 u3 u4
 obtain ⟨v1,v2,v3,v4⟩:=U0 hx hf (i:=i2) (by omega) ha hj (by omega)
 obtain ⟨j2,QJ⟩: ∃j2,j2=Sort.scanDown (fun y=>cW x.2.2.2.2 (d.getD a 0) y) d.toArray i2 j:=⟨_,rfl⟩
 rw [<- QJ] at v2 v3 v4
 have hE:Sort.partEqLoop (cW x.2.2.2.2) a i j d.toArray=if i2>j2 then (i2,d.toArray) else Sort.partEqLoop (cW x.2.2.2.2) a (i2+1) (j2- 1) (Sort.swp d.toArray i2 j2):=by
  rw [Sort.partEqLoop]
  simp only [aS,<- Kr,<- QJ]
  by_cases hc:i2>j2
  ·rw [if_pos hc,if_pos hc]
  ·rw [if_neg hc,if_neg hc,dif_pos (by omega)]
 by_cases hc:i2>j2
 ·refine TR.stop (r:=(d,(i2:Int))) ?_ ?_ ?_
  ·simp only [iQ,az,u2,v2]
   exact ⟨u1,v1,fun h=>absurd (show (i2:Int)>(j2:Int) by omega) h⟩
  ·simp only [cx,ai,u2,v2]
   rw [if_pos (by omega)]
  ·rw [hE,if_pos hc];exact ⟨rfl,rfl,rfl,hf⟩
 ·refine TR.go (s':=(sw d i2 j2,(((i2+1:Nat):Int),((j2- 1:Nat):Int)))) ?_ ?_ ((ih (j2- 1+1- (i2+1)) (by omega) (sw d i2 j2) (i2+1) (j2- 1) (hf.sw (i:=i2) (j:=j2) (by omega) (by omega)) (by omega) (by rw [cf];omega) (by rw [cf];omega) (by omega) (Nat.le_refl _)).mono fun r hr=> ?_)
  ·simp only [iQ,az,u2,v2,List.length_set,Int.toNat_natCast]
   refine ⟨u1,v1,fun _=> ?_⟩
   refine ⟨?_,?_,?_,?_,?_,?_,?_,?_,?_,?_,?_,?_⟩<;>omega
  ·simp only [cx,ai,u2,v2,Int.toNat_natCast]
   rw [if_neg (by omega),bT (n:=(i2:Int)+1) (m:=i2+1) (by omega) (by omega),bT (n:=(j2:Int)- 1) (m:=j2- 1) (by omega) (by omega)]
   rfl
  ·rw [hE,if_neg hc,←ia]
   rw [cf] at hr
   exact hr
end
theorem Xy {r:RT} {d:List Int} (hf:cr r d) {a b p:Nat} (hap:a<=p) (QN:p<b) (hb:b<=d.length):
  b7 (d,((a:Int),((b:Int),((p:Int),r))))/\ (dN (d,((a:Int),((b:Int),((p:Int),r))))).1=((Sort.partitionEqual (cW r) d.toArray a b p).1:Int)/\
   (dN (d,((a:Int),((b:Int),((p:Int),r))))).2.1.toArray=(Sort.partitionEqual (cW r) d.toArray a b p).2/\ (dN (d,((a:Int),((b:Int),((p:Int),r))))).2.1.length=d.length/\ cr r (dN (d,((a:Int),((b:Int),((p:Int),r))))).2.1:=by
 have hl:=hf.len
 have e1:ae ((a:Int)+1)=((a+1:Nat):Int):=bT (by omega) (by omega)
 have e2:ae ((b:Int)- 1)=((b- 1:Nat):Int):=bT (by omega) (by omega)
 have hs:=hf.sw (i:=a) (j:=p) (by omega) (by omega)
 obtain ⟨h1,h2,h3,h4,h5⟩:=U3 (x:=(d,((a:Int),((b:Int),((p:Int),r))))) (a:=a) rfl _ (sw d a p) (a+1) (b- 1) hs (by omega) (by rw [cf];omega) (by rw [cf];omega) (by omega) (Nat.le_refl _)
 rw [ia] at h2 h3
 rw [cf] at h4
 have e:dN (d,((a:Int),((b:Int),((p:Int),r))))=((run (cx (d,((a:Int),((b:Int),((p:Int),r))))) (sw d a p,(((a+1:Nat):Int),((b- 1:Nat):Int)))).2,((run (cx (d,((a:Int),((b:Int),((p:Int),r))))) (sw d a p,(((a+1:Nat):Int),((b- 1:Nat):Int)))).1,(false,(false,(false,false))))):=by
  simp only [dN,ai,e1,e2,Int.toNat_natCast];rfl
 rw [e]
 refine ⟨?_,h3,h2,h4,h5⟩
 simp only [b7,az,e1,e2,List.length_set,Int.toNat_natCast]
 refine ⟨?_,?_,?_,?_,?_,?_,?_,?_,?_,?_,?_,?_,h1,h4⟩<;>omega
end Go.Proofs.YtlkgabjhkfhgaaaGreat
namespace Go.Proofs.YtlkgabjhkfhgaaaGreat
open Go Go.Ev Go.Proofs
section
variable {x:List Int×Int×Int×Int×RT} {a:Nat}
theorem XE {b:Nat} (hx:x.2.1=(a:Int)) (pR:x.2.2.1=(b:Int)) {d:List Int} (hf:cr x.2.2.2.2 d) (ha:a<d.length) (hb:b<=d.length) (h0:0<b) {i:Nat} (hi:i<=b- 1+2):
  TR (ew x) (mU x) (d,(i:Int)) fun r=>r=(d,((Sort.scanUp (fun y=>cW x.2.2.2.2 y (d.getD a 0)) d.toArray (b- 1) i:Nat):Int))/\ i<=Sort.scanUp (fun y=>cW x.2.2.2.2 y (d.getD a 0)) d.toArray (b- 1) i/\ Sort.scanUp (fun y=>cW x.2.2.2.2 y (d.getD a 0)) d.toArray (b- 1) i<=b- 1+2:=by
 have hl:=hf.len
 have e2:ae ((b:Int)- 1)=((b- 1:Nat):Int):=bT (by omega) (by omega)
 refine GL (fun i=>(d,(i:Int))) (fun i=>(d,(i:Int))) _ d 0 (b- 1) (fun i _ hi=> ?_) (fun i _ hi h=> ?_) (fun i _ hi h=> ?_) _ i (by omega) hi (Nat.le_refl _)
 ·simp only [mU,hx,pR,e2,Int.toNat_natCast]
  intro h
  refine ⟨?_,?_,?_,?_,?_,?_,hf.LS (by omega) ha⟩<;>omega
 ·simp only [ew,ai,hx,pR,e2,Int.toNat_natCast]
  rw [if_pos (by omega),if_pos ((jr _ _ _).2 h),bT (n:=(i:Int)+1) (m:=i+1) (by omega) (by omega)]
 ·simp only [ew,ai,hx,pR,e2,Int.toNat_natCast]
  by_cases hc:i<=b- 1
  ·rw [if_pos (by omega),if_neg (fun h'=>h ⟨hc,(jr _ _ _).1 h'⟩)]
  ·rw [if_neg (by omega)]
theorem Sb (hx:x.2.1=(a:Int)) {d:List Int} (hf:cr x.2.2.2.2 d) {i:Nat} (h0:1<=i) (ha:a<d.length) {j:Nat} (hj:j<d.length) (hi:i<=j+2):
  TR (eA x) (mV x) (d,((i:Int),(j:Int))) fun r=>r=(d,((i:Int),((Sort.scanDown (fun y=> !cW x.2.2.2.2 y (d.getD a 0)) d.toArray i j:Nat):Int)))/\ Sort.scanDown (fun y=> !cW x.2.2.2.2 y (d.getD a 0)) d.toArray i j<=j/\ i<=Sort.scanDown (fun y=> !cW x.2.2.2.2 y (d.getD a 0)) d.toArray i j+2:=by
 have hl:=hf.len
 refine ye (fun j=>(d,((i:Int),(j:Int)))) (fun j=>(d,((i:Int),(j:Int)))) _ d j i h0 (fun j hj=> ?_) (fun j hj hi h=> ?_) (fun j hj h=> ?_) j (Nat.le_refl _) hi
 ·simp only [mV,hx,Int.toNat_natCast]
  intro h
  refine ⟨?_,?_,?_,?_,?_,?_,hf.LS (by omega) ha⟩<;>omega
 ·simp only [eA,ai,hx,Int.toNat_natCast]
  rw [if_pos (by omega),if_pos ((Mq _ _ _).2 h),bT (n:=((j+1:Nat):Int)- 1) (m:=j) (by omega) (by omega)]
 ·simp only [eA,ai,hx,Int.toNat_natCast]
  by_cases hc:i<=j
  ·rw [if_pos (by omega),if_neg (fun h'=>h ⟨hc,(Mq _ _ _).1 h'⟩)]
  ·rw [if_neg (by omega)]
theorem ZC (hx:x.2.1=(a:Int)) {d:List Int} (hf:cr x.2.2.2.2 d) {j:Nat} (ha:a<d.length) (hj:j<d.length) {i:Nat} (hi:i<=j+2):
  TR (eB x) (mW x) (d,((i:Int),(j:Int))) fun r=>r=(d,(((Sort.scanUp (fun y=>cW x.2.2.2.2 y (d.getD a 0)) d.toArray j i:Nat):Int),(j:Int)))/\ i<=Sort.scanUp (fun y=>cW x.2.2.2.2 y (d.getD a 0)) d.toArray j i/\ Sort.scanUp (fun y=>cW x.2.2.2.2 y (d.getD a 0)) d.toArray j i<=j+2:=by
 have hl:=hf.len
 refine GL (fun i=>(d,((i:Int),(j:Int)))) (fun i=>(d,((i:Int),(j:Int)))) _ d 0 j (fun i _ hi=> ?_) (fun i _ hi h=> ?_) (fun i _ hi h=> ?_) _ i (by omega) hi (Nat.le_refl _)
 ·simp only [mW,hx,Int.toNat_natCast]
  intro h
  refine ⟨?_,?_,?_,?_,?_,?_,hf.LS (by omega) ha⟩<;>omega
 ·simp only [eB,ai,hx,Int.toNat_natCast]
  rw [if_pos (by omega),if_pos ((jr _ _ _).2 h),bT (n:=(i:Int)+1) (m:=i+1) (by omega) (by omega)]
 ·simp only [eB,ai,hx,Int.toNat_natCast]
  by_cases hc:i<=j
  ·rw [if_pos (by omega),if_neg (fun h'=>h ⟨hc,(jr _ _ _).1 h'⟩)]
  ·rw [if_neg (by omega)]
theorem Vb (hx:x.2.1=(a:Int)) {d:List Int} (hf:cr x.2.2.2.2 d) {i:Nat} (h0:1<=i) (ha:a<d.length) {j:Nat} (hj:j<d.length) (hi:i<=j+2):
  TR (eD x) (mX x) (d,((i:Int),(j:Int))) fun r=>r=(d,((i:Int),((Sort.scanDown (fun y=> !cW x.2.2.2.2 y (d.getD a 0)) d.toArray i j:Nat):Int)))/\ Sort.scanDown (fun y=> !cW x.2.2.2.2 y (d.getD a 0)) d.toArray i j<=j/\ i<=Sort.scanDown (fun y=> !cW x.2.2.2.2 y (d.getD a 0)) d.toArray i j+2:=by
 have hl:=hf.len
 refine ye (fun j=>(d,((i:Int),(j:Int)))) (fun j=>(d,((i:Int),(j:Int)))) _ d j i h0 (fun j hj=> ?_) (fun j hj hi h=> ?_) (fun j hj h=> ?_) j (Nat.le_refl _) hi
 ·simp only [mX,hx,Int.toNat_natCast]
  intro h
  refine ⟨?_,?_,?_,?_,?_,?_,hf.LS (by omega) ha⟩<;>omega
 ·simp only [eD,ai,hx,Int.toNat_natCast]
  rw [if_pos (by omega),if_pos ((Mq _ _ _).2 h),bT (n:=((j+1:Nat):Int)- 1) (m:=j) (by omega) (by omega)]
 ·simp only [eD,ai,hx,Int.toNat_natCast]
  by_cases hc:i<=j
  ·rw [if_pos (by omega),if_neg (fun h'=>h ⟨hc,(Mq _ _ _).1 h'⟩)]
  ·rw [if_neg (by omega)]
theorem Vd (hx:x.2.1=(a:Int)): ∀(n:Nat) (d:List Int) (i j:Nat),cr x.2.2.2.2 d->1<=i->a<d.length->j<d.length->i<=j+2->j+1- i<=n->
  TR (bD x) (jI x) (d,((i:Int),(j:Int))) fun r=>r.1.toArray=(Sort.partLoop (cW x.2.2.2.2) a i j d.toArray).2/\ r.2=((Sort.partLoop (cW x.2.2.2.2) a i j d.toArray).1:Int)/\ r.1.length=d.length/\ cr x.2.2.2.2 r.1/\ (Sort.partLoop (cW x.2.2.2.2) a i j d.toArray).1<d.length:=by
 intro n
 induction n using Nat.strongRecOn with
 |ind n ih=>
 intro d i j hf h0 ha hj hij hn
 have hl:=hf.len
 obtain ⟨u1,u2,u3,u4⟩:=ZC hx hf ha hj hij
 obtain ⟨i2,Kr⟩: ∃i2,i2=Sort.scanUp (fun y=>cW x.2.2.2.2 y (d.getD a 0)) d.toArray j i:=⟨_,rfl⟩
 rw [<- Kr] at u2 u3 u4
 obtain ⟨v1,v2,v3,v4⟩:=Vb hx hf (i:=i2) (by omega) ha hj (by omega)
 obtain ⟨j2,QJ⟩: ∃j2,j2=Sort.scanDown (fun y=> !cW x.2.2.2.2 y (d.getD a 0)) d.toArray i2 j:=⟨_,rfl⟩
 rw [<- QJ] at v2 v3 v4
 have hE:Sort.partLoop (cW x.2.2.2.2) a i j d.toArray=if i2>j2 then (j2,d.toArray) else Sort.partLoop (cW x.2.2.2.2) a (i2+1) (j2- 1) (Sort.swp d.toArray i2 j2):=by
  rw [Sort.partLoop]
  simp only [aS,<- Kr,<- QJ]
  by_cases hc:i2>j2
  ·rw [if_pos hc,if_pos hc]
  ·rw [if_neg hc,if_neg hc,dif_pos (by omega)]
 by_cases hc:i2>j2
 ·refine TR.stop (r:=(d,(j2:Int))) ?_ ?_ ?_
  ·simp only [jI,az,u2,v2]
   exact ⟨u1,v1,fun h=>absurd (show (i2:Int)>(j2:Int) by omega) h⟩
  ·simp only [bD,ai,u2,v2]
   rw [if_pos (by omega)]
  ·rw [hE,if_pos hc];exact ⟨rfl,rfl,rfl,hf,by show j2<d.length;omega⟩
 ·refine TR.go (s':=(sw d i2 j2,(((i2+1:Nat):Int),((j2- 1:Nat):Int)))) ?_ ?_ ((ih (j2- 1+1- (i2+1)) (by omega) (sw d i2 j2) (i2+1) (j2- 1) (hf.sw (i:=i2) (j:=j2) (by omega) (by omega)) (by omega) (by rw [cf];omega) (by rw [cf];omega) (by omega) (Nat.le_refl _)).mono fun r hr=> ?_)
  ·simp only [jI,az,u2,v2,List.length_set,Int.toNat_natCast]
   refine ⟨u1,v1,fun _=> ?_⟩
   refine ⟨?_,?_,?_,?_,?_,?_,?_,?_,?_,?_,?_,?_⟩<;>omega
  ·simp only [bD,ai,u2,v2,Int.toNat_natCast]
   rw [if_neg (by omega),bT (n:=(i2:Int)+1) (m:=i2+1) (by omega) (by omega),bT (n:=(j2:Int)- 1) (m:=j2- 1) (by omega) (by omega)]
   rfl
  ·rw [hE,if_neg hc,←ia]
   rw [cf] at hr
   exact hr
end
theorem XC {r:RT} {d:List Int} (hf:cr r d) {a b p:Nat} (hap:a<=p) (QN:p<b) (hb:b<=d.length):
  aU (d,((a:Int),((b:Int),((p:Int),r))))/\ (bn (d,((a:Int),((b:Int),((p:Int),r))))).1.1=((Sort.partition (cW r) d.toArray a b p).1:Int)/\
   (bn (d,((a:Int),((b:Int),((p:Int),r))))).2.1.toArray=(Sort.partition (cW r) d.toArray a b p).2.2/\ (bn (d,((a:Int),((b:Int),((p:Int),r))))).2.1.length=d.length/\ cr r (bn (d,((a:Int),((b:Int),((p:Int),r))))).2.1:=by
 have hl:=hf.len
 have e1:ae ((a:Int)+1)=((a+1:Nat):Int):=bT (by omega) (by omega)
 have e2:ae ((b:Int)- 1)=((b- 1:Nat):Int):=bT (by omega) (by omega)
 have hs:=hf.sw (i:=a) (j:=p) (by omega) (by omega)
 obtain ⟨D,hD⟩: ∃D,D=sw d a p:=⟨_,rfl⟩
 have hDl:D.length=d.length:=by rw [hD,cf]
 rw [<- hD] at hs
 obtain ⟨X,hX⟩: ∃X:List Int×Int×Int×Int×RT,X=(d,((a:Int),((b:Int),((p:Int),r)))):=⟨_,rfl⟩
 have WE:X.2.2.2.2=r:=by rw [hX]
 have X4:X.2.1=(a:Int):=by rw [hX]
 have ZZ:X.2.2.1=(b:Int):=by rw [hX]
 have hXp:X.2.2.2.1=(p:Int):=by rw [hX]
 have hXd:X.1=d:=by rw [hX]
 have hDD:(d.set a (d.getD p 0)).set p (d.getD a 0)=D:=by rw [hD];rfl
 obtain ⟨u1,u2,u3,u4⟩:=XE (x:=X) X4 ZZ (d:=D) (by rw [WE];exact hs) (i:=a+1) (by omega) (by omega) (by omega) (by omega)
 obtain ⟨i2,Kr⟩: ∃i2,i2=Sort.scanUp (fun y=>cW r y (D.getD a 0)) D.toArray (b- 1) (a+1):=⟨_,rfl⟩
 rw [WE,<- Kr] at u2 u3 u4
 obtain ⟨v1,v2,v3,v4⟩:=Sb (x:=X) X4 (d:=D) (by rw [WE];exact hs) (i:=i2) (by omega) (by omega) (j:=b- 1) (by omega) (by omega)
 obtain ⟨j2,QJ⟩: ∃j2,j2=Sort.scanDown (fun y=> !cW r y (D.getD a 0)) D.toArray i2 (b- 1):=⟨_,rfl⟩
 rw [WE,<- QJ] at v2 v3 v4
 have hE:Sort.partition (cW r) d.toArray a b p=if i2>j2 then (j2,true,Sort.swp D.toArray j2 a) else ((Sort.partLoop (cW r) a (i2+1) (j2- 1) (Sort.swp D.toArray i2 j2)).1,false,Sort.swp (Sort.partLoop (cW r) a (i2+1) (j2- 1) (Sort.swp D.toArray i2 j2)).2 (Sort.partLoop (cW r) a (i2+1) (j2- 1) (Sort.swp D.toArray i2 j2)).1 a):=by
  unfold Sort.partition
  simp only [<- ia,<- hD,aS,<- Kr,<- QJ]
 have hM:bn X=(if (i2:Int)>(j2:Int) then (((j2:Int),true),(sw D j2 a,(false,(false,(false,false))))) else
   (((run (bD X) (sw D i2 j2,(ae ((i2:Int)+1),ae ((j2:Int)- 1)))).2,false),(((run (bD X) (sw D i2 j2,(ae ((i2:Int)+1),ae ((j2:Int)- 1)))).1.set (Int.toNat (run (bD X) (sw D i2 j2,(ae ((i2:Int)+1),ae ((j2:Int)- 1)))).2) ((run (bD X) (sw D i2 j2,(ae ((i2:Int)+1),ae ((j2:Int)- 1)))).1.getD a 0)).set a ((run (bD X) (sw D i2 j2,(ae ((i2:Int)+1),ae ((j2:Int)- 1)))).1.getD (Int.toNat (run (bD X) (sw D i2 j2,(ae ((i2:Int)+1),ae ((j2:Int)- 1)))).2) 0),(false,(false,(false,false)))))):=by
  simp only [bn,ai,hXd,hXp,X4,ZZ,Int.toNat_natCast,hDD,e1,e2,u2,v2]
  rfl
 by_cases hc:i2>j2
 ·have TO:bn X=(((j2:Int),true),(sw D j2 a,(false,(false,(false,false))))):=by rw [hM,if_pos (by omega)]
  rw [<- hX]
  refine ⟨?_,by rw [TO,hE,if_pos hc],by rw [TO,hE,if_pos hc];exact ia _ _ _,by rw [TO];show (sw D j2 a).length=_;rw [cf,hDl],by rw [TO];exact hs.sw (by omega) (by omega)⟩
  simp only [aU,az,hXd,hXp,X4,ZZ,Int.toNat_natCast,List.length_set,hDD,e1,e2,u2,v2]
  repeat' (first|exact u1|exact v1|with_reducible apply And.intro|intro _)
  all_goals omega
 ·have q1:ae ((i2:Int)+1)=((i2+1:Nat):Int):=bT (by omega) (by omega)
  have q2:ae ((j2:Int)- 1)=((j2- 1:Nat):Int):=bT (by omega) (by omega)
  obtain ⟨w1,w2,w3,w4,w5,w6⟩:=Vd (x:=X) X4 _ (sw D i2 j2) (i2+1) (j2- 1) (by rw [WE];exact hs.sw (by omega) (by omega)) (by omega) (by rw [cf];omega) (by rw [cf];omega) (by omega) (Nat.le_refl _)
  rw [WE,ia] at w2 w3 w6
  rw [WE] at w5
  rw [cf] at w4 w6
  obtain ⟨R,hR⟩: ∃R,R=run (bD X) (sw D i2 j2,(((i2+1:Nat):Int),((j2- 1:Nat):Int))):=⟨_,rfl⟩
  obtain ⟨m,hm⟩: ∃m,m=(Sort.partLoop (cW r) a (i2+1) (j2- 1) (Sort.swp D.toArray i2 j2)).1:=⟨_,rfl⟩
  rw [<- hm] at w3 w6
  rw [<- hR] at w2 w3 w4 w5
  have TO:bn X=(((m:Int),false),(sw R.1 m a,(false,(false,(false,false))))):=by
   rw [hM,if_neg (by omega),q1,q2,<- hR,w3,Int.toNat_natCast];rfl
  rw [<- hX]
  refine ⟨?_,by rw [TO,hE,if_neg hc,hm],by rw [TO,hE,if_neg hc,<- w2,<- hm];exact ia _ _ _,by rw [TO];show (sw R.1 m a).length=_;rw [cf];omega,by rw [TO];exact w5.sw (by omega) (by omega)⟩
  simp only [aU,az,hXd,hXp,X4,ZZ,Int.toNat_natCast,List.length_set,hDD,e1,e2,u2,v2,q1,q2]
  have hsw:(D.set i2 (D.getD j2 0)).set j2 (D.getD i2 0)=sw D i2 j2:=rfl
  simp only [hsw,<- hR,w3,Int.toNat_natCast]
  repeat' (first|exact u1|exact v1|exact w1|with_reducible apply And.intro|intro _)
  all_goals omega
end Go.Proofs.YtlkgabjhkfhgaaaGreat
