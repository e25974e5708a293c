/- Sorting, plain: the patterns that are broken. -/
import Derived.Test.YtaipcbdilkcdbaaTf
noncomputable section
set_option linter.unusedSectionVars false
set_option linter.unusedVariables false
set_option linter.unusedSimpArgs false
namespace Go.Proofs.Ytaipcbdilkcdbaa
open Go Go.Ev Go.Proofs
theorem Zv (n:Int):IntKind.wrap IntKind.u8 n=n % 256:=by simp [IntKind.wrap,IntKind.bits,IntKind.signed]
theorem Qz (n:Int):IntKind.wrap IntKind.u64 n=n % 18446744073709551616:=by simp [IntKind.wrap,IntKind.bits,IntKind.signed]
theorem X5 (n c:Nat):Int.fdiv (n:Int) (c:Int)=((n / c:Nat):Int):=by
 rw [Int.fdiv_eq_ediv_of_nonneg _ (Int.natCast_nonneg c)];rfl
def tB (T:ByteArray) (k:Int) (z:Int):Int:=ae (k+(ae (((UInt8.toNat (ByteArray.get! T (Int.toNat (IntKind.wrap IntKind.u8 z)))):Nat):Int)))
def An:ByteArray:=⟨((List.range 256).map fun b=>UInt8.ofNat (if b=0 then 0 else Nat.log2 b+1)).toArray⟩
theorem NK: ∀b,b<256->UInt8.toNat (ByteArray.get! An b)<=8/\ (0<b->2^UInt8.toNat (ByteArray.get! An b)<=2*b):=by decide+kernel
theorem Uw (x:Int):Bg x=
  (if (x>=(4294967296:Int)) then
   (if ((Int.fdiv x (4294967296:Int))>=(65536:Int)) then
    (if ((Int.fdiv (Int.fdiv x (4294967296:Int)) (65536:Int))>=(256:Int)) then tB An 56 (Int.fdiv (Int.fdiv (Int.fdiv x (4294967296:Int)) (65536:Int)) (256:Int)) else tB An 48 (Int.fdiv (Int.fdiv x (4294967296:Int)) (65536:Int))) else
    (if ((Int.fdiv x (4294967296:Int))>=(256:Int)) then tB An 40 (Int.fdiv (Int.fdiv x (4294967296:Int)) (256:Int)) else tB An 32 (Int.fdiv x (4294967296:Int)))) else
   (if (x>=(65536:Int)) then
    (if ((Int.fdiv x (65536:Int))>=(256:Int)) then tB An 24 (Int.fdiv (Int.fdiv x (65536:Int)) (256:Int)) else tB An 16 (Int.fdiv x (65536:Int))) else
    (if (x>=(256:Int)) then tB An 8 (Int.fdiv x (256:Int)) else tB An 0 x))):=by kernel_rfl
theorem Pa: ∃T:ByteArray,(∀b,b<256->UInt8.toNat (ByteArray.get! T b)<=8/\ (0<b->2^UInt8.toNat (ByteArray.get! T b)<=2*b))/\ ∀x,Bg x=
  (if (x>=(4294967296:Int)) then
   (if ((Int.fdiv x (4294967296:Int))>=(65536:Int)) then
    (if ((Int.fdiv (Int.fdiv x (4294967296:Int)) (65536:Int))>=(256:Int)) then tB T 56 (Int.fdiv (Int.fdiv (Int.fdiv x (4294967296:Int)) (65536:Int)) (256:Int)) else tB T 48 (Int.fdiv (Int.fdiv x (4294967296:Int)) (65536:Int))) else
    (if ((Int.fdiv x (4294967296:Int))>=(256:Int)) then tB T 40 (Int.fdiv (Int.fdiv x (4294967296:Int)) (256:Int)) else tB T 32 (Int.fdiv x (4294967296:Int)))) else
   (if (x>=(65536:Int)) then
    (if ((Int.fdiv x (65536:Int))>=(256:Int)) then tB T 24 (Int.fdiv (Int.fdiv x (65536:Int)) (256:Int)) else tB T 16 (Int.fdiv x (65536:Int))) else
    (if (x>=(256:Int)) then tB T 8 (Int.fdiv x (256:Int)) else tB T 0 x))):=⟨An,NK,Uw⟩
theorem sk {T:ByteArray} (hT: ∀b,b<256->UInt8.toNat (ByteArray.get! T b)<=8/\ (0<b->2^UInt8.toNat (ByteArray.get! T b)<=2*b)) (k b n:Nat) (hb:0<b) (fV:b<256) (hk:k<=56) (hn:2^k*b<=n):
  ∃y:Nat,tB T (k:Int) (b:Int)=(y:Int)/\ y<=64/\ 2^y<=2*n:=by
 obtain ⟨h1,h2⟩:=hT b fV
 refine ⟨k+UInt8.toNat (ByteArray.get! T b),?_,by omega,?_⟩
 ·unfold tB
  rw [Zv,show ((b:Int) % 256)=(b:Int) by omega,Int.toNat_natCast,cC (n:=((UInt8.toNat (ByteArray.get! T b):Nat):Int)) (by omega) (by omega),cC (by omega) (by omega)]
  omega
 ·rw [Nat.pow_add]
  calc 2^k*2^UInt8.toNat (ByteArray.get! T b)<=2^k*(2*b):=Nat.mul_le_mul_left _ (h2 hb)
   _=2*(2^k*b):=by rw [Nat.mul_left_comm]
   _<=2*n:=by omega
theorem RL (n:Nat) (h:0<n) (hn:n<9223372036854775808):kE (n:Int)/\ ∃y:Nat,Bg (n:Int)=(y:Int)/\ y<=64/\ 2^y<=2*n:=by
 obtain ⟨T,hT,hx⟩:=Pa
 have f1: ∀m:Nat,Int.fdiv (m:Int) 4294967296=((m / 4294967296:Nat):Int):=fun m=>X5 m 4294967296
 have f2: ∀m:Nat,Int.fdiv (m:Int) 65536=((m / 65536:Nat):Int):=fun m=>X5 m 65536
 have f3: ∀m:Nat,Int.fdiv (m:Int) 256=((m / 256:Nat):Int):=fun m=>X5 m 256
 refine ⟨?_,?_⟩
 ·simp only [kE,Zv]
  repeat' (first|with_reducible apply And.intro|intro _)
  all_goals omega
 ·rw [hx]
  simp only [f1,f2,f3]
  repeat' split
  ·exact sk hT 56 _ n (by omega) (by omega) (by omega) (by simp only [Nat.reducePow];omega)
  ·exact sk hT 48 _ n (by omega) (by omega) (by omega) (by simp only [Nat.reducePow];omega)
  ·exact sk hT 40 _ n (by omega) (by omega) (by omega) (by simp only [Nat.reducePow];omega)
  ·exact sk hT 32 _ n (by omega) (by omega) (by omega) (by simp only [Nat.reducePow];omega)
  ·exact sk hT 24 _ n (by omega) (by omega) (by omega) (by simp only [Nat.reducePow];omega)
  ·exact sk hT 16 _ n (by omega) (by omega) (by omega) (by simp only [Nat.reducePow];omega)
  ·exact sk hT 8 _ n (by omega) (by omega) (by omega) (by simp only [Nat.reducePow];omega)
  ·exact sk hT 0 _ n (by omega) (by omega) (by omega) (by simp only [Nat.reducePow];omega)
theorem Pq (n:Nat) (h:0<n) (hn:n<4611686018427387904):sU (n:Int)/\ ∃m:Nat,G0 (n:Int)=(m:Int)/\ 0<m/\ m<=2*n:=by
 obtain ⟨h1,y,h2,h3,h4⟩:=RL n h (by omega)
 have e:IntKind.wrap IntKind.u64 (n:Int)=(n:Int):=by rw [Qz];omega
 have hp:0<2^y:=Nat.two_pow_pos y
 refine ⟨?_,2^y,?_,hp,h4⟩
 ·simp only [sU,vN,GK,ay,ai,e,h2]
  exact ⟨h1,by omega⟩
 ·simp only [G0,GK,ai,e,h2,Int.toNat_natCast,Qz,Int.one_mul]
  rw [Nat.min_eq_left h3]
  have:((2:Int)^y)=((2^y:Nat):Int):=by push_cast;rfl
  rw [this]
  omega
theorem NP (x:List Int×Int×Int×RT) (a b m:Nat) (hx:x.2.1=(a:Int)) (tg:x.2.2.1=(b:Int)) (h8:8<=b- a) (hm:0<m) (OE:m<=2*(b- a)): ∀(n:Nat) (d:List Int) (s:Int) (i:Nat),cJ x.2.2.2 d->b<=d.length->a<=i->(a+(b- a) / 4*2+1)+1- i<=n->
  TR (dX x) (iW x) (d,(s,((m:Int),(i:Int)))) fun r=>Out x.2.2.2 d a b r:=by
 intro n
 induction n with
 |zero=>
  intro d s i hf hb hi hn
  have hl:=hf.len
  have e:ae ((b:Int)- (a:Int))=((b- a:Nat):Int):=bU (by omega) (by omega)
  have e0:ae (Int.tdiv ((b- a:Nat):Int) 4)=(((b- a) / 4:Nat):Int):=bU (by rw [Int.tdiv_eq_ediv_of_nonneg (by omega)];omega) (by omega)
  have m2:ae ((((b- a) / 4:Nat):Int)*2)=(((b- a) / 4*2:Nat):Int):=bU (by omega) (by omega)
  have n2:ae ((a:Int)+(((b- a) / 4*2:Nat):Int))=((a+(b- a) / 4*2:Nat):Int):=bU (by omega) (by omega)
  have n3:ae (((a+(b- a) / 4*2:Nat):Int)+1)=((a+(b- a) / 4*2+1:Nat):Int):=bU (by omega) (by omega)
  refine TR.stop (r:=d) ?_ ?_ ⟨Sort.permIn_refl _ _ _,rfl,hf⟩
  ·simp only [iW,hx,tg,e,e0,m2,n2,n3];intro h;exfalso;omega
  ·simp only [dX,hx,tg,e,e0,m2,n2,n3];rw [if_neg (by omega)]
 |succ n ih=>
  intro d s i hf hb hi hn
  have hl:=hf.len
  have e:ae ((b:Int)- (a:Int))=((b- a:Nat):Int):=bU (by omega) (by omega)
  have e0:ae (Int.tdiv ((b- a:Nat):Int) 4)=(((b- a) / 4:Nat):Int):=bU (by rw [Int.tdiv_eq_ediv_of_nonneg (by omega)];omega) (by omega)
  have m2:ae ((((b- a) / 4:Nat):Int)*2)=(((b- a) / 4*2:Nat):Int):=bU (by omega) (by omega)
  have n2:ae ((a:Int)+(((b- a) / 4*2:Nat):Int))=((a+(b- a) / 4*2:Nat):Int):=bU (by omega) (by omega)
  have n3:ae (((a+(b- a) / 4*2:Nat):Int)+1)=((a+(b- a) / 4*2+1:Nat):Int):=bU (by omega) (by omega)
  by_cases hc:i<=a+(b- a) / 4*2+1
  ·have ho:BitVec.toNat ((BitVec.ofInt 64 (DB s).1)&&&(BitVec.ofInt 64 (IntKind.wrap IntKind.u64 ((m:Int)- 1))))<2*(b- a):=by
    rw [BitVec.toNat_and]
    refine Nat.lt_of_le_of_lt Nat.and_le_right ?_
    have e5:IntKind.wrap IntKind.u64 ((m:Int)- 1)=((m- 1:Nat):Int):=by rw [Qz];omega
    rw [e5,BitVec.ofInt_natCast,BitVec.toNat_ofNat]
    exact Nat.lt_of_le_of_lt (Nat.mod_le _ _) (by omega)
   obtain ⟨o,YP⟩: ∃o,o=BitVec.toNat ((BitVec.ofInt 64 (DB s).1)&&&(BitVec.ofInt 64 (IntKind.wrap IntKind.u64 ((m:Int)- 1)))):=⟨_,rfl⟩
   rw [<- YP] at ho
   have e6:ae (IntKind.wrap IntKind.u64 (o:Int))=(o:Int):=by rw [Qz];exact bU (by omega) (by omega)
   have e7:ae ((i:Int)+1)=((i+1:Nat):Int):=bU (by omega) (by omega)
   obtain ⟨j,hj⟩: ∃j,j=if o>=b- a then a+(o- (b- a)) else a+o:=⟨_,rfl⟩
   have YK:a<=j/\ j<b:=by rw [hj];split<;>omega
   have hs:=Sort.swp_permIn d.toArray a b i j hi (by omega) YK.1 YK.2 (by simpa using hb)
   refine TR.go (s':=(sw d i j,((DB s).2,((m:Int),((i+1:Nat):Int))))) ?_ ?_ ((ih _ _ (i+1) (hf.sw (i:=i) (j:=j) (by omega) (by omega)) (by rw [cz];omega) (by omega) (by omega)).mono fun r hr=>⟨Sort.permIn_trans _ _ _ _ _ hs (by rw [<- iy];exact hr.1),by rw [hr.2.1,cz],hr.2.2⟩)
   ·simp only [iW,ay,hx,tg,e,e0,m2,n2,n3,←YP,e6,List.length_set,Int.toNat_natCast]
    intro _
    refine ⟨fun h=> ?_,fun h=> ?_⟩
    ·have e8:ae ((o:Int)- ((b- a:Nat):Int))=((o- (b- a):Nat):Int):=bU (by omega) (by omega)
     have e9:ae ((a:Int)+((o- (b- a):Nat):Int))=((a+(o- (b- a)):Nat):Int):=bU (by omega) (by omega)
     simp only [e8,e9,Int.toNat_natCast]
     repeat' (first|with_reducible apply And.intro|intro _)
     all_goals omega
    ·have e9:ae ((a:Int)+(o:Int))=((a+o:Nat):Int):=bU (by omega) (by omega)
     simp only [e9,Int.toNat_natCast]
     repeat' (first|with_reducible apply And.intro|intro _)
     all_goals omega
   ·simp only [dX,ai,hx,tg,e,e0,m2,n2,n3,←YP,e6,e7,Int.toNat_natCast]
    rw [if_pos (by omega)]
    by_cases h:o>=b- a
    ·have e8:ae ((o:Int)- ((b- a:Nat):Int))=((o- (b- a):Nat):Int):=bU (by omega) (by omega)
     have e9:ae ((a:Int)+((o- (b- a):Nat):Int))=((a+(o- (b- a)):Nat):Int):=bU (by omega) (by omega)
     rw [if_pos (by omega),hj,if_pos h]
     simp only [e8,e9,Int.toNat_natCast];rfl
    ·have e9:ae ((a:Int)+(o:Int))=((a+o:Nat):Int):=bU (by omega) (by omega)
     rw [if_neg (by omega),hj,if_neg h]
     simp only [e9,Int.toNat_natCast];rfl
  ·refine TR.stop (r:=d) ?_ ?_ ⟨Sort.permIn_refl _ _ _,rfl,hf⟩
   ·simp only [iW,hx,tg,e,e0,m2,n2,n3];intro h;exfalso;omega
   ·simp only [dX,hx,tg,e,e0,m2,n2,n3];rw [if_neg (by omega)]
theorem Ra {r:RT} {d:List Int} (hf:cJ r d) {a b:Nat} (hab:a<=b) (hb:b<=d.length):
  oX (d,((a:Int),((b:Int),r)))/\ Out r d a b (FY (d,((a:Int),((b:Int),r)))).2.1:=by
 have hl:=hf.len
 have e:ae ((b:Int)- (a:Int))=((b- a:Nat):Int):=bU (by omega) (by omega)
 have e0:ae (Int.tdiv ((b- a:Nat):Int) 4)=(((b- a) / 4:Nat):Int):=bU (by rw [Int.tdiv_eq_ediv_of_nonneg (by omega)];omega) (by omega)
 have m2:ae ((((b- a) / 4:Nat):Int)*2)=(((b- a) / 4*2:Nat):Int):=bU (by omega) (by omega)
 have n2:ae ((a:Int)+(((b- a) / 4*2:Nat):Int))=((a+(b- a) / 4*2:Nat):Int):=bU (by omega) (by omega)
 by_cases h8:8<=b- a
 ·have n3:ae (((a+(b- a) / 4*2:Nat):Int)- 1)=((a+(b- a) / 4*2- 1:Nat):Int):=bU (by omega) (by omega)
  obtain ⟨p1,m,p2,p3,p4⟩:=Pq (b- a) (by omega) (by omega)
  obtain ⟨h1,h2⟩:=NP (d,((a:Int),((b:Int),r))) a b m rfl rfl h8 p3 p4 _ d (IntKind.wrap IntKind.u64 ((b- a:Nat):Int)) (a+(b- a) / 4*2- 1) hf hb (by omega) (Nat.le_refl _)
  refine ⟨?_,?_⟩
  ·simp only [oX,ay,e,e0,m2,n2,n3,p2]
   exact ⟨fun _=>⟨p1,h1,h2.2.1⟩,fun _=>by first|trivial|rfl⟩
  ·simp only [FY,ai,e,e0,m2,n2,n3,p2]
   rw [if_pos (by omega)]
   exact h2
 ·refine ⟨?_,?_⟩
  ·simp only [oX,ay,e]
   exact ⟨fun h=>absurd h (show¬((b- a:Nat):Int)>=8 by omega),fun _=>by first|trivial|rfl⟩
  ·simp only [FY,ai,e]
   rw [if_neg (by omega)]
   exact ⟨Sort.permIn_refl _ _ _,rfl,hf⟩
end Go.Proofs.Ytaipcbdilkcdbaa
namespace Go.Proofs.Ytaipcbdilkcdbaa
open Go Go.Ev Go.Proofs
theorem Fy {S R:Type} [Inhabited R] {step:S->S⊕R} {pre:S->Prop} (st:Nat->S) (out:Nat->R) (p:Int->Bool) (d:List Int) (lo j:Nat)
  (hp: ∀i,lo<=i->i<=j+2->pre (st i)) (h1: ∀i,lo<=i->i<=j->p (d.getD i 0)=true->step (st i)= .inl (st (i+1)))
  (h2: ∀i,lo<=i->i<=j+2-> ¬(i<=j/\ p (d.getD i 0)=true)->step (st i)= .inr (out i)):
  ∀(n i:Nat),lo<=i->i<=j+2->j+1- i<=n->TR step pre (st i) fun r=>r=out (Sort.scanUp p d.toArray j i)/\ i<=Sort.scanUp p d.toArray j i/\ Sort.scanUp p d.toArray j i<=j+2:=by
 intro n
 induction n with
 |zero=>
  intro i hi hij hn
  have hc: ¬(i<=j/\ p (d.getD i 0)=true):=fun h=>by omega
  have e:Sort.scanUp p d.toArray j i=i:=by rw [Sort.scanUp,bf,if_neg (by rw [Bool.and_eq_true,decide_eq_true_eq];exact hc)]
  exact TR.stop (hp i hi hij) (h2 i hi hij hc) ⟨by rw [e],by rw [e];omega,by rw [e];omega⟩
 |succ n ih=>
  intro i hi hij hn
  by_cases hc:i<=j/\ p (d.getD i 0)=true
  ·have e:Sort.scanUp p d.toArray j i=Sort.scanUp p d.toArray j (i+1):=by rw [Sort.scanUp,bf,if_pos (by rw [Bool.and_eq_true,decide_eq_true_eq];exact hc)]
   rw [e]
   exact TR.go (hp i hi hij) (h1 i hi hc.1 hc.2) ((ih (i+1) (by omega) (by omega) (by omega)).mono fun r hr=>⟨hr.1,by omega,hr.2.2⟩)
  ·have e:Sort.scanUp p d.toArray j i=i:=by rw [Sort.scanUp,bf,if_neg (by rw [Bool.and_eq_true,decide_eq_true_eq];exact hc)]
   exact TR.stop (hp i hi hij) (h2 i hi hij hc) ⟨by rw [e],by rw [e];omega,by rw [e];omega⟩
theorem xZ {S R:Type} [Inhabited R] {step:S->S⊕R} {pre:S->Prop} (st:Nat->S) (out:Nat->R) (p:Int->Bool) (d:List Int) (hi i:Nat) (h0:1<=i)
  (hp: ∀j,j<=hi->pre (st j)) (h1: ∀j,j+1<=hi->i<=j+1->p (d.getD (j+1) 0)=true->step (st (j+1))= .inl (st j))
  (h2: ∀j,j<=hi-> ¬(i<=j/\ p (d.getD j 0)=true)->step (st j)= .inr (out j)):
  ∀(j:Nat),j<=hi->i<=j+2->TR step pre (st j) fun r=>r=out (Sort.scanDown p d.toArray i j)/\ Sort.scanDown p d.toArray i j<=j/\ i<=Sort.scanDown p d.toArray i j+2:=by
 intro j
 induction j with
 |zero=>
  intro hj hij
  exact TR.stop (hp 0 hj) (h2 0 hj fun h=>by omega) ⟨by rw [Sort.scanDown],by rw [Sort.scanDown];omega,by rw [Sort.scanDown];omega⟩
 |succ j ih=>
  intro hj hij
  by_cases hc:i<=j+1/\ p (d.getD (j+1) 0)=true
  ·have e:Sort.scanDown p d.toArray i (j+1)=Sort.scanDown p d.toArray i j:=by rw [Sort.scanDown,bf,if_pos (by rw [Bool.and_eq_true,decide_eq_true_eq];exact hc)]
   rw [e]
   exact TR.go (hp _ hj) (h1 j hj hc.1 hc.2) ((ih (by omega) (by omega)).mono fun r hr=>⟨hr.1,by omega,hr.2.2⟩)
  ·have e:Sort.scanDown p d.toArray i (j+1)=j+1:=by rw [Sort.scanDown,bf,if_neg (by rw [Bool.and_eq_true,decide_eq_true_eq];exact hc)]
   exact TR.stop (hp _ hj) (h2 _ hj hc) ⟨by rw [e],by rw [e];omega,by rw [e];omega⟩
theorem KJ (r:RT) (x y:Int):((!(decide (j8 (r,(x,y))<0)))=true)↔(!c5 r x y)=true:=by unfold c5;simp
section
variable {x:List Int×Int×Int×Int×RT} {a:Nat}
theorem Xe (hx:x.2.1=(a:Int)) {d:List Int} (hf:cJ x.2.2.2.2 d) {j:Nat} (ha:a<d.length) (hj:j<d.length) {i:Nat} (hi:i<=j+2):
  TR (dV x) (l5 x) (d,((i:Int),(j:Int))) fun r=>r=(d,(((Sort.scanUp (fun y=> !c5 x.2.2.2.2 (d.getD a 0) y) d.toArray j i:Nat):Int),(j:Int)))/\ i<=Sort.scanUp (fun y=> !c5 x.2.2.2.2 (d.getD a 0) y) d.toArray j i/\ Sort.scanUp (fun y=> !c5 x.2.2.2.2 (d.getD a 0) y) d.toArray j i<=j+2:=by
 have hl:=hf.len
 refine Fy (fun i=>(d,((i:Int),(j:Int)))) (fun i=>(d,((i:Int),(j:Int)))) _ d 0 j (fun i _ hi=> ?_) (fun i _ hi h=> ?_) (fun i _ hi h=> ?_) _ i (by omega) hi (Nat.le_refl _)
 ·simp only [l5,hx,Int.toNat_natCast]
  intro h
  refine ⟨?_,?_,?_,?_,?_,?_,hf.Ke ha (by omega)⟩<;>omega
 ·simp only [dV,ai,hx,Int.toNat_natCast]
  rw [if_pos (by omega),if_pos ((KJ _ _ _).2 h),bU (n:=(i:Int)+1) (m:=i+1) (by omega) (by omega)]
 ·simp only [dV,ai,hx,Int.toNat_natCast]
  by_cases hc:i<=j
  ·rw [if_pos (by omega),if_neg (fun h'=>h ⟨hc,(KJ _ _ _).1 h'⟩)]
  ·rw [if_neg (by omega)]
theorem Se (hx:x.2.1=(a:Int)) {d:List Int} (hf:cJ x.2.2.2.2 d) {i:Nat} (h0:1<=i) (ha:a<d.length) {j:Nat} (hj:j<d.length) (hi:i<=j+2):
  TR (dW x) (l6 x) (d,((i:Int),(j:Int))) fun r=>r=(d,((i:Int),((Sort.scanDown (fun y=>c5 x.2.2.2.2 (d.getD a 0) y) d.toArray i j:Nat):Int)))/\ Sort.scanDown (fun y=>c5 x.2.2.2.2 (d.getD a 0) y) d.toArray i j<=j/\ i<=Sort.scanDown (fun y=>c5 x.2.2.2.2 (d.getD a 0) y) d.toArray i j+2:=by
 have hl:=hf.len
 refine xZ (fun j=>(d,((i:Int),(j:Int)))) (fun j=>(d,((i:Int),(j:Int)))) _ d j i h0 (fun j hj=> ?_) (fun j hj hi h=> ?_) (fun j hj h=> ?_) j (Nat.le_refl _) hi
 ·simp only [l6,hx,Int.toNat_natCast]
  intro h
  refine ⟨?_,?_,?_,?_,?_,?_,hf.Ke ha (by omega)⟩<;>omega
 ·simp only [dW,ai,hx,Int.toNat_natCast]
  rw [if_pos (by omega),if_pos ((jF _ _ _).2 h),bU (n:=((j+1:Nat):Int)- 1) (m:=j) (by omega) (by omega)]
 ·simp only [dW,ai,hx,Int.toNat_natCast]
  by_cases hc:i<=j
  ·rw [if_pos (by omega),if_neg (fun h'=>h ⟨hc,(jF _ _ _).1 h'⟩)]
  ·rw [if_neg (by omega)]
theorem Sf (hx:x.2.1=(a:Int)): ∀(n:Nat) (d:List Int) (i j:Nat),cJ x.2.2.2.2 d->1<=i->a<d.length->j<d.length->i<=j+2->j+1- i<=n->
  TR (cQ x) (jf x) (d,((i:Int),(j:Int))) fun r=>r.1.toArray=(Sort.partEqLoop (c5 x.2.2.2.2) a i j d.toArray).2/\ r.2=((Sort.partEqLoop (c5 x.2.2.2.2) a i j d.toArray).1:Int)/\ r.1.length=d.length/\ cJ x.2.2.2.2 r.1:=by
 intro n
 induction n using Nat.strongRecOn with
 |ind n ih=>
 intro d i j hf h0 ha hj hij hn
 have hl:=hf.len
 obtain ⟨u1,u2,u3,u4⟩:=Xe hx hf ha hj hij
 obtain ⟨i2,IX⟩: ∃i2,i2=Sort.scanUp (fun y=> !c5 x.2.2.2.2 (d.getD a 0) y) d.toArray j i:=⟨_,rfl⟩
 rw [<- IX] at u2 u3 u4
 obtain ⟨v1,v2,v3,v4⟩:=Se hx hf (i:=i2) (by omega) ha hj (by omega)
 obtain ⟨j2,OC⟩: ∃j2,j2=Sort.scanDown (fun y=>c5 x.2.2.2.2 (d.getD a 0) y) d.toArray i2 j:=⟨_,rfl⟩
 rw [<- OC] at v2 v3 v4
 have hE:Sort.partEqLoop (c5 x.2.2.2.2) a i j d.toArray=if i2>j2 then (i2,d.toArray) else Sort.partEqLoop (c5 x.2.2.2.2) a (i2+1) (j2- 1) (Sort.swp d.toArray i2 j2):=by
  rw [Sort.partEqLoop]
  simp only [bf,<- IX,<- OC]
  by_cases hc:i2>j2
  ·rw [if_pos hc,if_pos hc]
  ·rw [if_neg hc,if_neg hc,dif_pos (by omega)]
 by_cases hc:i2>j2
 ·refine TR.stop (r:=(d,(i2:Int))) ?_ ?_ ?_
  ·simp only [jf,ay,u2,v2]
   exact ⟨u1,v1,fun h=>absurd (show (i2:Int)>(j2:Int) by omega) h⟩
  ·simp only [cQ,ai,u2,v2]
   rw [if_pos (by omega)]
  ·rw [hE,if_pos hc];exact ⟨rfl,rfl,rfl,hf⟩
 ·refine TR.go (s':=(sw d i2 j2,(((i2+1:Nat):Int),((j2- 1:Nat):Int)))) ?_ ?_ ((ih (j2- 1+1- (i2+1)) (by omega) (sw d i2 j2) (i2+1) (j2- 1) (hf.sw (i:=i2) (j:=j2) (by omega) (by omega)) (by omega) (by rw [cz];omega) (by rw [cz];omega) (by omega) (Nat.le_refl _)).mono fun r hr=> ?_)
  ·simp only [jf,ay,u2,v2,List.length_set,Int.toNat_natCast]
   refine ⟨u1,v1,fun _=> ?_⟩
   refine ⟨?_,?_,?_,?_,?_,?_,?_,?_,?_,?_,?_,?_⟩<;>omega
  ·simp only [cQ,ai,u2,v2,Int.toNat_natCast]
   rw [if_neg (by omega),bU (n:=(i2:Int)+1) (m:=i2+1) (by omega) (by omega),bU (n:=(j2:Int)- 1) (m:=j2- 1) (by omega) (by omega)]
   rfl
  ·rw [hE,if_neg hc,←iy]
   rw [cz] at hr
   exact hr
end
theorem UU {r:RT} {d:List Int} (hf:cJ r d) {a b p:Nat} (hap:a<=p) (OJ:p<b) (hb:b<=d.length):
  cu (d,((a:Int),((b:Int),((p:Int),r))))/\ (ef (d,((a:Int),((b:Int),((p:Int),r))))).1=((Sort.partitionEqual (c5 r) d.toArray a b p).1:Int)/\
   (ef (d,((a:Int),((b:Int),((p:Int),r))))).2.1.toArray=(Sort.partitionEqual (c5 r) d.toArray a b p).2/\ (ef (d,((a:Int),((b:Int),((p:Int),r))))).2.1.length=d.length/\ cJ r (ef (d,((a:Int),((b:Int),((p:Int),r))))).2.1:=by
 have hl:=hf.len
 have e1:ae ((a:Int)+1)=((a+1:Nat):Int):=bU (by omega) (by omega)
 have e2:ae ((b:Int)- 1)=((b- 1:Nat):Int):=bU (by omega) (by omega)
 have hs:=hf.sw (i:=a) (j:=p) (by omega) (by omega)
 obtain ⟨h1,h2,h3,h4,h5⟩:=Sf (x:=(d,((a:Int),((b:Int),((p:Int),r))))) (a:=a) rfl _ (sw d a p) (a+1) (b- 1) hs (by omega) (by rw [cz];omega) (by rw [cz];omega) (by omega) (Nat.le_refl _)
 rw [iy] at h2 h3
 rw [cz] at h4
 have e:ef (d,((a:Int),((b:Int),((p:Int),r))))=((run (cQ (d,((a:Int),((b:Int),((p:Int),r))))) (sw d a p,(((a+1:Nat):Int),((b- 1:Nat):Int)))).2,((run (cQ (d,((a:Int),((b:Int),((p:Int),r))))) (sw d a p,(((a+1:Nat):Int),((b- 1:Nat):Int)))).1,(false,(false,(false,false))))):=by
  simp only [ef,ai,e1,e2,Int.toNat_natCast];rfl
 rw [e]
 refine ⟨?_,h3,h2,h4,h5⟩
 simp only [cu,ay,e1,e2,List.length_set,Int.toNat_natCast]
 refine ⟨?_,?_,?_,?_,?_,?_,?_,?_,?_,?_,?_,?_,h1,h4⟩<;>omega
end Go.Proofs.Ytaipcbdilkcdbaa
namespace Go.Proofs.Ytaipcbdilkcdbaa
open Go Go.Ev Go.Proofs
section
variable {x:List Int×Int×Int×Int×RT} {a:Nat}
theorem UZ {b:Nat} (hx:x.2.1=(a:Int)) (tg:x.2.2.1=(b:Int)) {d:List Int} (hf:cJ x.2.2.2.2 d) (ha:a<d.length) (hb:b<=d.length) (h0:0<b) {i:Nat} (hi:i<=b- 1+2):
  TR (eI x) (m8 x) (d,(i:Int)) fun r=>r=(d,((Sort.scanUp (fun y=>c5 x.2.2.2.2 y (d.getD a 0)) d.toArray (b- 1) i:Nat):Int))/\ i<=Sort.scanUp (fun y=>c5 x.2.2.2.2 y (d.getD a 0)) d.toArray (b- 1) i/\ Sort.scanUp (fun y=>c5 x.2.2.2.2 y (d.getD a 0)) d.toArray (b- 1) i<=b- 1+2:=by
 have hl:=hf.len
 have e2:ae ((b:Int)- 1)=((b- 1:Nat):Int):=bU (by omega) (by omega)
 refine Fy (fun i=>(d,(i:Int))) (fun i=>(d,(i:Int))) _ d 0 (b- 1) (fun i _ hi=> ?_) (fun i _ hi h=> ?_) (fun i _ hi h=> ?_) _ i (by omega) hi (Nat.le_refl _)
 ·simp only [m8,hx,tg,e2,Int.toNat_natCast]
  intro h
  refine ⟨?_,?_,?_,?_,?_,?_,hf.Ke (by omega) ha⟩<;>omega
 ·simp only [eI,ai,hx,tg,e2,Int.toNat_natCast]
  rw [if_pos (by omega),if_pos ((jF _ _ _).2 h),bU (n:=(i:Int)+1) (m:=i+1) (by omega) (by omega)]
 ·simp only [eI,ai,hx,tg,e2,Int.toNat_natCast]
  by_cases hc:i<=b- 1
  ·rw [if_pos (by omega),if_neg (fun h'=>h ⟨hc,(jF _ _ _).1 h'⟩)]
  ·rw [if_neg (by omega)]
theorem PZ (hx:x.2.1=(a:Int)) {d:List Int} (hf:cJ x.2.2.2.2 d) {i:Nat} (h0:1<=i) (ha:a<d.length) {j:Nat} (hj:j<d.length) (hi:i<=j+2):
  TR (eJ x) (m9 x) (d,((i:Int),(j:Int))) fun r=>r=(d,((i:Int),((Sort.scanDown (fun y=> !c5 x.2.2.2.2 y (d.getD a 0)) d.toArray i j:Nat):Int)))/\ Sort.scanDown (fun y=> !c5 x.2.2.2.2 y (d.getD a 0)) d.toArray i j<=j/\ i<=Sort.scanDown (fun y=> !c5 x.2.2.2.2 y (d.getD a 0)) d.toArray i j+2:=by
 have hl:=hf.len
 refine xZ (fun j=>(d,((i:Int),(j:Int)))) (fun j=>(d,((i:Int),(j:Int)))) _ d j i h0 (fun j hj=> ?_) (fun j hj hi h=> ?_) (fun j hj h=> ?_) j (Nat.le_refl _) hi
 ·simp only [m9,hx,Int.toNat_natCast]
  intro h
  refine ⟨?_,?_,?_,?_,?_,?_,hf.Ke (by omega) ha⟩<;>omega
 ·simp only [eJ,ai,hx,Int.toNat_natCast]
  rw [if_pos (by omega),if_pos ((KJ _ _ _).2 h),bU (n:=((j+1:Nat):Int)- 1) (m:=j) (by omega) (by omega)]
 ·simp only [eJ,ai,hx,Int.toNat_natCast]
  by_cases hc:i<=j
  ·rw [if_pos (by omega),if_neg (fun h'=>h ⟨hc,(KJ _ _ _).1 h'⟩)]
  ·rw [if_neg (by omega)]
theorem Xf (hx:x.2.1=(a:Int)) {d:List Int} (hf:cJ x.2.2.2.2 d) {j:Nat} (ha:a<d.length) (hj:j<d.length) {i:Nat} (hi:i<=j+2):
  TR (eL x) (nc x) (d,((i:Int),(j:Int))) fun r=>r=(d,(((Sort.scanUp (fun y=>c5 x.2.2.2.2 y (d.getD a 0)) d.toArray j i:Nat):Int),(j:Int)))/\ i<=Sort.scanUp (fun y=>c5 x.2.2.2.2 y (d.getD a 0)) d.toArray j i/\ Sort.scanUp (fun y=>c5 x.2.2.2.2 y (d.getD a 0)) d.toArray j i<=j+2:=by
 have hl:=hf.len
 refine Fy (fun i=>(d,((i:Int),(j:Int)))) (fun i=>(d,((i:Int),(j:Int)))) _ d 0 j (fun i _ hi=> ?_) (fun i _ hi h=> ?_) (fun i _ hi h=> ?_) _ i (by omega) hi (Nat.le_refl _)
 ·simp only [nc,hx,Int.toNat_natCast]
  intro h
  refine ⟨?_,?_,?_,?_,?_,?_,hf.Ke (by omega) ha⟩<;>omega
 ·simp only [eL,ai,hx,Int.toNat_natCast]
  rw [if_pos (by omega),if_pos ((jF _ _ _).2 h),bU (n:=(i:Int)+1) (m:=i+1) (by omega) (by omega)]
 ·simp only [eL,ai,hx,Int.toNat_natCast]
  by_cases hc:i<=j
  ·rw [if_pos (by omega),if_neg (fun h'=>h ⟨hc,(jF _ _ _).1 h'⟩)]
  ·rw [if_neg (by omega)]
theorem So (hx:x.2.1=(a:Int)) {d:List Int} (hf:cJ x.2.2.2.2 d) {i:Nat} (h0:1<=i) (ha:a<d.length) {j:Nat} (hj:j<d.length) (hi:i<=j+2):
  TR (eM x) (ng x) (d,((i:Int),(j:Int))) fun r=>r=(d,((i:Int),((Sort.scanDown (fun y=> !c5 x.2.2.2.2 y (d.getD a 0)) d.toArray i j:Nat):Int)))/\ Sort.scanDown (fun y=> !c5 x.2.2.2.2 y (d.getD a 0)) d.toArray i j<=j/\ i<=Sort.scanDown (fun y=> !c5 x.2.2.2.2 y (d.getD a 0)) d.toArray i j+2:=by
 have hl:=hf.len
 refine xZ (fun j=>(d,((i:Int),(j:Int)))) (fun j=>(d,((i:Int),(j:Int)))) _ d j i h0 (fun j hj=> ?_) (fun j hj hi h=> ?_) (fun j hj h=> ?_) j (Nat.le_refl _) hi
 ·simp only [ng,hx,Int.toNat_natCast]
  intro h
  refine ⟨?_,?_,?_,?_,?_,?_,hf.Ke (by omega) ha⟩<;>omega
 ·simp only [eM,ai,hx,Int.toNat_natCast]
  rw [if_pos (by omega),if_pos ((KJ _ _ _).2 h),bU (n:=((j+1:Nat):Int)- 1) (m:=j) (by omega) (by omega)]
 ·simp only [eM,ai,hx,Int.toNat_natCast]
  by_cases hc:i<=j
  ·rw [if_pos (by omega),if_neg (fun h'=>h ⟨hc,(KJ _ _ _).1 h'⟩)]
  ·rw [if_neg (by omega)]
theorem Sq (hx:x.2.1=(a:Int)): ∀(n:Nat) (d:List Int) (i j:Nat),cJ x.2.2.2.2 d->1<=i->a<d.length->j<d.length->i<=j+2->j+1- i<=n->
  TR (bI x) (jU x) (d,((i:Int),(j:Int))) fun r=>r.1.toArray=(Sort.partLoop (c5 x.2.2.2.2) a i j d.toArray).2/\ r.2=((Sort.partLoop (c5 x.2.2.2.2) a i j d.toArray).1:Int)/\ r.1.length=d.length/\ cJ x.2.2.2.2 r.1/\ (Sort.partLoop (c5 x.2.2.2.2) a i j d.toArray).1<d.length:=by
 intro n
 induction n using Nat.strongRecOn with
 |ind n ih=>
 intro d i j hf h0 ha hj hij hn
 have hl:=hf.len
 obtain ⟨u1,u2,u3,u4⟩:=Xf hx hf ha hj hij
 obtain ⟨i2,IX⟩: ∃i2,i2=Sort.scanUp (fun y=>c5 x.2.2.2.2 y (d.getD a 0)) d.toArray j i:=⟨_,rfl⟩
 rw [<- IX] at u2 u3 u4
 obtain ⟨v1,v2,v3,v4⟩:=So hx hf (i:=i2) (by omega) ha hj (by omega)
 obtain ⟨j2,OC⟩: ∃j2,j2=Sort.scanDown (fun y=> !c5 x.2.2.2.2 y (d.getD a 0)) d.toArray i2 j:=⟨_,rfl⟩
 rw [<- OC] at v2 v3 v4
 have hE:Sort.partLoop (c5 x.2.2.2.2) a i j d.toArray=if i2>j2 then (j2,d.toArray) else Sort.partLoop (c5 x.2.2.2.2) a (i2+1) (j2- 1) (Sort.swp d.toArray i2 j2):=by
  rw [Sort.partLoop]
  simp only [bf,<- IX,<- OC]
  by_cases hc:i2>j2
  ·rw [if_pos hc,if_pos hc]
  ·rw [if_neg hc,if_neg hc,dif_pos (by omega)]
 by_cases hc:i2>j2
 ·refine TR.stop (r:=(d,(j2:Int))) ?_ ?_ ?_
  ·simp only [jU,ay,u2,v2]
   exact ⟨u1,v1,fun h=>absurd (show (i2:Int)>(j2:Int) by omega) h⟩
  ·simp only [bI,ai,u2,v2]
   rw [if_pos (by omega)]
  ·rw [hE,if_pos hc];exact ⟨rfl,rfl,rfl,hf,by show j2<d.length;omega⟩
 ·refine TR.go (s':=(sw d i2 j2,(((i2+1:Nat):Int),((j2- 1:Nat):Int)))) ?_ ?_ ((ih (j2- 1+1- (i2+1)) (by omega) (sw d i2 j2) (i2+1) (j2- 1) (hf.sw (i:=i2) (j:=j2) (by omega) (by omega)) (by omega) (by rw [cz];omega) (by rw [cz];omega) (by omega) (Nat.le_refl _)).mono fun r hr=> ?_)
  ·simp only [jU,ay,u2,v2,List.length_set,Int.toNat_natCast]
   refine ⟨u1,v1,fun _=> ?_⟩
   refine ⟨?_,?_,?_,?_,?_,?_,?_,?_,?_,?_,?_,?_⟩<;>omega
  ·simp only [bI,ai,u2,v2,Int.toNat_natCast]
   rw [if_neg (by omega),bU (n:=(i2:Int)+1) (m:=i2+1) (by omega) (by omega),bU (n:=(j2:Int)- 1) (m:=j2- 1) (by omega) (by omega)]
   rfl
  ·rw [hE,if_neg hc,←iy]
   rw [cz] at hr
   exact hr
end
theorem UY {r:RT} {d:List Int} (hf:cJ r d) {a b p:Nat} (hap:a<=p) (OJ:p<b) (hb:b<=d.length):
  bj (d,((a:Int),((b:Int),((p:Int),r))))/\ (bA (d,((a:Int),((b:Int),((p:Int),r))))).1.1=((Sort.partition (c5 r) d.toArray a b p).1:Int)/\
   (bA (d,((a:Int),((b:Int),((p:Int),r))))).2.1.toArray=(Sort.partition (c5 r) d.toArray a b p).2.2/\ (bA (d,((a:Int),((b:Int),((p:Int),r))))).2.1.length=d.length/\ cJ r (bA (d,((a:Int),((b:Int),((p:Int),r))))).2.1:=by
 have hl:=hf.len
 have e1:ae ((a:Int)+1)=((a+1:Nat):Int):=bU (by omega) (by omega)
 have e2:ae ((b:Int)- 1)=((b- 1:Nat):Int):=bU (by omega) (by omega)
 have hs:=hf.sw (i:=a) (j:=p) (by omega) (by omega)
 obtain ⟨D,hD⟩: ∃D,D=sw d a p:=⟨_,rfl⟩
 have ZM:D.length=d.length:=by rw [hD,cz]
 rw [<- hD] at hs
 obtain ⟨X,hX⟩: ∃X:List Int×Int×Int×Int×RT,X=(d,((a:Int),((b:Int),((p:Int),r)))):=⟨_,rfl⟩
 have TN:X.2.2.2.2=r:=by rw [hX]
 have Vn:X.2.1=(a:Int):=by rw [hX]
 have Xz:X.2.2.1=(b:Int):=by rw [hX]
 have Yo:X.2.2.2.1=(p:Int):=by rw [hX]
 have Yn:X.1=d:=by rw [hX]
 have Yf:(d.set a (d.getD p 0)).set p (d.getD a 0)=D:=by rw [hD];rfl
 obtain ⟨u1,u2,u3,u4⟩:=UZ (x:=X) Vn Xz (d:=D) (by rw [TN];exact hs) (i:=a+1) (by omega) (by omega) (by omega) (by omega)
 obtain ⟨i2,IX⟩: ∃i2,i2=Sort.scanUp (fun y=>c5 r y (D.getD a 0)) D.toArray (b- 1) (a+1):=⟨_,rfl⟩
 rw [TN,<- IX] at u2 u3 u4
 obtain ⟨v1,v2,v3,v4⟩:=PZ (x:=X) Vn (d:=D) (by rw [TN];exact hs) (i:=i2) (by omega) (by omega) (j:=b- 1) (by omega) (by omega)
 obtain ⟨j2,OC⟩: ∃j2,j2=Sort.scanDown (fun y=> !c5 r y (D.getD a 0)) D.toArray i2 (b- 1):=⟨_,rfl⟩
 rw [TN,<- OC] at v2 v3 v4
 have hE:Sort.partition (c5 r) d.toArray a b p=if i2>j2 then (j2,true,Sort.swp D.toArray j2 a) else ((Sort.partLoop (c5 r) a (i2+1) (j2- 1) (Sort.swp D.toArray i2 j2)).1,false,Sort.swp (Sort.partLoop (c5 r) a (i2+1) (j2- 1) (Sort.swp D.toArray i2 j2)).2 (Sort.partLoop (c5 r) a (i2+1) (j2- 1) (Sort.swp D.toArray i2 j2)).1 a):=by
  unfold Sort.partition
  simp only [<- iy,<- hD,bf,<- IX,<- OC]
 have hM:bA X=(if (i2:Int)>(j2:Int) then (((j2:Int),true),(sw D j2 a,(false,(false,(false,false))))) else
   (((run (bI X) (sw D i2 j2,(ae ((i2:Int)+1),ae ((j2:Int)- 1)))).2,false),(((run (bI X) (sw D i2 j2,(ae ((i2:Int)+1),ae ((j2:Int)- 1)))).1.set (Int.toNat (run (bI X) (sw D i2 j2,(ae ((i2:Int)+1),ae ((j2:Int)- 1)))).2) ((run (bI X) (sw D i2 j2,(ae ((i2:Int)+1),ae ((j2:Int)- 1)))).1.getD a 0)).set a ((run (bI X) (sw D i2 j2,(ae ((i2:Int)+1),ae ((j2:Int)- 1)))).1.getD (Int.toNat (run (bI X) (sw D i2 j2,(ae ((i2:Int)+1),ae ((j2:Int)- 1)))).2) 0),(false,(false,(false,false)))))):=by
  simp only [bA,ai,Yn,Yo,Vn,Xz,Int.toNat_natCast,Yf,e1,e2,u2,v2]
  rfl
 by_cases hc:i2>j2
 ·have Rm:bA X=(((j2:Int),true),(sw D j2 a,(false,(false,(false,false))))):=by rw [hM,if_pos (by omega)]
  rw [<- hX]
  refine ⟨?_,by rw [Rm,hE,if_pos hc],by rw [Rm,hE,if_pos hc];exact iy _ _ _,by rw [Rm];show (sw D j2 a).length=_;rw [cz,ZM],by rw [Rm];exact hs.sw (by omega) (by omega)⟩
  simp only [bj,ay,Yn,Yo,Vn,Xz,Int.toNat_natCast,List.length_set,Yf,e1,e2,u2,v2]
  repeat' (first|exact u1|exact v1|with_reducible apply And.intro|intro _)
  all_goals omega
 ·have q1:ae ((i2:Int)+1)=((i2+1:Nat):Int):=bU (by omega) (by omega)
  have q2:ae ((j2:Int)- 1)=((j2- 1:Nat):Int):=bU (by omega) (by omega)
  obtain ⟨w1,w2,w3,w4,w5,w6⟩:=Sq (x:=X) Vn _ (sw D i2 j2) (i2+1) (j2- 1) (by rw [TN];exact hs.sw (by omega) (by omega)) (by omega) (by rw [cz];omega) (by rw [cz];omega) (by omega) (Nat.le_refl _)
  rw [TN,iy] at w2 w3 w6
  rw [TN] at w5
  rw [cz] at w4 w6
  obtain ⟨R,hR⟩: ∃R,R=run (bI X) (sw D i2 j2,(((i2+1:Nat):Int),((j2- 1:Nat):Int))):=⟨_,rfl⟩
  obtain ⟨m,hm⟩: ∃m,m=(Sort.partLoop (c5 r) a (i2+1) (j2- 1) (Sort.swp D.toArray i2 j2)).1:=⟨_,rfl⟩
  rw [<- hm] at w3 w6
  rw [<- hR] at w2 w3 w4 w5
  have Rm:bA X=(((m:Int),false),(sw R.1 m a,(false,(false,(false,false))))):=by
   rw [hM,if_neg (by omega),q1,q2,<- hR,w3,Int.toNat_natCast];rfl
  rw [<- hX]
  refine ⟨?_,by rw [Rm,hE,if_neg hc,hm],by rw [Rm,hE,if_neg hc,<- w2,<- hm];exact iy _ _ _,by rw [Rm];show (sw R.1 m a).length=_;rw [cz];omega,by rw [Rm];exact w5.sw (by omega) (by omega)⟩
  simp only [bj,ay,Yn,Yo,Vn,Xz,Int.toNat_natCast,List.length_set,Yf,e1,e2,u2,v2,q1,q2]
  have hsw:(D.set i2 (D.getD j2 0)).set j2 (D.getD i2 0)=sw D i2 j2:=rfl
  simp only [hsw,<- hR,w3,Int.toNat_natCast]
  repeat' (first|exact u1|exact v1|exact w1|with_reducible apply And.intro|intro _)
  all_goals omega
end Go.Proofs.Ytaipcbdilkcdbaa
