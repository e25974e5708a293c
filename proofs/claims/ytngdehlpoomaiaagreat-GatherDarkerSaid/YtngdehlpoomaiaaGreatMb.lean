/- Plain laws: numbers; roots; ways of the length of one. -/
import Derived.Test.YtngdehlpoomaiaaGreatWb
import Derived.Test.YtngdehlpoomaiaaGreatLb
noncomputable section
set_option linter.unusedSectionVars false
set_option linter.unusedVariables false
set_option linter.unusedSimpArgs false
namespace Go.Proofs.YtngdehlpoomaiaaGreat
open Go Go.Ev Go.Proofs
def aha (r b:Int):Bool:=decide (au ((BitVec.ofInt 64 r^^^BitVec.ofInt 64 b).toNat:Nat)<0)
theorem W9 (x:BitVec 64):au (x.toNat:Nat)=x.toInt:=by
 rw [au,IntKind.wrap_i64,BitVec.toInt_eq_toNat_cond]
 have:=x.isLt
 split<;>omega
theorem abA {r b:Int} (h1: -9223372036854775808<=r) (h2:r<=9223372036854775807) (h3: -9223372036854775808<=b) (h4:b<=9223372036854775807):aha r b=(decide (r<0)^^decide (b<0)):=by
 have hm: ∀n:Int,-9223372036854775808<=n->n<=9223372036854775807->(BitVec.ofInt 64 n).msb=decide (n<0):=fun n h h'=>by
  rw [BitVec.msb_eq_toInt,BitVec.toInt_ofInt,Int.bmod_eq_of_le (by omega) (by omega)]
 unfold aha
 rw [W9,<- BitVec.msb_eq_toInt,BitVec.msb_xor,hm r h1 h2,hm b h3 h4]
theorem tdm {a b:Int} (hb:0<b):(a.tmod b≠0/\ a<0->a.tdiv b=a / b+1/\ a.tmod b=a % b- b)/\ (¬(a.tmod b≠0/\ a<0)->a.tdiv b=a / b/\ a.tmod b=a % b):=by
 have h1:=Int.mul_tdiv_add_tmod a b
 have h2:=Int.mul_ediv_add_emod a b
 have h3:=Int.emod_nonneg a (show b≠0 by omega)
 have h4:=Int.emod_lt_of_pos a hb
 by_cases ha:0<=a
 ·have e1:=Int.tdiv_eq_ediv_of_nonneg (b:=b) ha
  have e2:=Int.tmod_eq_emod_of_nonneg (b:=b) ha
  refine ⟨fun h=>by omega,fun _=>⟨e1,e2⟩⟩
 ·have e0:a.tdiv b=if a % b=0 then a / b else a / b+1:=by
   rw [Int.tdiv_eq_ediv]
   have:(0<=a\/ b ∣ a)↔a % b=0:=⟨fun h=>h.elim (fun h=>by omega) Int.emod_eq_zero_of_dvd,fun h=> .inr (Int.dvd_of_emod_eq_zero h)⟩
   have hs:b.sign=1:=Int.sign_eq_one_of_pos hb
   simp only [this,hs]
   split<;>simp
  have e2:a.tmod b=if a % b=0 then 0 else a % b- b:=by
   rw [e0] at h1
   split at h1<;>rename_i hz
   ·rw [if_pos hz];omega
   ·rw [if_neg hz]
    rw [Int.mul_add] at h1;omega
  rw [e0,e2]
  by_cases hz:a % b=0
  ·simp [hz]
  ·simp only [hz,if_false]
   refine ⟨fun _=>by simp,fun h=>absurd ⟨by omega,by omega⟩ h⟩
theorem KH (x:Int×Int):oJ x:=by
 unfold oJ B2 aB
 intro h
 have h0:x.2≠0:=fun h0=>h (by simp [h0])
 exact ⟨h0,h0⟩
theorem Hv {a b:Int} (h1: -9223372036854775808<=a) (h2:a<=9223372036854775807) (hb:0<b) (dI:b<=9223372036854775807):BZ (a,b)=(a / b,a % b,0):=by
 have ho:B2 (a,b)=0:=by
  unfold B2
  dsimp only
  rw [if_neg (by simp;omega)]
  split
  ·rw [if_neg (by simp;omega)]
  ·rfl
 have h3:=Int.emod_nonneg a (show b≠0 by omega)
 have h4:=Int.emod_lt_of_pos a hb
 have h6:=Int.mul_ediv_add_emod a b
 have h5: -9223372036854775808<=a / b/\ a / b<=9223372036854775807:=by
  by_cases ha:0<=a
  ·have:=Int.ediv_nonneg ha (show 0≤b by omega)
   have:=Int.ediv_le_self b ha
   omega
  ·have hq:=Int.ediv_neg_of_neg_of_pos (show a<0 by omega) hb
   have e:=Int.mul_nonneg (show 0<=b- 1 by omega) (show 0<= -(a / b)- 1 by omega)
   have e':(b- 1)*(-(a / b)- 1)= -(b*(a / b))- b+a / b+1:=by grind
   omega
 obtain ⟨t1,t2⟩:=tdm (a:=a) hb
 have hx: ∀r:Int,-9223372036854775808<=r->r<=9223372036854775807->(au (((BitVec.toNat ((BitVec.ofInt 64 r)^^^(BitVec.ofInt 64 b))):Nat):Int)<0↔r<0):=fun r hr Xk=>by
  have:=abA hr Xk (show-9223372036854775808<=b by omega) dI
  unfold aha at this
  simp only [show¬b<0 by omega,decide_false,Bool.xor_false,decide_eq_decide] at this
  exact this
 unfold BZ
 rw [ho]
 dsimp only [aj]
 rw [if_neg (by decide)]
 by_cases hc:a.tmod b≠0/\ a<0
 ·obtain ⟨e1,e2⟩:=t1 hc
  rw [if_pos (by simpa using hc.1),if_pos ((hx _ (by omega) (by omega)).2 (by omega)),e1,e2]
  have hn:a / b<0:=Int.ediv_neg_of_neg_of_pos hc.2 hb
  rw [aC (n:=a / b+1) (by omega) (by omega),aC (by omega) (by omega),aC (by omega) (by omega)]
  congr 1
  ·omega
  ·congr 1;omega
 ·obtain ⟨e1,e2⟩:=t2 hc
  have acQ:(au (a.tdiv b),a.tmod b,(0:Int))=(a / b,a % b,0):=by rw [e1,e2,aC (by omega) (by omega)]
  split
  ·rename_i hne
   rw [if_neg (fun h=>by
    have h:=(hx _ (by omega) (by omega)).1 h
    omega)]
   exact acQ
  ·exact acQ
theorem ajo {a b:Int} (hb:0<=b) (h:b<a):b*b<a*a:=by
 have h1:=Int.mul_nonneg (show 0<=a- b- 1 by omega) (show 0<=a+b by omega)
 have e:(a- b- 1)*(a+b)=a*a- b*b- a- b:=by grind
 omega
theorem ZH {a b:Int} (hb:0<=b) (h:a*a<=b*b):a<=b:=by
 refine Int.not_lt.1 fun hlt=> ?_
 have:=ajo hb hlt
 omega
theorem qP {a b:Int} (hb:0<=b) (h:a*a<b*b):a<b:=by
 refine Int.not_le.1 fun hle=> ?_
 have h1:=Int.mul_nonneg (show 0<=a- b by omega) (show 0<=a+b by omega)
 have e:(a- b)*(a+b)=a*a- b*b:=by grind
 omega
theorem AH (a:Int):0<=a*a:=by
 rcases Int.le_total 0 a with h|h
 ·exact Int.mul_nonneg h h
 ·have:=Int.mul_nonneg (show 0≤ -a by omega) (show 0≤ -a by omega)
  rwa [Int.neg_mul_neg] at this
def D9 (n r:Int):Prop:=0<=r/\ r*r<=n/\ n<(r+1)*(r+1)
theorem D9.uniq {n r s:Int} (h:D9 n r) (g:D9 n s):r=s:=by
 have h1:=qP (a:=r) (b:=s+1) (by have:=g.1;omega) (by have:=h.2.1;have:=g.2.2;omega)
 have h2:=qP (a:=s) (b:=r+1) (by have:=h.1;omega) (by have:=g.2.1;have:=h.2.2;omega)
 omega
theorem F6 {n:Int} (h0:0<=n) (h1:n<=9223372036854775807):uS (3037000499,n)/\ D9 n (DS (3037000499,n)):=by
 have key:=N5 (step:=jx (3037000499,n)) (pre:=uR (3037000499,n)) (fun s=>0<=s.1/\ s.1<=s.2/\ s.2<=3037000499/\ s.1*s.1<=n/\ n<(s.2+1)*(s.2+1)) (fun s=>(s.2- s.1).toNat) (fun r=>D9 n r) (fun s hJ=>by
  obtain ⟨lo,hi⟩:=s
  obtain ⟨j1,j2,j3,j4,j5⟩:=hJ
  dsimp only at j1 j2 j3 j4 j5
  refine ⟨trivial,?_⟩
  unfold jx
  dsimp only
  by_cases hlt:lo<hi
  ·rw [if_pos hlt]
   have e1:au ((au (hi- lo))+1)=hi- lo+1:=by rw [aC (n:=hi- lo) (by omega) (by omega),aC (by omega) (by omega)]
   have e2:au (Int.tdiv (hi- lo+1) 2)=(hi- lo+1) / 2:=by rw [Int.tdiv_eq_ediv_of_nonneg (by omega),aC (by omega) (by omega)]
   have e3:au (lo+(hi- lo+1) / 2)=lo+(hi- lo+1) / 2:=aC (by omega) (by omega)
   rw [e1,e2,e3]
   obtain ⟨m,hm⟩: ∃m,m=lo+(hi- lo+1) / 2:=⟨_,rfl⟩
   rw [<- hm]
   have m1:lo<m/\ m<=hi:=by omega
   have hmm:m*m<=3037000499*3037000499:=by
    have:=Int.mul_nonneg (show 0<=3037000499- m by omega) (show 0<=3037000499+m by omega)
    have e:(3037000499- m)*(3037000499+m)=3037000499*3037000499- m*m:=by grind
    omega
   have hm0:=AH m
   have e4:au (m*m)=m*m:=aC (by omega) (by omega)
   have e5:au (m- 1)=m- 1:=aC (by omega) (by omega)
   have es:Ul (m,n)=decide (m*m<=n):=by unfold Ul;rw [e4]
   unfold aj
   rw [es,e5]
   by_cases hs:m*m<=n
   ·rw [decide_eq_true hs]
    dsimp only
    rw [if_pos rfl]
    refine ⟨fun s' h=> ?_,fun r h=>(by cases h)⟩
    cases h
    exact ⟨⟨by omega,by omega,j3,hs,j5⟩,by dsimp only;omega⟩
   ·rw [decide_eq_false hs]
    dsimp only
    rw [if_neg (by decide)]
    refine ⟨fun s' h=> ?_,fun r h=>(by cases h)⟩
    cases h
    exact ⟨⟨j1,by dsimp only;omega,by dsimp only;omega,j4,by dsimp only;rw [show m- 1+1=m by omega];omega⟩,by dsimp only;omega⟩
  ·rw [if_neg hlt]
   refine ⟨fun s' h=>(by cases h),fun r h=> ?_⟩
   cases h
   have:lo=hi:=by omega
   subst this
   exact ⟨j1,j4,j5⟩) (0,3037000499) ⟨by decide,by decide,by decide,h0,by dsimp only;omega⟩
 exact key
theorem Pr {n:Int} (h0:0<=n) (h1:n<=9223372036854775807):nV n/\ ∃r,AW n=(r,0)/\ D9 n r:=by
 obtain ⟨s1,s2⟩:=F6 h0 h1
 unfold nV AW aj
 rw [if_neg (by omega)]
 exact ⟨fun _=>s1,_,rfl,s2⟩
theorem rK {a b:Int} (h1: -9223372036854775808<=a) (h2:a<=9223372036854775807) (hb:0<b) (dI:b<=9223372036854775807):rL (a,b)/\ ES (a,b)=a / b:=by
 refine ⟨KH _,?_⟩
 unfold ES aj
 rw [Hv h1 h2 hb dI]
def yQ (p q:P3):Int:=p.1*q.1+p.2.1*q.2.1+p.2.2*q.2.2
theorem Zr (x:List P3) (hl:x.length<4611686018427387904):ou x/\ LF x= !x.any (fun p=> !decide (Nr p)):=by
 have hn: ∀a b c:Int,PT [a,b,c]=decide (Nr (a,b,c)):=fun a b c=>by
  rw [(wI [a,b,c] (by simp)).2,Bool.eq_iff_iff];simp
 refine lX x hl _ _ _ (fun i hi=> ?_) (fun i v hv=> ?_) ?_
 ·unfold uv
  intro h
  simp only [Int.toNat_natCast]
  exact ⟨⟨by omega,by omega⟩,by omega,by omega,(wI _ (by simp)).1⟩
 ·have hlt:=dA hv
  unfold iY
  rw [if_pos (by omega),Int.toNat_natCast,iW hv]
  unfold aj
  rw [hn]
 ·unfold iY
  rw [if_neg (by omega)]
theorem abe (x:P3×P3) (p q:P3):TR (fZ x) (C6 x) (p.1,p.2.1,p.2.2,q.1,q.2.1,q.2.2,0,0) fun r=>r=au (au (au (0+au (p.1*q.1))+au (p.2.1*q.2.1))+au (p.2.2*q.2.2)):=by
 refine TR.go (s':=(p.1,p.2.1,p.2.2,q.1,q.2.1,q.2.2,au (0+au (p.1*q.1)),1)) (fun _=>by dsimp only;refine ⟨?_,?_,?_,?_⟩<;>decide) (by unfold fZ;rw [if_pos (by dsimp only;decide)];rfl) ?_
 refine TR.go (s':=(p.1,p.2.1,p.2.2,q.1,q.2.1,q.2.2,au (au (0+au (p.1*q.1))+au (p.2.1*q.2.1)),2)) (fun _=>by dsimp only;refine ⟨?_,?_,?_,?_⟩<;>decide) (by unfold fZ;rw [if_pos (by dsimp only;decide)];rfl) ?_
 refine TR.go (s':=(p.1,p.2.1,p.2.2,q.1,q.2.1,q.2.2,au (au (au (0+au (p.1*q.1))+au (p.2.1*q.2.1))+au (p.2.2*q.2.2)),3)) (fun _=>by dsimp only;refine ⟨?_,?_,?_,?_⟩<;>decide) (by unfold fZ;rw [if_pos (by dsimp only;decide)];rfl) ?_
 exact TR.stop (fun h=>absurd h (by dsimp only;decide)) (by unfold fZ;rw [if_neg (by dsimp only;decide)]) rfl
theorem mb {a b A:Int} (hA:0<=A) (h1: -A<=a/\ a<=A) (h2: -A<=b/\ b<=A): -(A*A)<=a*b/\ a*b<=A*A:=wK h1.1 h1.2 h2.1 h2.2
theorem Hh {p q:P3} (hp:Nr p) (hq:Nr q):oH (p,q)/\ PS (p,q)=(yQ p q,0):=by
 obtain ⟨i1,i2⟩:=Br (x:= [p,q]) (by simp) (fun r hr=>by
  simp only [List.mem_cons,List.not_mem_nil,or_false] at hr
  rcases hr with rfl|rfl
  ·exact hp
  ·exact hq)
 have m1:=mb (A:=1048576) (by decide) hp.1 hq.1
 have m2:=mb (A:=1048576) (by decide) hp.2.1 hq.2.1
 have m3:=mb (A:=1048576) (by decide) hp.2.2 hq.2.2
 have k:=abe (p,q) p q
 have Ly: ∀p:P3,ga p=p:=fun _=>rfl
 unfold oH PS aB aj
 dsimp only
 rw [i2,Ly,Ly]
 refine ⟨⟨i1,fun _=>k.1⟩,?_⟩
 rw [if_neg (by decide),k.2]
 congr 1
 unfold yQ
 rw [aC (n:=p.1*q.1) (by omega) (by omega),aC (n:=p.2.1*q.2.1) (by omega) (by omega),aC (n:=p.2.2*q.2.2) (by omega) (by omega),aC (n:=0+p.1*q.1) (by omega) (by omega),aC (n:=0+p.1*q.1+p.2.1*q.2.1) (by omega) (by omega),aC (by omega) (by omega)]
 omega
theorem abd {p:P3} (hp: ¬Nr p) (q:P3):oH (p,q)/\ PS (p,q)=(0,5):=by
 obtain ⟨i1,i2⟩:=Zr [p,q] (by simp)
 have i3:LF [p,q]=false:=by
  rw [i2]
  simp [hp]
 unfold oH PS aB aj
 dsimp only
 rw [i3]
 exact ⟨⟨i1,fun h=>absurd rfl h⟩,rfl⟩
def U3 (u:P3):Prop:=(-1024<=u.1/\ u.1<=1024)/\ (-1024<=u.2.1/\ u.2.1<=1024)/\ (-1024<=u.2.2/\ u.2.2<=1024)
def G6 (v:P3) (r:Int):P3:=(1048576*v.1 / r,1048576*v.2.1 / r,1048576*v.2.2 / r)
theorem BV {v r:Int} (hv: -1048576<=v/\ v<=1048576) (hr:0<r) (Xk:r<=9223372036854775807):nU (v,r)/\ C5 (v,r)=1048576*v / r:=by
 have e:au (1048576*v)=1048576*v:=aC (by omega) (by omega)
 obtain ⟨f1,f2⟩:=rK (a:=1048576*v) (b:=r) (by omega) (by omega) hr Xk
 unfold nU C5 aj
 dsimp only
 rw [e]
 exact ⟨f1,f2⟩
theorem BM {v n r:Int} (hn:v*v<=n) (hr:D9 (1048576*n) r):1024*v<=r/\ -(1024*v)<=r:=by
 have h1:(1024*v)*(1024*v)<(r+1)*(r+1):=by
  have e:(1024*v)*(1024*v)=1048576*(v*v):=by grind
  have:=hr.2.2
  omega
 have h2:=qP (a:=1024*v) (b:=r+1) (by have:=hr.1;omega) h1
 have h3:=qP (a:= -(1024*v)) (b:=r+1) (by have:=hr.1;omega) (by rw [Int.neg_mul_neg];exact h1)
 omega
theorem RL {a r:Int} (hr:0<r) (h1:1024*a<=r) (h2: -(1024*a)<=r): -1024<=1048576*a / r/\ 1048576*a / r<=1024:=by
 constructor
 ·rw [Int.le_ediv_iff_mul_le hr];omega
 ·have:1048576*a / r<1025:=by rw [Int.ediv_lt_iff_lt_mul hr];omega
  omega
theorem aa6 {v:P3} (hv:Nr v) (h0:v≠(0,0,0)):c8 v/\ ∃r,0<r/\ D9 (1048576*yQ v v) r/\ jK v=(G6 v r,0)/\ U3 (G6 v r)/\ G6 v r≠(0,0,0):=by
 obtain ⟨a,b,c⟩:=v
 obtain ⟨d1,d2⟩:=Hh hv hv
 have s1:=AH a
 have s2:=AH b
 have s3:=AH c
 have m1:=mb (A:=1048576) (by decide) hv.1 hv.1
 have m2:=mb (A:=1048576) (by decide) hv.2.1 hv.2.1
 have m3:=mb (A:=1048576) (by decide) hv.2.2 hv.2.2
 dsimp only at m1 m2 m3
 obtain ⟨n,hn⟩: ∃n,n=yQ (a,b,c) (a,b,c):=⟨_,rfl⟩
 have hn':n=a*a+b*b+c*c:=hn
 have hpos:0<n:=by
  refine Int.lt_of_not_ge fun hle=>h0 ?_
  have z1:a*a=0:=by omega
  have z2:b*b=0:=by omega
  have z3:c*c=0:=by omega
  rw [Int.mul_eq_zero.1 z1|>.elim id id,Int.mul_eq_zero.1 z2|>.elim id id,Int.mul_eq_zero.1 z3|>.elim id id]
 obtain ⟨q1,r,q2,hr⟩:=Pr (n:=1048576*n) (by omega) (by omega)
 obtain ⟨pa,pb,pc⟩:(1024*a<=r/\ -(1024*a)<=r)/\ (1024*b<=r/\ -(1024*b)<=r)/\ (1024*c<=r/\ -(1024*c)<=r):=⟨BM (by omega) hr,BM (by omega) hr,BM (by omega) hr⟩
 have hrp:0<r:=by
  refine Int.lt_of_not_ge fun hle=> ?_
  have e:r=0:=by have:=hr.1;omega
  have:=hr.2.2
  rw [e] at this
  omega
 have Xk:r<=9223372036854775807:=by
  have:=qP (a:=r) (b:=9223372036854775807) (by decide) (by have:=hr.2.1;omega)
  omega
 obtain ⟨ua,va⟩:=BV hv.1 hrp Xk
 obtain ⟨ub,vb⟩:=BV hv.2.1 hrp Xk
 obtain ⟨uc,vc⟩:=BV hv.2.2 hrp Xk
 dsimp only at ua ub uc va vb vc
 have ew:au (1048576*n)=1048576*n:=aC (by omega) (by omega)
 have eE:SS ((a,b,c),r)=G6 (a,b,c) r:=by
  unfold SS aj G6
  dsimp only
  rw [va,vb,vc]
 have eP:Be ((a,b,c),r):=⟨ua,ub,uc⟩
 have ba:=RL hrp pa.1 pa.2
 have bb:=RL hrp pb.1 pb.2
 have bc:=RL hrp pc.1 pc.2
 have hfo: ∀p:P3,SY p=p:=fun _=>rfl
 have hfw: ∀p:P3,EX p=p:=fun _=>rfl
 refine ⟨?_,r,hrp,by rw [<- hn];exact hr,?_,⟨ba,bb,bc⟩,fun hz=> ?_⟩
 ·unfold c8 aB
  refine ⟨d1,?_⟩
  rw [d2,<- hn]
  dsimp only
  rw [ew]
  refine fun _ _=>⟨q1,?_⟩
  rw [q2,hfo]
  exact eP
 ·unfold jK aj
  rw [d2,<- hn]
  dsimp only
  rw [if_neg (by decide),if_neg (by simp;omega),ew,q2,hfo,eE,hfw]
 ·have z1:1048576*a / r=0:=congrArg Prod.fst hz
  have z2:1048576*b / r=0:=congrArg (fun p=>p.2.1) hz
  have z3:1048576*c / r=0:=congrArg (fun p=>p.2.2) hz
  have nn: ∀x:Int,1048576*x / r=0->0<=x/\ 1048576*x<r:=fun x hx=>by
   have h1:=Int.mul_ediv_add_emod (1048576*x) r
   have h2:=Int.emod_nonneg (1048576*x) (show r≠0 by omega)
   have h3:=Int.emod_lt_of_pos (1048576*x) hrp
   rw [hx,Int.mul_zero] at h1
   omega
  obtain ⟨a0,a1⟩:=nn a z1
  obtain ⟨b0,b1⟩:=nn b z2
  obtain ⟨c0,c1⟩:=nn c z3
  have hS:r*r<=(1024*(a+b+c))*(1024*(a+b+c)):=by
   have e:(1024*(a+b+c))*(1024*(a+b+c))=1048576*(a*a+b*b+c*c)+2097152*(a*b+b*c+a*c):=by grind
   have p1:=Int.mul_nonneg a0 b0
   have p2:=Int.mul_nonneg b0 c0
   have p3:=Int.mul_nonneg a0 c0
   have:=hr.2.1
   omega
  have:=ZH (by omega) hS
  omega
theorem aa5 {v:P3} (hv: ¬Nr v):c8 v/\ jK v=((0,0,0),5):=by
 obtain ⟨d1,d2⟩:=abd hv v
 unfold c8 jK aB aj
 rw [d2]
 exact ⟨⟨d1,fun h=>absurd (by decide) h⟩,rfl⟩
theorem KA:c8 (0,0,0)/\ jK (0,0,0)=((0,0,0),3):=by
 obtain ⟨d1,d2⟩:=Hh (p:=(0,0,0)) (q:=(0,0,0)) (by decide) (by decide)
 unfold c8 jK aB aj
 rw [d2]
 exact ⟨⟨d1,fun _ h=>absurd (by decide) h⟩,rfl⟩
end Go.Proofs.YtngdehlpoomaiaaGreat
namespace Go.Proofs.YtngdehlpoomaiaaGreat
open Go Go.Ev Go.Proofs
def rt (n:Int):Int:=DS (3037000499,n)
theorem RX {n:Int} (h0:0<=n) (h1:n<=9223372036854775807):nV n/\ AW n=(rt n,0)/\ D9 n (rt n):=by
 obtain ⟨s1,s2⟩:=F6 h0 h1
 refine ⟨(Pr h0 h1).1,?_,s2⟩
 unfold AW aj
 rw [if_neg (by omega)];rfl
def cK (v:P3):P3:=G6 v (rt (1048576*yQ v v))
theorem gW {v:P3} (hv:Nr v) (h0:v≠(0,0,0)):c8 v/\ jK v=(cK v,0)/\ U3 (cK v)/\ cK v≠(0,0,0):=by
 obtain ⟨h1,r,h2,h3,h4,h5,h6⟩:=aa6 hv h0
 have e:G6 v r=cK v:=by
  have h7:0<=1048576*yQ v v/\ 1048576*yQ v v<=9223372036854775807:=by
   have s1:=AH v.1
   have s2:=AH v.2.1
   have s3:=AH v.2.2
   have m1:=mb (A:=1048576) (by decide) hv.1 hv.1
   have m2:=mb (A:=1048576) (by decide) hv.2.1 hv.2.1
   have m3:=mb (A:=1048576) (by decide) hv.2.2 hv.2.2
   unfold yQ
   omega
  unfold cK
  rw [h3.uniq (RX h7.1 h7.2).2.2]
 rw [<- e]
 exact ⟨h1,h4,h5,h6⟩
def lo (x:Int):Int:=if x>0 then-x else x
theorem Hq {x:Int} (h: -1048576<=x/\ x<=1048576):Dn x=lo x:=by
 unfold Dn lo
 split
 ·rw [aC (by omega) (by omega)];omega
 ·rfl
def ax1 (u:P3):Int:=if lo u.2.1<lo u.1 then 1 else 0
def jh (u:P3):Int:=if lo u.2.2<lo (if lo u.2.1<lo u.1 then u.2.1 else u.1) then 2 else ax1 u
theorem XM {u:P3} (hu:U3 u):wH u/\ PK u=jh u:=by
 obtain ⟨a,b,c⟩:=u
 obtain ⟨ha,hb,hc⟩:=hu
 dsimp only at ha hb hc
 have la:=Hq (x:=a) (by omega)
 have lb:=Hq (x:=b) (by omega)
 have lc:=Hq (x:=c) (by omega)
 have Ly: ∀p:P3,ga p=p:=fun _=>rfl
 have key:TR (fc (a,b,c)) (AO (a,b,c)) (a,b,c,0,0) fun r=>r=jh (a,b,c):=by
  refine TR.go (s':=(a,b,c,0,1)) (fun _=>by dsimp only [aB];refine ⟨?_,?_,?_,?_⟩<;>decide) (by
   unfold fc aj
   rw [if_pos (by dsimp only;decide)]
   dsimp only
   rw [if_neg (Int.lt_irrefl _)];rfl) ?_
  refine TR.go (s':=(a,b,c,ax1 (a,b,c),2)) (fun _=>by dsimp only [aB];refine ⟨?_,?_,?_,?_⟩<;>decide) (by
   unfold fc aj
   rw [if_pos (by dsimp only;decide)]
   show (if Dn b<Dn a then Sum.inl (a,b,c,(1:Int),(2:Int)) else Sum.inl (a,b,c,(0:Int),(2:Int)))=_
   rw [la,lb]
   unfold ax1
   dsimp only
   split<;>rfl) ?_
  refine TR.go (s':=(a,b,c,jh (a,b,c),3)) (fun _=>by
   dsimp only [aB]
   unfold ax1
   dsimp only
   split<;>(refine ⟨?_,?_,?_,?_⟩<;>decide)) (by
   unfold fc aj
   rw [if_pos (by dsimp only;decide)]
   unfold jh ax1
   dsimp only
   by_cases h:lo b<lo a
   ·rw [if_pos h,if_pos h]
    show (if Dn c<Dn b then Sum.inl (a,b,c,(2:Int),(3:Int)) else Sum.inl (a,b,c,(1:Int),(3:Int)))=_
    rw [lc,lb]
    split<;>rfl
   ·rw [if_neg h,if_neg h]
    show (if Dn c<Dn a then Sum.inl (a,b,c,(2:Int),(3:Int)) else Sum.inl (a,b,c,(0:Int),(3:Int)))=_
    rw [lc,la]
    split<;>rfl) ?_
  exact TR.stop (fun h=>absurd h (by dsimp only;decide)) (by unfold fc;rw [if_neg (by dsimp only;decide)]) rfl
 unfold wH PK aB aj
 rw [Ly]
 exact ⟨key.1,key.2⟩
def Xh (k:Int):P3:=if k=0 then (0,1,0) else if k=1 then (0,0,1) else (1,0,0)
theorem Eo {u:P3} (h0:u≠(0,0,0)):(jh u=0/\ u.1≠0)\/ (jh u=1/\ u.2.1≠0)\/ (jh u=2/\ u.2.2≠0):=by
 obtain ⟨a,b,c⟩:=u
 have hn: ¬(a=0/\ b=0/\ c=0):=fun ⟨e1,e2,e3⟩=>h0 (by rw [e1,e2,e3])
 unfold jh ax1 lo
 dsimp only
 by_cases h1:a>0<;>by_cases h2:b>0<;>by_cases h3:c>0<;>simp only [h1,h2,h3,if_true,if_false]<;>(split<;>(try split)<;>simp<;>omega)
theorem X9 {u:P3} (h0:u≠(0,0,0)):EE (Xh (jh u)) u≠(0,0,0):=by
 obtain ⟨a,b,c⟩:=u
 rcases Eo h0 with ⟨e,h⟩|⟨e,h⟩|⟨e,h⟩<;>rw [e]<;>intro hz
 ·have:=congrArg (fun p=>p.2.2) hz
  simp [EE,Xh] at this
  exact h this
 ·have:=congrArg Prod.fst hz
  simp [EE,Xh] at this
  exact h this
 ·have:=congrArg (fun p=>p.2.1) hz
  simp [EE,Xh] at this
  exact h this
theorem afi (k:Int):Bd 32768 (Xh k):=by
 unfold Xh
 split
 ·exact ⟨by decide,by decide,by decide⟩
 ·split
  ·exact ⟨by decide,by decide,by decide⟩
  ·exact ⟨by decide,by decide,by decide⟩
def Jh (p:P3):P3:=(p.1 / 1024,p.2.1 / 1024,p.2.2 / 1024)
def W64 (n:Int):Prop:= -9223372036854775808<=n/\ n<=9223372036854775807
theorem II {p:P3} (h1:W64 p.1) (h2:W64 p.2.1) (h3:W64 p.2.2):qH p/\ Nf p=Jh p:=by
 obtain ⟨a1,a2⟩:=rK (b:=1024) h1.1 h1.2 (by decide) (by decide)
 obtain ⟨b1,b2⟩:=rK (b:=1024) h2.1 h2.2 (by decide) (by decide)
 obtain ⟨c1,c2⟩:=rK (b:=1024) h3.1 h3.2 (by decide) (by decide)
 have hfo: ∀p:P3,SY p=p:=fun _=>rfl
 have hfw: ∀p:P3,EX p=p:=fun _=>rfl
 unfold qH Nf Bc Yj oh xN aB aj Jh
 rw [hfo]
 dsimp only
 rw [hfw,a2,b2,c2]
 exact ⟨⟨a1,b1,c1⟩,rfl⟩
def frT (u:P3):P3:=cK (EE (Xh (jh u)) u)
def frB (u:P3):P3:=Jh (EE u (frT u))
theorem U3.bd {u:P3} (h:U3 u):Bd 32768 u:=⟨⟨by have:=h.1;omega,by have:=h.1;omega⟩,⟨by have:=h.2.1;omega,by have:=h.2.1;omega⟩,⟨by have:=h.2.2;omega,by have:=h.2.2;omega⟩⟩
theorem ahT {u t:P3} (hu:U3 u) (ht:U3 t):Bd 2097152 (EE u t):=by
 have f: ∀a b c d:Int,(-1024<=a/\ a<=1024)->(-1024<=b/\ b<=1024)->(-1024<=c/\ c<=1024)->(-1024<=d/\ d<=1024)-> -2097152<=a*b- c*d/\ a*b- c*d<=2097152:=fun a b c d h1 h2 h3 h4=>by
  have m1:=mb (A:=1024) (by decide) h1 h2
  have m2:=mb (A:=1024) (by decide) h3 h4
  omega
 exact ⟨f _ _ _ _ hu.2.1 ht.2.2 hu.2.2 ht.2.1,f _ _ _ _ hu.2.2 ht.1 hu.1 ht.2.2,f _ _ _ _ hu.1 ht.2.1 hu.2.1 ht.1⟩
theorem afx {u:P3} (hu:U3 u):Nr (EE (Xh (jh u)) u):=by
 obtain ⟨a,b,c⟩:=u
 have h1:=hu.1
 have h2:=hu.2.1
 have h3:=hu.2.2
 dsimp only at h1 h2 h3
 unfold EE Xh
 split
 ·simp only [Nr];omega
 ·split
  ·simp only [Nr];omega
  ·simp only [Nr];omega
def B3k (b:P3):Prop:=(-2048<=b.1/\ b.1<=2048)/\ (-2048<=b.2.1/\ b.2.1<=2048)/\ (-2048<=b.2.2/\ b.2.2<=2048)
theorem Vm {v:P3} (hv:Nr v) (h0:v≠(0,0,0)):vN v/\ Nh v=(((frT (cK v),frB (cK v)),cK v),0)/\ U3 (cK v)/\ U3 (frT (cK v))/\ B3k (frB (cK v)):=by
 obtain ⟨u1,u2,u3,u4⟩:=gW hv h0
 obtain ⟨u,hu⟩: ∃u,u=cK v:=⟨_,rfl⟩
 rw [<- hu] at u2 u3 u4 ⊢
 obtain ⟨x1,x2⟩:=XM u3
 obtain ⟨c1,c2⟩:=tC (afi (jh u)) u3.bd
 obtain ⟨t1,t2,t3,t4⟩:=gW (afx u3) (X9 u4)
 have eT:cK (EE (Xh (jh u)) u)=frT u:=rfl
 rw [eT] at t2 t3
 obtain ⟨d1,d2⟩:=tC u3.bd t3.bd
 have hcb:=ahT u3 t3
 obtain ⟨l1,l2⟩:=II (p:=EE u (frT u)) ⟨by have:=hcb.1;omega,by have:=hcb.1;omega⟩ ⟨by have:=hcb.2.1;omega,by have:=hcb.2.1;omega⟩ ⟨by have:=hcb.2.2;omega,by have:=hcb.2.2;omega⟩
 have hB:B3k (frB u):=by
  unfold frB Jh B3k
  have:=hcb.1
  have:=hcb.2.1
  have:=hcb.2.2
  dsimp only
  omega
 have hax:(EX ((cond (Nat.beq (0+((Int.toNat (Int.tmod (au (jh u+(1:Int))) (3:Int)))*1)) 0) (1:Int) (0:Int)),(cond (Nat.beq (0+((Int.toNat (Int.tmod (au (jh u+(1:Int))) (3:Int)))*1)) 1) (1:Int) (0:Int)),(cond (Nat.beq (0+((Int.toNat (Int.tmod (au (jh u+(1:Int))) (3:Int)))*1)) 2) (1:Int) (0:Int))))=Xh (jh u)/\ (((0:Int)<=(Int.tmod (au (jh u+(1:Int))) (3:Int)))/\ ((Int.tmod (au (jh u+(1:Int))) (3:Int))<(3:Int)))/\ ((((0+((Int.toNat (Int.tmod (au (jh u+(1:Int))) (3:Int)))*1))+1)<=3)):=by
  rcases Eo u4 with ⟨e,_⟩|⟨e,_⟩|⟨e,_⟩<;>rw [e]<;>exact ⟨rfl,⟨by decide,by decide⟩,by decide⟩
 refine ⟨?_,?_,u3,t3,hB⟩
 ·unfold vN aB
  rw [u2]
  refine ⟨u1,fun _=> ?_⟩
  dsimp only
  rw [x2]
  refine ⟨x1,hax.2.1,hax.2.2,?_⟩
  rw [hax.1,c2]
  refine ⟨c1,fun _=> ?_⟩
  dsimp only
  rw [t2]
  refine ⟨t1,fun _=> ?_⟩
  dsimp only
  rw [d2]
  exact ⟨d1,fun _=>l1⟩
 ·unfold Nh aj
  rw [u2]
  dsimp only
  rw [if_neg (by decide),x2,hax.1,c2]
  dsimp only
  rw [if_neg (by decide),t2]
  dsimp only
  rw [if_neg (by decide),d2]
  dsimp only
  rw [if_neg (by decide),l2]
  rfl
def Fr4 (w:P3):Prop:=(-4096<=w.1/\ w.1<=4096)/\ (-4096<=w.2.1/\ w.2.1<=4096)/\ (-4096<=w.2.2/\ w.2.2<=4096)
def atV (t b u:P3) (x y z:Int):P3:=Jh (t.1*x+b.1*y+u.1*z,t.2.1*x+b.2.1*y+u.2.1*z,t.2.2*x+b.2.2*y+u.2.2*z)
theorem KW {t b u x y z:Int} (ht: -1024<=t/\ t<=1024) (hb: -2048<=b/\ b<=2048) (hu: -1024<=u/\ u<=1024) (hx: -1024<=x/\ x<=1024) (hy: -1024<=y/\ y<=1024) (hz: -1024<=z/\ z<=1024):
  au (au (au (t*x)+au (b*y))+au (u*z))=t*x+b*y+u*z/\ -4194304<=t*x+b*y+u*z/\ t*x+b*y+u*z<=4194304:=by
 have m1:=mb (A:=1024) (by decide) ht hx
 have m2:=wK (A:=2048) (B:=1024) hb.1 hb.2 hy.1 hy.2
 have m3:=mb (A:=1024) (by decide) hu hz
 rw [aC (n:=t*x) (by omega) (by omega),aC (n:=b*y) (by omega) (by omega),aC (n:=u*z) (by omega) (by omega),aC (n:=t*x+b*y) (by omega) (by omega),aC (by omega) (by omega)]
 omega
theorem acu {t b u:P3} {x y z:Int} (ht:U3 t) (hb:B3k b) (hu:U3 u) (hx: -1024<=x/\ x<=1024) (hy: -1024<=y/\ y<=1024) (hz: -1024<=z/\ z<=1024):
  Dv (((t,b),u),x,y,z)/\ fat (((t,b),u),x,y,z)=atV t b u x y z/\ Fr4 (atV t b u x y z):=by
 obtain ⟨a1,a2,a3⟩:=KW ht.1 hb.1 hu.1 hx hy hz
 obtain ⟨b1,b2,b3⟩:=KW ht.2.1 hb.2.1 hu.2.1 hx hy hz
 obtain ⟨c1,c2,c3⟩:=KW ht.2.2 hb.2.2 hu.2.2 hx hy hz
 have hfo: ∀p:P3,SY p=p:=fun _=>rfl
 have hfw: ∀p:P3,EX p=p:=fun _=>rfl
 unfold Dv fat aB aj
 dsimp only
 rw [hfo,hfo,hfo,hfw,a1,b1,c1]
 obtain ⟨l1,l2⟩:=II (p:=(t.1*x+b.1*y+u.1*z,t.2.1*x+b.2.1*y+u.2.1*z,t.2.2*x+b.2.2*y+u.2.2*z)) ⟨by dsimp only;omega,by dsimp only;omega⟩ ⟨by dsimp only;omega,by dsimp only;omega⟩ ⟨by dsimp only;omega,by dsimp only;omega⟩
 refine ⟨l1,l2,?_⟩
 unfold atV Jh Fr4
 dsimp only
 omega
def M0 (x y:Int):Int:=rt (aT (1048576- x*x- y*y) 0)
def m0 (v:P3) (d:Int×Int):P3:=atV (frT (cK v)) (frB (cK v)) (cK v) d.1 d.2 (M0 d.1 d.2)
def InD (d:Int×Int):Prop:=(-1024<=d.1/\ d.1<=1024)/\ (-1024<=d.2/\ d.2<=1024)
theorem xK {v:P3} (hv:Nr v) (h0:v≠(0,0,0)) {d:Int×Int} (hd:InD d):pg (v,d)/\ yW (v,d)=(m0 v d,0)/\ Fr4 (m0 v d):=by
 obtain ⟨x,y⟩:=d
 obtain ⟨hx,hy⟩:=hd
 dsimp only at hx hy
 obtain ⟨o1,o2,o3,o4,o5⟩:=Vm hv h0
 have m1:=mb (A:=1024) (by decide) hx hx
 have m2:=mb (A:=1024) (by decide) hy hy
 have s1:=AH x
 have s2:=AH y
 have e1:au (au (1048576- au (x*x))- au (y*y))=1048576- x*x- y*y:=by
  rw [aC (n:=x*x) (by omega) (by omega),aC (n:=y*y) (by omega) (by omega),aC (n:=1048576- x*x) (by omega) (by omega),aC (by omega) (by omega)]
 have hM:0<=aT (1048576- x*x- y*y) 0/\ aT (1048576- x*x- y*y) 0<=1048576:=by unfold aT;split<;>omega
 obtain ⟨r1,r2,r3⟩:=RX hM.1 (by omega)
 have hz: -1024<=M0 x y/\ M0 x y<=1024:=by
  have h1:=r3.1
  have h2:=qP (a:=rt (aT (1048576- x*x- y*y) 0)) (b:=1025) (by decide) (by have:=r3.2.1;omega)
  unfold M0
  omega
 obtain ⟨f1,f2,f3⟩:=acu o4 o5 o3 hx hy hz
 have n1: ¬aY x y< -1024:=by unfold aY;split<;>omega
 have n2: ¬aT x y>1024:=by unfold aT;split<;>omega
 refine ⟨?_,?_,f3⟩
 ·unfold pg aB
  rw [o2]
  refine ⟨o1,fun _ _ _=> ?_⟩
  dsimp only
  rw [e1,r2]
  exact ⟨r1,f1⟩
 ·unfold yW aj
  rw [o2]
  dsimp only
  rw [if_neg (by decide),if_neg n1,if_neg n2,e1,r2]
  dsimp only
  have f2':fat (((frT (cK v),frB (cK v)),cK v),x,y,rt (aT (1048576- x*x- y*y) 0))=m0 v (x,y):=f2
  rw [f2']
def rz (p w:P3) (k:Int):P3:=(p.1+w.1*k / 1024,p.2.1+w.2.1*k / 1024,p.2.2+w.2.2*k / 1024)
theorem FF:gN 0/\ om 0=false:=⟨fun h=>absurd h (by decide),rfl⟩
theorem qA {w k:Int} (hw: -4096<=w/\ w<=4096) (hk:0<=k/\ k<=2048):nO (w,k)/\ Cc (w,k)=w*k / 1024/\ -8192<=w*k / 1024/\ w*k / 1024<=8192:=by
 have m:=wK (A:=4096) (B:=2048) hw.1 hw.2 (by omega) hk.2
 have e:au (w*k)=w*k:=aC (by omega) (by omega)
 have f:=Hv (a:=w*k) (b:=1024) (by omega) (by omega) (by decide) (by decide)
 unfold nO Cc aB aj
 dsimp only
 rw [e,f]
 exact ⟨⟨KH _,FF.1⟩,rfl,by omega,by omega⟩
theorem Ep {p w:P3} {k:Int} (hp:Nr p) (hw:Fr4 w) (hk:0<=k/\ k<=2048):l6 (p,w,k)/\ vP (p,w,k)=rz p w k:=by
 obtain ⟨a1,a2,a3⟩:=qA hw.1 hk
 obtain ⟨b1,b2,b3⟩:=qA hw.2.1 hk
 obtain ⟨c1,c2,c3⟩:=qA hw.2.2 hk
 have h1:=hp.1
 have h2:=hp.2.1
 have h3:=hp.2.2
 unfold l6 vP aB aj rz
 dsimp only
 rw [a2,b2,c2,aC (n:=p.1+w.1*k / 1024) (by omega) (by omega),aC (n:=p.2.1+w.2.1*k / 1024) (by omega) (by omega),aC (n:=p.2.2+w.2.2*k / 1024) (by omega) (by omega)]
 exact ⟨⟨a1,b1,c1⟩,rfl⟩
end Go.Proofs.YtngdehlpoomaiaaGreat
