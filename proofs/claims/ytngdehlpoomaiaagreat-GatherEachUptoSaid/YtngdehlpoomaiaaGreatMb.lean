/- Plain laws: numbers; roots; ways of the length of one. -/
import Derived.Test.YtngdehlpoomaiaaGreatWb
import Derived.Test.YtngdehlpoomaiaaGreatLb
noncomputable section
set_option linter.unusedSectionVars false
set_option linter.unusedVariables false
set_option linter.unusedSimpArgs false
namespace Go.Proofs.YtngdehlpoomaiaaGreat
open Go Go.Ev Go.Proofs
def aij (r b:Int):Bool:=decide (av ((BitVec.ofInt 64 r^^^BitVec.ofInt 64 b).toNat:Nat)<0)
theorem XT (x:BitVec 64):av (x.toNat:Nat)=x.toInt:=by
 rw [av,IntKind.wrap_i64,BitVec.toInt_eq_toNat_cond]
 have:=x.isLt
 split<;>omega
theorem acA {r b:Int} (h1: -9223372036854775808<=r) (h2:r<=9223372036854775807) (h3: -9223372036854775808<=b) (h4:b<=9223372036854775807):aij r b=(decide (r<0)^^decide (b<0)):=by
 have hm: ∀n:Int,-9223372036854775808<=n->n<=9223372036854775807->(BitVec.ofInt 64 n).msb=decide (n<0):=fun n h h'=>by
  rw [BitVec.msb_eq_toInt,BitVec.toInt_ofInt,Int.bmod_eq_of_le (by omega) (by omega)]
 unfold aij
 rw [XT,<- BitVec.msb_eq_toInt,BitVec.msb_xor,hm r h1 h2,hm b h3 h4]
theorem tdm {a b:Int} (hb:0<b):(a.tmod b≠0/\ a<0->a.tdiv b=a / b+1/\ a.tmod b=a % b- b)/\ (¬(a.tmod b≠0/\ a<0)->a.tdiv b=a / b/\ a.tmod b=a % b):=by
 have h1:=Int.mul_tdiv_add_tmod a b
 have h2:=Int.mul_ediv_add_emod a b
 have h3:=Int.emod_nonneg a (show b≠0 by omega)
 have h4:=Int.emod_lt_of_pos a hb
 by_cases ha:0<=a
 ·have e1:=Int.tdiv_eq_ediv_of_nonneg (b:=b) ha
  have e2:=Int.tmod_eq_emod_of_nonneg (b:=b) ha
  refine ⟨fun h=>by omega,fun _=>⟨e1,e2⟩⟩
 ·have e0:a.tdiv b=if a % b=0 then a / b else a / b+1:=by
   rw [Int.tdiv_eq_ediv]
   have:(0<=a\/ b ∣ a)↔a % b=0:=⟨fun h=>h.elim (fun h=>by omega) Int.emod_eq_zero_of_dvd,fun h=> .inr (Int.dvd_of_emod_eq_zero h)⟩
   have hs:b.sign=1:=Int.sign_eq_one_of_pos hb
   simp only [this,hs]
   split<;>simp
  have e2:a.tmod b=if a % b=0 then 0 else a % b- b:=by
   rw [e0] at h1
   split at h1<;>rename_i hz
   ·rw [if_pos hz];omega
   ·rw [if_neg hz]
    rw [Int.mul_add] at h1;omega
  rw [e0,e2]
  by_cases hz:a % b=0
  ·simp [hz]
  ·simp only [hz,if_false]
   refine ⟨fun _=>by simp,fun h=>absurd ⟨by omega,by omega⟩ h⟩
theorem Lj (x:Int×Int):oW x:=by
 unfold oW Cp aC
 intro h
 have h0:x.2≠0:=fun h0=>h (by simp [h0])
 exact ⟨h0,h0⟩
theorem H7 {a b:Int} (h1: -9223372036854775808<=a) (h2:a<=9223372036854775807) (hb:0<b) (dI:b<=9223372036854775807):Cn (a,b)=(a / b,a % b,0):=by
 have ho:Cp (a,b)=0:=by
  unfold Cp
  dsimp only
  rw [if_neg (by simp;omega)]
  split
  ·rw [if_neg (by simp;omega)]
  ·rfl
 have h3:=Int.emod_nonneg a (show b≠0 by omega)
 have h4:=Int.emod_lt_of_pos a hb
 have h6:=Int.mul_ediv_add_emod a b
 have h5: -9223372036854775808<=a / b/\ a / b<=9223372036854775807:=by
  by_cases ha:0<=a
  ·have:=Int.ediv_nonneg ha (show 0≤b by omega)
   have:=Int.ediv_le_self b ha
   omega
  ·have hq:=Int.ediv_neg_of_neg_of_pos (show a<0 by omega) hb
   have e:=Int.mul_nonneg (show 0<=b- 1 by omega) (show 0<= -(a / b)- 1 by omega)
   have e':(b- 1)*(-(a / b)- 1)= -(b*(a / b))- b+a / b+1:=by grind
   omega
 obtain ⟨t1,t2⟩:=tdm (a:=a) hb
 have hx: ∀r:Int,-9223372036854775808<=r->r<=9223372036854775807->(av (((BitVec.toNat ((BitVec.ofInt 64 r)^^^(BitVec.ofInt 64 b))):Nat):Int)<0↔r<0):=fun r hr X5=>by
  have:=acA hr X5 (show-9223372036854775808<=b by omega) dI
  unfold aij at this
  simp only [show¬b<0 by omega,decide_false,Bool.xor_false,decide_eq_decide] at this
  exact this
 unfold Cn
 rw [ho]
 dsimp only [aq]
 rw [if_neg (by decide)]
 by_cases hc:a.tmod b≠0/\ a<0
 ·obtain ⟨e1,e2⟩:=t1 hc
  rw [if_pos (by simpa using hc.1),if_pos ((hx _ (by omega) (by omega)).2 (by omega)),e1,e2]
  have hn:a / b<0:=Int.ediv_neg_of_neg_of_pos hc.2 hb
  rw [aF (n:=a / b+1) (by omega) (by omega),aF (by omega) (by omega),aF (by omega) (by omega)]
  congr 1
  ·omega
  ·congr 1;omega
 ·obtain ⟨e1,e2⟩:=t2 hc
  have ad1:(av (a.tdiv b),a.tmod b,(0:Int))=(a / b,a % b,0):=by rw [e1,e2,aF (by omega) (by omega)]
  split
  ·rename_i hne
   rw [if_neg (fun h=>by
    have h:=(hx _ (by omega) (by omega)).1 h
    omega)]
   exact ad1
  ·exact ad1
theorem aky {a b:Int} (hb:0<=b) (h:b<a):b*b<a*a:=by
 have h1:=Int.mul_nonneg (show 0<=a- b- 1 by omega) (show 0<=a+b by omega)
 have e:(a- b- 1)*(a+b)=a*a- b*b- a- b:=by grind
 omega
theorem aaw {a b:Int} (hb:0<=b) (h:a*a<=b*b):a<=b:=by
 refine Int.not_lt.1 fun hlt=> ?_
 have:=aky hb hlt
 omega
theorem qY {a b:Int} (hb:0<=b) (h:a*a<b*b):a<b:=by
 refine Int.not_le.1 fun hle=> ?_
 have h1:=Int.mul_nonneg (show 0<=a- b by omega) (show 0<=a+b by omega)
 have e:(a- b)*(a+b)=a*a- b*b:=by grind
 omega
theorem A1 (a:Int):0<=a*a:=by
 rcases Int.le_total 0 a with h|h
 ·exact Int.mul_nonneg h h
 ·have:=Int.mul_nonneg (show 0≤ -a by omega) (show 0≤ -a by omega)
  rwa [Int.neg_mul_neg] at this
def Ew (n r:Int):Prop:=0<=r/\ r*r<=n/\ n<(r+1)*(r+1)
theorem Ew.uniq {n r s:Int} (h:Ew n r) (g:Ew n s):r=s:=by
 have h1:=qY (a:=r) (b:=s+1) (by have:=g.1;omega) (by have:=h.2.1;have:=g.2.2;omega)
 have h2:=qY (a:=s) (b:=r+1) (by have:=h.1;omega) (by have:=g.2.1;have:=h.2.2;omega)
 omega
theorem GC {n:Int} (h0:0<=n) (h1:n<=9223372036854775807):vk (3037000499,n)/\ Ew n (Eh (3037000499,n)):=by
 have key:=OX (step:=jr (3037000499,n)) (pre:=vj (3037000499,n)) (fun s=>0<=s.1/\ s.1<=s.2/\ s.2<=3037000499/\ s.1*s.1<=n/\ n<(s.2+1)*(s.2+1)) (fun s=>(s.2- s.1).toNat) (fun r=>Ew n r) (fun s hJ=>by
  obtain ⟨lo,hi⟩:=s
  obtain ⟨j1,j2,j3,j4,j5⟩:=hJ
  dsimp only at j1 j2 j3 j4 j5
  refine ⟨trivial,?_⟩
  unfold jr
  dsimp only
  by_cases hlt:lo<hi
  ·rw [if_pos hlt]
   have e1:av ((av (hi- lo))+1)=hi- lo+1:=by rw [aF (n:=hi- lo) (by omega) (by omega),aF (by omega) (by omega)]
   have e2:av (Int.tdiv (hi- lo+1) 2)=(hi- lo+1) / 2:=by rw [Int.tdiv_eq_ediv_of_nonneg (by omega),aF (by omega) (by omega)]
   have e3:av (lo+(hi- lo+1) / 2)=lo+(hi- lo+1) / 2:=aF (by omega) (by omega)
   rw [e1,e2,e3]
   obtain ⟨m,hm⟩: ∃m,m=lo+(hi- lo+1) / 2:=⟨_,rfl⟩
   rw [<- hm]
   have m1:lo<m/\ m<=hi:=by omega
   have hmm:m*m<=3037000499*3037000499:=by
    have:=Int.mul_nonneg (show 0<=3037000499- m by omega) (show 0<=3037000499+m by omega)
    have e:(3037000499- m)*(3037000499+m)=3037000499*3037000499- m*m:=by grind
    omega
   have hm0:=A1 m
   have e4:av (m*m)=m*m:=aF (by omega) (by omega)
   have e5:av (m- 1)=m- 1:=aF (by omega) (by omega)
   have es:Vb (m,n)=decide (m*m<=n):=by unfold Vb;rw [e4]
   unfold aq
   rw [es,e5]
   by_cases hs:m*m<=n
   ·rw [decide_eq_true hs]
    dsimp only
    rw [if_pos rfl]
    refine ⟨fun s' h=> ?_,fun r h=>(by cases h)⟩
    cases h
    exact ⟨⟨by omega,by omega,j3,hs,j5⟩,by dsimp only;omega⟩
   ·rw [decide_eq_false hs]
    dsimp only
    rw [if_neg (by decide)]
    refine ⟨fun s' h=> ?_,fun r h=>(by cases h)⟩
    cases h
    exact ⟨⟨j1,by dsimp only;omega,by dsimp only;omega,j4,by dsimp only;rw [show m- 1+1=m by omega];omega⟩,by dsimp only;omega⟩
  ·rw [if_neg hlt]
   refine ⟨fun s' h=>(by cases h),fun r h=> ?_⟩
   cases h
   have:lo=hi:=by omega
   subst this
   exact ⟨j1,j4,j5⟩) (0,3037000499) ⟨by decide,by decide,by decide,h0,by dsimp only;omega⟩
 exact key
theorem Qr {n:Int} (h0:0<=n) (h1:n<=9223372036854775807):nX n/\ ∃r,Bh n=(r,0)/\ Ew n r:=by
 obtain ⟨s1,s2⟩:=GC h0 h1
 unfold nX Bh aq
 rw [if_neg (by omega)]
 exact ⟨fun _=>s1,_,rfl,s2⟩
theorem rP {a b:Int} (h1: -9223372036854775808<=a) (h2:a<=9223372036854775807) (hb:0<b) (dI:b<=9223372036854775807):rQ (a,b)/\ Fp (a,b)=a / b:=by
 refine ⟨Lj _,?_⟩
 unfold Fp aq
 rw [H7 h1 h2 hb dI]
def zg (p q:P3):Int:=p.1*q.1+p.2.1*q.2.1+p.2.2*q.2.2
theorem aag (x:List P3) (hl:x.length<4611686018427387904):oC x/\ Mj x= !x.any (fun p=> !decide (Nr p)):=by
 have hn: ∀a b c:Int,QK [a,b,c]=decide (Nr (a,b,c)):=fun a b c=>by
  rw [(wY [a,b,c] (by simp)).2,Bool.eq_iff_iff];simp
 refine jV x hl _ _ _ (fun i hi=> ?_) (fun i v hv=> ?_) ?_
 ·unfold uO
  intro h
  simp only [Int.toNat_natCast]
  exact ⟨⟨by omega,by omega⟩,by omega,by omega,(wY _ (by simp)).1⟩
 ·have hlt:=c6 hv
  unfold iU
  rw [if_pos (by omega),Int.toNat_natCast,iS hv]
  unfold aq
  rw [hn]
 ·unfold iU
  rw [if_neg (by omega)]
theorem ab9 (x:P3×P3) (p q:P3):TR (fU x) (Dr x) (p.1,p.2.1,p.2.2,q.1,q.2.1,q.2.2,0,0) fun r=>r=av (av (av (0+av (p.1*q.1))+av (p.2.1*q.2.1))+av (p.2.2*q.2.2)):=by
 refine TR.go (s':=(p.1,p.2.1,p.2.2,q.1,q.2.1,q.2.2,av (0+av (p.1*q.1)),1)) (fun _=>by dsimp only;refine ⟨?_,?_,?_,?_⟩<;>decide) (by unfold fU;rw [if_pos (by dsimp only;decide)];rfl) ?_
 refine TR.go (s':=(p.1,p.2.1,p.2.2,q.1,q.2.1,q.2.2,av (av (0+av (p.1*q.1))+av (p.2.1*q.2.1)),2)) (fun _=>by dsimp only;refine ⟨?_,?_,?_,?_⟩<;>decide) (by unfold fU;rw [if_pos (by dsimp only;decide)];rfl) ?_
 refine TR.go (s':=(p.1,p.2.1,p.2.2,q.1,q.2.1,q.2.2,av (av (av (0+av (p.1*q.1))+av (p.2.1*q.2.1))+av (p.2.2*q.2.2)),3)) (fun _=>by dsimp only;refine ⟨?_,?_,?_,?_⟩<;>decide) (by unfold fU;rw [if_pos (by dsimp only;decide)];rfl) ?_
 exact TR.stop (fun h=>absurd h (by dsimp only;decide)) (by unfold fU;rw [if_neg (by dsimp only;decide)]) rfl
theorem mb {a b A:Int} (hA:0<=A) (h1: -A<=a/\ a<=A) (h2: -A<=b/\ b<=A): -(A*A)<=a*b/\ a*b<=A*A:=w7 h1.1 h1.2 h2.1 h2.2
theorem HQ {p q:P3} (hp:Nr p) (hq:Nr q):oT (p,q)/\ QJ (p,q)=(zg p q,0):=by
 obtain ⟨i1,i2⟩:=BQ (x:= [p,q]) (by simp) (fun r hr=>by
  simp only [List.mem_cons,List.not_mem_nil,or_false] at hr
  rcases hr with rfl|rfl
  ·exact hp
  ·exact hq)
 have m1:=mb (A:=1048576) (by decide) hp.1 hq.1
 have m2:=mb (A:=1048576) (by decide) hp.2.1 hq.2.1
 have m3:=mb (A:=1048576) (by decide) hp.2.2 hq.2.2
 have k:=ab9 (p,q) p q
 have Md: ∀p:P3,fV p=p:=fun _=>rfl
 unfold oT QJ aC aq
 dsimp only
 rw [i2,Md,Md]
 refine ⟨⟨i1,fun _=>k.1⟩,?_⟩
 rw [if_neg (by decide),k.2]
 congr 1
 unfold zg
 rw [aF (n:=p.1*q.1) (by omega) (by omega),aF (n:=p.2.1*q.2.1) (by omega) (by omega),aF (n:=p.2.2*q.2.2) (by omega) (by omega),aF (n:=0+p.1*q.1) (by omega) (by omega),aF (n:=0+p.1*q.1+p.2.1*q.2.1) (by omega) (by omega),aF (by omega) (by omega)]
 omega
theorem ab8 {p:P3} (hp: ¬Nr p) (q:P3):oT (p,q)/\ QJ (p,q)=(0,5):=by
 obtain ⟨i1,i2⟩:=aag [p,q] (by simp)
 have i3:Mj [p,q]=false:=by
  rw [i2]
  simp [hp]
 unfold oT QJ aC aq
 dsimp only
 rw [i3]
 exact ⟨⟨i1,fun h=>absurd rfl h⟩,rfl⟩
def U3 (u:P3):Prop:=(-1024<=u.1/\ u.1<=1024)/\ (-1024<=u.2.1/\ u.2.1<=1024)/\ (-1024<=u.2.2/\ u.2.2<=1024)
def HK (v:P3) (r:Int):P3:=(1048576*v.1 / r,1048576*v.2.1 / r,1048576*v.2.2 / r)
theorem Ci {v r:Int} (hv: -1048576<=v/\ v<=1048576) (hr:0<r) (X5:r<=9223372036854775807):nW (v,r)/\ Dp (v,r)=1048576*v / r:=by
 have e:av (1048576*v)=1048576*v:=aF (by omega) (by omega)
 obtain ⟨f1,f2⟩:=rP (a:=1048576*v) (b:=r) (by omega) (by omega) hr X5
 unfold nW Dp aq
 dsimp only
 rw [e]
 exact ⟨f1,f2⟩
theorem B8 {v n r:Int} (hn:v*v<=n) (hr:Ew (1048576*n) r):1024*v<=r/\ -(1024*v)<=r:=by
 have h1:(1024*v)*(1024*v)<(r+1)*(r+1):=by
  have e:(1024*v)*(1024*v)=1048576*(v*v):=by grind
  have:=hr.2.2
  omega
 have h2:=qY (a:=1024*v) (b:=r+1) (by have:=hr.1;omega) h1
 have h3:=qY (a:= -(1024*v)) (b:=r+1) (by have:=hr.1;omega) (by rw [Int.neg_mul_neg];exact h1)
 omega
theorem SA {a r:Int} (hr:0<r) (h1:1024*a<=r) (h2: -(1024*a)<=r): -1024<=1048576*a / r/\ 1048576*a / r<=1024:=by
 constructor
 ·rw [Int.le_ediv_iff_mul_le hr];omega
 ·have:1048576*a / r<1025:=by rw [Int.ediv_lt_iff_lt_mul hr];omega
  omega
theorem ab2 {v:P3} (hv:Nr v) (h0:v≠(0,0,0)):cU v/\ ∃r,0<r/\ Ew (1048576*zg v v) r/\ jE v=(HK v r,0)/\ U3 (HK v r)/\ HK v r≠(0,0,0):=by
 obtain ⟨a,b,c⟩:=v
 obtain ⟨d1,d2⟩:=HQ hv hv
 have s1:=A1 a
 have s2:=A1 b
 have s3:=A1 c
 have m1:=mb (A:=1048576) (by decide) hv.1 hv.1
 have m2:=mb (A:=1048576) (by decide) hv.2.1 hv.2.1
 have m3:=mb (A:=1048576) (by decide) hv.2.2 hv.2.2
 dsimp only at m1 m2 m3
 obtain ⟨n,hn⟩: ∃n,n=zg (a,b,c) (a,b,c):=⟨_,rfl⟩
 have hn':n=a*a+b*b+c*c:=hn
 have hpos:0<n:=by
  refine Int.lt_of_not_ge fun hle=>h0 ?_
  have z1:a*a=0:=by omega
  have z2:b*b=0:=by omega
  have z3:c*c=0:=by omega
  rw [Int.mul_eq_zero.1 z1|>.elim id id,Int.mul_eq_zero.1 z2|>.elim id id,Int.mul_eq_zero.1 z3|>.elim id id]
 obtain ⟨q1,r,q2,hr⟩:=Qr (n:=1048576*n) (by omega) (by omega)
 obtain ⟨pa,pb,pc⟩:(1024*a<=r/\ -(1024*a)<=r)/\ (1024*b<=r/\ -(1024*b)<=r)/\ (1024*c<=r/\ -(1024*c)<=r):=⟨B8 (by omega) hr,B8 (by omega) hr,B8 (by omega) hr⟩
 have hrp:0<r:=by
  refine Int.lt_of_not_ge fun hle=> ?_
  have e:r=0:=by have:=hr.1;omega
  have:=hr.2.2
  rw [e] at this
  omega
 have X5:r<=9223372036854775807:=by
  have:=qY (a:=r) (b:=9223372036854775807) (by decide) (by have:=hr.2.1;omega)
  omega
 obtain ⟨ua,va⟩:=Ci hv.1 hrp X5
 obtain ⟨ub,vb⟩:=Ci hv.2.1 hrp X5
 obtain ⟨uc,vc⟩:=Ci hv.2.2 hrp X5
 dsimp only at ua ub uc va vb vc
 have ew:av (1048576*n)=1048576*n:=aF (by omega) (by omega)
 have eE:TF ((a,b,c),r)=HK (a,b,c) r:=by
  unfold TF aq HK
  dsimp only
  rw [va,vb,vc]
 have eP:BA ((a,b,c),r):=⟨ua,ub,uc⟩
 have ba:=SA hrp pa.1 pa.2
 have bb:=SA hrp pb.1 pb.2
 have bc:=SA hrp pc.1 pc.2
 have hfo: ∀p:P3,TL p=p:=fun _=>rfl
 have hfw: ∀p:P3,Fv p=p:=fun _=>rfl
 refine ⟨?_,r,hrp,by rw [<- hn];exact hr,?_,⟨ba,bb,bc⟩,fun hz=> ?_⟩
 ·unfold cU aC
  refine ⟨d1,?_⟩
  rw [d2,<- hn]
  dsimp only
  rw [ew]
  refine fun _ _=>⟨q1,?_⟩
  rw [q2,hfo]
  exact eP
 ·unfold jE aq
  rw [d2,<- hn]
  dsimp only
  rw [if_neg (by decide),if_neg (by simp;omega),ew,q2,hfo,eE,hfw]
 ·have z1:1048576*a / r=0:=congrArg Prod.fst hz
  have z2:1048576*b / r=0:=congrArg (fun p=>p.2.1) hz
  have z3:1048576*c / r=0:=congrArg (fun p=>p.2.2) hz
  have nn: ∀x:Int,1048576*x / r=0->0<=x/\ 1048576*x<r:=fun x hx=>by
   have h1:=Int.mul_ediv_add_emod (1048576*x) r
   have h2:=Int.emod_nonneg (1048576*x) (show r≠0 by omega)
   have h3:=Int.emod_lt_of_pos (1048576*x) hrp
   rw [hx,Int.mul_zero] at h1
   omega
  obtain ⟨a0,a1⟩:=nn a z1
  obtain ⟨b0,b1⟩:=nn b z2
  obtain ⟨c0,c1⟩:=nn c z3
  have hS:r*r<=(1024*(a+b+c))*(1024*(a+b+c)):=by
   have e:(1024*(a+b+c))*(1024*(a+b+c))=1048576*(a*a+b*b+c*c)+2097152*(a*b+b*c+a*c):=by grind
   have p1:=Int.mul_nonneg a0 b0
   have p2:=Int.mul_nonneg b0 c0
   have p3:=Int.mul_nonneg a0 c0
   have:=hr.2.1
   omega
  have:=aaw (by omega) hS
  omega
theorem ab1 {v:P3} (hv: ¬Nr v):cU v/\ jE v=((0,0,0),5):=by
 obtain ⟨d1,d2⟩:=ab8 hv v
 unfold cU jE aC aq
 rw [d2]
 exact ⟨⟨d1,fun h=>absurd (by decide) h⟩,rfl⟩
theorem Lc:cU (0,0,0)/\ jE (0,0,0)=((0,0,0),3):=by
 obtain ⟨d1,d2⟩:=HQ (p:=(0,0,0)) (q:=(0,0,0)) (by decide) (by decide)
 unfold cU jE aC aq
 rw [d2]
 exact ⟨⟨d1,fun _ h=>absurd (by decide) h⟩,rfl⟩
end Go.Proofs.YtngdehlpoomaiaaGreat
namespace Go.Proofs.YtngdehlpoomaiaaGreat
open Go Go.Ev Go.Proofs
def rt (n:Int):Int:=Eh (3037000499,n)
theorem SK {n:Int} (h0:0<=n) (h1:n<=9223372036854775807):nX n/\ Bh n=(rt n,0)/\ Ew n (rt n):=by
 obtain ⟨s1,s2⟩:=GC h0 h1
 refine ⟨(Qr h0 h1).1,?_,s2⟩
 unfold Bh aq
 rw [if_neg (by omega)];rfl
def cA (v:P3):P3:=HK v (rt (1048576*zg v v))
theorem gO {v:P3} (hv:Nr v) (h0:v≠(0,0,0)):cU v/\ jE v=(cA v,0)/\ U3 (cA v)/\ cA v≠(0,0,0):=by
 obtain ⟨h1,r,h2,h3,h4,h5,h6⟩:=ab2 hv h0
 have e:HK v r=cA v:=by
  have h7:0<=1048576*zg v v/\ 1048576*zg v v<=9223372036854775807:=by
   have s1:=A1 v.1
   have s2:=A1 v.2.1
   have s3:=A1 v.2.2
   have m1:=mb (A:=1048576) (by decide) hv.1 hv.1
   have m2:=mb (A:=1048576) (by decide) hv.2.1 hv.2.1
   have m3:=mb (A:=1048576) (by decide) hv.2.2 hv.2.2
   unfold zg
   omega
  unfold cA
  rw [h3.uniq (SK h7.1 h7.2).2.2]
 rw [<- e]
 exact ⟨h1,h4,h5,h6⟩
def lo (x:Int):Int:=if x>0 then-x else x
theorem HW {x:Int} (h: -1048576<=x/\ x<=1048576):DJ x=lo x:=by
 unfold DJ lo
 split
 ·rw [aF (by omega) (by omega)];omega
 ·rfl
def ax1 (u:P3):Int:=if lo u.2.1<lo u.1 then 1 else 0
def jd (u:P3):Int:=if lo u.2.2<lo (if lo u.2.1<lo u.1 then u.2.1 else u.1) then 2 else ax1 u
theorem Yy {u:P3} (hu:U3 u):wX u/\ QH u=jd u:=by
 obtain ⟨a,b,c⟩:=u
 obtain ⟨ha,hb,hc⟩:=hu
 dsimp only at ha hb hc
 have la:=HW (x:=a) (by omega)
 have lb:=HW (x:=b) (by omega)
 have lc:=HW (x:=c) (by omega)
 have Md: ∀p:P3,fV p=p:=fun _=>rfl
 have key:TR (e7 (a,b,c)) (Ba (a,b,c)) (a,b,c,0,0) fun r=>r=jd (a,b,c):=by
  refine TR.go (s':=(a,b,c,0,1)) (fun _=>by dsimp only [aC];refine ⟨?_,?_,?_,?_⟩<;>decide) (by
   unfold e7 aq
   rw [if_pos (by dsimp only;decide)]
   dsimp only
   rw [if_neg (Int.lt_irrefl _)];rfl) ?_
  refine TR.go (s':=(a,b,c,ax1 (a,b,c),2)) (fun _=>by dsimp only [aC];refine ⟨?_,?_,?_,?_⟩<;>decide) (by
   unfold e7 aq
   rw [if_pos (by dsimp only;decide)]
   show (if DJ b<DJ a then Sum.inl (a,b,c,(1:Int),(2:Int)) else Sum.inl (a,b,c,(0:Int),(2:Int)))=_
   rw [la,lb]
   unfold ax1
   dsimp only
   split<;>rfl) ?_
  refine TR.go (s':=(a,b,c,jd (a,b,c),3)) (fun _=>by
   dsimp only [aC]
   unfold ax1
   dsimp only
   split<;>(refine ⟨?_,?_,?_,?_⟩<;>decide)) (by
   unfold e7 aq
   rw [if_pos (by dsimp only;decide)]
   unfold jd ax1
   dsimp only
   by_cases h:lo b<lo a
   ·rw [if_pos h,if_pos h]
    show (if DJ c<DJ b then Sum.inl (a,b,c,(2:Int),(3:Int)) else Sum.inl (a,b,c,(1:Int),(3:Int)))=_
    rw [lc,lb]
    split<;>rfl
   ·rw [if_neg h,if_neg h]
    show (if DJ c<DJ a then Sum.inl (a,b,c,(2:Int),(3:Int)) else Sum.inl (a,b,c,(0:Int),(3:Int)))=_
    rw [lc,la]
    split<;>rfl) ?_
  exact TR.stop (fun h=>absurd h (by dsimp only;decide)) (by unfold e7;rw [if_neg (by dsimp only;decide)]) rfl
 unfold wX QH aC aq
 rw [Md]
 exact ⟨key.1,key.2⟩
def X2 (k:Int):P3:=if k=0 then (0,1,0) else if k=1 then (0,0,1) else (1,0,0)
theorem ER {u:P3} (h0:u≠(0,0,0)):(jd u=0/\ u.1≠0)\/ (jd u=1/\ u.2.1≠0)\/ (jd u=2/\ u.2.2≠0):=by
 obtain ⟨a,b,c⟩:=u
 have hn: ¬(a=0/\ b=0/\ c=0):=fun ⟨e1,e2,e3⟩=>h0 (by rw [e1,e2,e3])
 unfold jd ax1 lo
 dsimp only
 by_cases h1:a>0<;>by_cases h2:b>0<;>by_cases h3:c>0<;>simp only [h1,h2,h3,if_true,if_false]<;>(split<;>(try split)<;>simp<;>omega)
theorem YR {u:P3} (h0:u≠(0,0,0)):DO (X2 (jd u)) u≠(0,0,0):=by
 obtain ⟨a,b,c⟩:=u
 rcases ER h0 with ⟨e,h⟩|⟨e,h⟩|⟨e,h⟩<;>rw [e]<;>intro hz
 ·have:=congrArg (fun p=>p.2.2) hz
  simp [DO,X2] at this
  exact h this
 ·have:=congrArg Prod.fst hz
  simp [DO,X2] at this
  exact h this
 ·have:=congrArg (fun p=>p.2.1) hz
  simp [DO,X2] at this
  exact h this
theorem agu (k:Int):Bd 32768 (X2 k):=by
 unfold X2
 split
 ·exact ⟨by decide,by decide,by decide⟩
 ·split
  ·exact ⟨by decide,by decide,by decide⟩
  ·exact ⟨by decide,by decide,by decide⟩
def JS (p:P3):P3:=(p.1 / 1024,p.2.1 / 1024,p.2.2 / 1024)
def W64 (n:Int):Prop:= -9223372036854775808<=n/\ n<=9223372036854775807
theorem Jm {p:P3} (h1:W64 p.1) (h2:W64 p.2.1) (h3:W64 p.2.2):qP p/\ Oc p=JS p:=by
 obtain ⟨a1,a2⟩:=rP (b:=1024) h1.1 h1.2 (by decide) (by decide)
 obtain ⟨b1,b2⟩:=rP (b:=1024) h2.1 h2.2 (by decide) (by decide)
 obtain ⟨c1,c2⟩:=rP (b:=1024) h3.1 h3.2 (by decide) (by decide)
 have hfo: ∀p:P3,TL p=p:=fun _=>rfl
 have hfw: ∀p:P3,Fv p=p:=fun _=>rfl
 unfold qP Oc Bz Y1 ov x4 aC aq JS
 rw [hfo]
 dsimp only
 rw [hfw,a2,b2,c2]
 exact ⟨⟨a1,b1,c1⟩,rfl⟩
def frT (u:P3):P3:=cA (DO (X2 (jd u)) u)
def frB (u:P3):P3:=JS (DO u (frT u))
theorem U3.bd {u:P3} (h:U3 u):Bd 32768 u:=⟨⟨by have:=h.1;omega,by have:=h.1;omega⟩,⟨by have:=h.2.1;omega,by have:=h.2.1;omega⟩,⟨by have:=h.2.2;omega,by have:=h.2.2;omega⟩⟩
theorem aiZ {u t:P3} (hu:U3 u) (ht:U3 t):Bd 2097152 (DO u t):=by
 have f: ∀a b c d:Int,(-1024<=a/\ a<=1024)->(-1024<=b/\ b<=1024)->(-1024<=c/\ c<=1024)->(-1024<=d/\ d<=1024)-> -2097152<=a*b- c*d/\ a*b- c*d<=2097152:=fun a b c d h1 h2 h3 h4=>by
  have m1:=mb (A:=1024) (by decide) h1 h2
  have m2:=mb (A:=1024) (by decide) h3 h4
  omega
 exact ⟨f _ _ _ _ hu.2.1 ht.2.2 hu.2.2 ht.2.1,f _ _ _ _ hu.2.2 ht.1 hu.1 ht.2.2,f _ _ _ _ hu.1 ht.2.1 hu.2.1 ht.1⟩
theorem agJ {u:P3} (hu:U3 u):Nr (DO (X2 (jd u)) u):=by
 obtain ⟨a,b,c⟩:=u
 have h1:=hu.1
 have h2:=hu.2.1
 have h3:=hu.2.2
 dsimp only at h1 h2 h3
 unfold DO X2
 split
 ·simp only [Nr];omega
 ·split
  ·simp only [Nr];omega
  ·simp only [Nr];omega
def B3k (b:P3):Prop:=(-2048<=b.1/\ b.1<=2048)/\ (-2048<=b.2.1/\ b.2.1<=2048)/\ (-2048<=b.2.2/\ b.2.2<=2048)
theorem V6 {v:P3} (hv:Nr v) (h0:v≠(0,0,0)):wh v/\ Oe v=(((frT (cA v),frB (cA v)),cA v),0)/\ U3 (cA v)/\ U3 (frT (cA v))/\ B3k (frB (cA v)):=by
 obtain ⟨u1,u2,u3,u4⟩:=gO hv h0
 obtain ⟨u,hu⟩: ∃u,u=cA v:=⟨_,rfl⟩
 rw [<- hu] at u2 u3 u4 ⊢
 obtain ⟨x1,x2⟩:=Yy u3
 obtain ⟨c1,c2⟩:=pJ (agu (jd u)) u3.bd
 obtain ⟨t1,t2,t3,t4⟩:=gO (agJ u3) (YR u4)
 have eT:cA (DO (X2 (jd u)) u)=frT u:=rfl
 rw [eT] at t2 t3
 obtain ⟨d1,d2⟩:=pJ u3.bd t3.bd
 have hcb:=aiZ u3 t3
 obtain ⟨l1,l2⟩:=Jm (p:=DO u (frT u)) ⟨by have:=hcb.1;omega,by have:=hcb.1;omega⟩ ⟨by have:=hcb.2.1;omega,by have:=hcb.2.1;omega⟩ ⟨by have:=hcb.2.2;omega,by have:=hcb.2.2;omega⟩
 have hB:B3k (frB u):=by
  unfold frB JS B3k
  have:=hcb.1
  have:=hcb.2.1
  have:=hcb.2.2
  dsimp only
  omega
 have hax:(Fv ((cond (Nat.beq (0+((Int.toNat (Int.tmod (av (jd u+(1:Int))) (3:Int)))*1)) 0) (1:Int) (0:Int)),(cond (Nat.beq (0+((Int.toNat (Int.tmod (av (jd u+(1:Int))) (3:Int)))*1)) 1) (1:Int) (0:Int)),(cond (Nat.beq (0+((Int.toNat (Int.tmod (av (jd u+(1:Int))) (3:Int)))*1)) 2) (1:Int) (0:Int))))=X2 (jd u)/\ (((0:Int)<=(Int.tmod (av (jd u+(1:Int))) (3:Int)))/\ ((Int.tmod (av (jd u+(1:Int))) (3:Int))<(3:Int)))/\ ((((0+((Int.toNat (Int.tmod (av (jd u+(1:Int))) (3:Int)))*1))+1)<=3)):=by
  rcases ER u4 with ⟨e,_⟩|⟨e,_⟩|⟨e,_⟩<;>rw [e]<;>exact ⟨rfl,⟨by decide,by decide⟩,by decide⟩
 refine ⟨?_,?_,u3,t3,hB⟩
 ·unfold wh aC
  rw [u2]
  refine ⟨u1,fun _=> ?_⟩
  dsimp only
  rw [x2]
  refine ⟨x1,hax.2.1,hax.2.2,?_⟩
  rw [hax.1,c2]
  refine ⟨c1,fun _=> ?_⟩
  dsimp only
  rw [t2]
  refine ⟨t1,fun _=> ?_⟩
  dsimp only
  rw [d2]
  exact ⟨d1,fun _=>l1⟩
 ·unfold Oe aq
  rw [u2]
  dsimp only
  rw [if_neg (by decide),x2,hax.1,c2]
  dsimp only
  rw [if_neg (by decide),t2]
  dsimp only
  rw [if_neg (by decide),d2]
  dsimp only
  rw [if_neg (by decide),l2]
  rfl
def Fr4 (w:P3):Prop:=(-4096<=w.1/\ w.1<=4096)/\ (-4096<=w.2.1/\ w.2.1<=4096)/\ (-4096<=w.2.2/\ w.2.2<=4096)
def atV (t b u:P3) (x y z:Int):P3:=JS (t.1*x+b.1*y+u.1*z,t.2.1*x+b.2.1*y+u.2.1*z,t.2.2*x+b.2.2*y+u.2.2*z)
theorem LC {t b u x y z:Int} (ht: -1024<=t/\ t<=1024) (hb: -2048<=b/\ b<=2048) (hu: -1024<=u/\ u<=1024) (hx: -1024<=x/\ x<=1024) (hy: -1024<=y/\ y<=1024) (hz: -1024<=z/\ z<=1024):
  av (av (av (t*x)+av (b*y))+av (u*z))=t*x+b*y+u*z/\ -4194304<=t*x+b*y+u*z/\ t*x+b*y+u*z<=4194304:=by
 have m1:=mb (A:=1024) (by decide) ht hx
 have m2:=w7 (A:=2048) (B:=1024) hb.1 hb.2 hy.1 hy.2
 have m3:=mb (A:=1024) (by decide) hu hz
 rw [aF (n:=t*x) (by omega) (by omega),aF (n:=b*y) (by omega) (by omega),aF (n:=u*z) (by omega) (by omega),aF (n:=t*x+b*y) (by omega) (by omega),aF (by omega) (by omega)]
 omega
theorem adB {t b u:P3} {x y z:Int} (ht:U3 t) (hb:B3k b) (hu:U3 u) (hx: -1024<=x/\ x<=1024) (hy: -1024<=y/\ y<=1024) (hz: -1024<=z/\ z<=1024):
  DR (((t,b),u),x,y,z)/\ fat (((t,b),u),x,y,z)=atV t b u x y z/\ Fr4 (atV t b u x y z):=by
 obtain ⟨a1,a2,a3⟩:=LC ht.1 hb.1 hu.1 hx hy hz
 obtain ⟨b1,b2,b3⟩:=LC ht.2.1 hb.2.1 hu.2.1 hx hy hz
 obtain ⟨c1,c2,c3⟩:=LC ht.2.2 hb.2.2 hu.2.2 hx hy hz
 have hfo: ∀p:P3,TL p=p:=fun _=>rfl
 have hfw: ∀p:P3,Fv p=p:=fun _=>rfl
 unfold DR fat aC aq
 dsimp only
 rw [hfo,hfo,hfo,hfw,a1,b1,c1]
 obtain ⟨l1,l2⟩:=Jm (p:=(t.1*x+b.1*y+u.1*z,t.2.1*x+b.2.1*y+u.2.1*z,t.2.2*x+b.2.2*y+u.2.2*z)) ⟨by dsimp only;omega,by dsimp only;omega⟩ ⟨by dsimp only;omega,by dsimp only;omega⟩ ⟨by dsimp only;omega,by dsimp only;omega⟩
 refine ⟨l1,l2,?_⟩
 unfold atV JS Fr4
 dsimp only
 omega
def NV (x y:Int):Int:=rt (bf (1048576- x*x- y*y) 0)
def m0 (v:P3) (d:Int×Int):P3:=atV (frT (cA v)) (frB (cA v)) (cA v) d.1 d.2 (NV d.1 d.2)
def InD (d:Int×Int):Prop:=(-1024<=d.1/\ d.1<=1024)/\ (-1024<=d.2/\ d.2<=1024)
theorem Fb {v:P3} (hv:Nr v) (h0:v≠(0,0,0)) {d:Int×Int} (hd:InD d):pL (v,d)/\ zk (v,d)=(m0 v d,0)/\ Fr4 (m0 v d):=by
 obtain ⟨x,y⟩:=d
 obtain ⟨hx,hy⟩:=hd
 dsimp only at hx hy
 obtain ⟨o1,o2,o3,o4,o5⟩:=V6 hv h0
 have m1:=mb (A:=1024) (by decide) hx hx
 have m2:=mb (A:=1024) (by decide) hy hy
 have s1:=A1 x
 have s2:=A1 y
 have e1:av (av (1048576- av (x*x))- av (y*y))=1048576- x*x- y*y:=by
  rw [aF (n:=x*x) (by omega) (by omega),aF (n:=y*y) (by omega) (by omega),aF (n:=1048576- x*x) (by omega) (by omega),aF (by omega) (by omega)]
 have hM:0<=bf (1048576- x*x- y*y) 0/\ bf (1048576- x*x- y*y) 0<=1048576:=by unfold bf;split<;>omega
 obtain ⟨r1,r2,r3⟩:=SK hM.1 (by omega)
 have hz: -1024<=NV x y/\ NV x y<=1024:=by
  have h1:=r3.1
  have h2:=qY (a:=rt (bf (1048576- x*x- y*y) 0)) (b:=1025) (by decide) (by have:=r3.2.1;omega)
  unfold NV
  omega
 obtain ⟨f1,f2,f3⟩:=adB o4 o5 o3 hx hy hz
 have n1: ¬bt x y< -1024:=by unfold bt;split<;>omega
 have n2: ¬bf x y>1024:=by unfold bf;split<;>omega
 refine ⟨?_,?_,f3⟩
 ·unfold pL aC
  rw [o2]
  refine ⟨o1,fun _ _ _=> ?_⟩
  dsimp only
  rw [e1,r2]
  exact ⟨r1,f1⟩
 ·unfold zk aq
  rw [o2]
  dsimp only
  rw [if_neg (by decide),if_neg n1,if_neg n2,e1,r2]
  dsimp only
  have f2':fat (((frT (cA v),frB (cA v)),cA v),x,y,rt (bf (1048576- x*x- y*y) 0))=m0 v (x,y):=f2
  rw [f2']
def Il (p w:P3) (k:Int):P3:=(p.1+w.1*k / 1024,p.2.1+w.2.1*k / 1024,p.2.2+w.2.2*k / 1024)
theorem u5:fx 0/\ oz 0=false:=⟨fun h=>absurd h (by decide),rfl⟩
theorem qI {w k:Int} (hw: -4096<=w/\ w<=4096) (hk:0<=k/\ k<=2048):nS (w,k)/\ Cy (w,k)=w*k / 1024/\ -8192<=w*k / 1024/\ w*k / 1024<=8192:=by
 have m:=w7 (A:=4096) (B:=2048) hw.1 hw.2 (by omega) hk.2
 have e:av (w*k)=w*k:=aF (by omega) (by omega)
 have f:=H7 (a:=w*k) (b:=1024) (by omega) (by omega) (by decide) (by decide)
 unfold nS Cy aC aq
 dsimp only
 rw [e,f]
 exact ⟨⟨Lj _,u5.1⟩,rfl,by omega,by omega⟩
theorem ET {p w:P3} {k:Int} (hp:Nr p) (hw:Fr4 w) (hk:0<=k/\ k<=2048):l7 (p,w,k)/\ wk (p,w,k)=Il p w k:=by
 obtain ⟨a1,a2,a3⟩:=qI hw.1 hk
 obtain ⟨b1,b2,b3⟩:=qI hw.2.1 hk
 obtain ⟨c1,c2,c3⟩:=qI hw.2.2 hk
 have h1:=hp.1
 have h2:=hp.2.1
 have h3:=hp.2.2
 unfold l7 wk aC aq Il
 dsimp only
 rw [a2,b2,c2,aF (n:=p.1+w.1*k / 1024) (by omega) (by omega),aF (n:=p.2.1+w.2.1*k / 1024) (by omega) (by omega),aF (n:=p.2.2+w.2.2*k / 1024) (by omega) (by omega)]
 exact ⟨⟨a1,b1,c1⟩,rfl⟩
end Go.Proofs.YtngdehlpoomaiaaGreat
