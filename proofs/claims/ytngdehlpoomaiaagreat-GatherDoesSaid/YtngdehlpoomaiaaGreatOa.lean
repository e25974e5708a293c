/- Plain laws: the references' numbers and ways. -/
import Derived.Test.YtngdehlpoomaiaaGreatMe
import Derived.Test.YtngdehlpoomaiaaGreatNb
noncomputable section
set_option linter.unusedSectionVars false
set_option linter.unusedVariables false
set_option linter.unusedSimpArgs false
namespace Go.Proofs.YtngdehlpoomaiaaGreat
open Go Go.Ev Go.Proofs
theorem anj {a b:Int} (h1: -9223372036854775808<=a) (h2:a<=9223372036854775807) (hb:0<b): -9223372036854775808<=a / b/\ a / b<=9223372036854775807:=by
 have h4:=Int.emod_lt_of_pos a hb
 have h6:=Int.mul_ediv_add_emod a b
 by_cases ha:0<=a
 ·have:=Int.ediv_nonneg ha (show 0≤b by omega)
  have:=Int.ediv_le_self b ha
  omega
 ·have hq:=Int.ediv_neg_of_neg_of_pos (show a<0 by omega) hb
  have e:=Int.mul_nonneg (show 0<=b- 1 by omega) (show 0<= -(a / b)- 1 by omega)
  have e':(b- 1)*(-(a / b)- 1)= -(b*(a / b))- b+a / b+1:=by grind
  omega
theorem W2 {a b:Int} (h1: -9223372036854775808<=a) (h2:a<=9223372036854775807) (hb:0<b) (dR:b<=9223372036854775807):jF (a,b)/\ pL (a,b)=(a / b,a % b,0):=by
 have h3:=Int.emod_nonneg a (show b≠0 by omega)
 have h4:=Int.emod_lt_of_pos a hb
 have h5:=anj h1 h2 hb
 obtain ⟨t1,t2⟩:=tdm (a:=a) hb
 have b0:(b==(0:Int))=false:=by simp;omega
 have b1:(b==(-1:Int))=false:=by simp;omega
 have hbl:decide (b<0)=false:=decide_eq_false (by omega)
 have core:(if ((Int.tmod a b) !=(0:Int))=true then (if (!((decide (Int.tmod a b<(0:Int)))==(decide (b<(0:Int)))))=true then ((au ((au (Int.tdiv a b))- (1:Int))),(au ((Int.tmod a b)+b)),(0:Int)) else ((au (Int.tdiv a b)),(Int.tmod a b),(0:Int))) else ((au (Int.tdiv a b)),(Int.tmod a b),(0:Int)))=(a / b,a % b,0):=by
  rw [hbl]
  by_cases hc:a.tmod b≠0/\ a<0
  ·obtain ⟨e1,e2⟩:=t1 hc
   have hn:a / b<0:=Int.ediv_neg_of_neg_of_pos hc.2 hb
   rw [if_pos (by simpa using hc.1),if_pos (by rw [decide_eq_true (show a.tmod b<0 by omega)];rfl),e1,e2,ax (n:=a / b+1) (by omega) (by omega),ax (n:=a / b+1- 1) (by omega) (by omega),ax (n:=a % b- b+b) (by omega) (by omega)]
   have x1:a / b+1- 1=a / b:=by omega
   have x2:a % b- b+b=a % b:=by omega
   rw [x1,x2]
  ·obtain ⟨e1,e2⟩:=t2 hc
   have Zj:(au (a.tdiv b),a.tmod b,(0:Int))=(a / b,a % b,0):=by rw [e1,e2,ax (by omega) (by omega)]
   split
   ·rw [if_neg (by rw [decide_eq_false (show¬a.tmod b<0 by omega)];decide)]
    exact Zj
   ·exact Zj
 constructor
 ·dsimp only [jF,qm,Tr.val,Tr.pre];(try dsimp only [az,ak])
  exact fun _=>⟨fun _ _=>⟨by (try dsimp only);omega,by (try dsimp only);omega⟩,fun _=>⟨by (try dsimp only);omega,by (try dsimp only);omega⟩⟩
 ·dsimp only [pL,qm,Tr.val,Tr.pre];(try dsimp only [az,ak])
  rw [b0,if_neg (by decide)]
  split
  ·rw [b1,if_neg (by decide)]
   exact core
  ·exact core
def p2:Nat->Int
 |0=>1
 |k+1=>2*p2 k
theorem Z5: ∀k,1<=p2 k
 |0=>by decide
 |k+1=>by have:=Z5 k;simp only [p2];omega
theorem ajq (k:Nat): ∀j,p2 k<=p2 (k+j)
 |0=>Int.le_refl _
 |j+1=>by
  have h1:=ajq k j
  have h2:=Z5 (k+j)
  show _<=2*p2 (k+j)
  omega
theorem asW {k:Nat} (h:k<=31):p2 k<=2147483648:=by
 have:=ajq k (31- k)
 rw [show k+(31- k)=31 by omega] at this
 exact this
theorem Mq {n r b:Int} (h0:0<=n) (h1:n<=9223372036854775807) (hb:1<=b/\ b<=2147483648) (hr:0<=r/\ r<=3037000499) (g1:r*r<=n) (g2:n<(r+2*b)*(r+2*b)):
  ∃r',gq n (r,b)= .inl (r',b / 2)/\ (0<=r'/\ r'<=3037000499)/\ r'*r'<=n/\ n<(r'+b)*(r'+b):=by
 have hw:au (r+b)=r+b:=ax (by omega) (by omega)
 have ht:au (Int.tdiv b 2)=b / 2:=by rw [Int.tdiv_eq_ediv_of_nonneg (by omega)];exact ax (by omega) (by omega)
 unfold gq
 dsimp only
 rw [if_pos (by omega),hw,ht]
 by_cases c1:r+b<=3037000499
 ·have sq:=qJ (a:=r+b) (b:=r+b) (A:=3037000499) (B:=3037000499) (by omega) c1 (by omega) c1
  rw [if_pos c1,ax (n:=(r+b)*(r+b)) (by omega) (by omega)]
  by_cases c2:(r+b)*(r+b)<=n
  ·rw [if_pos c2]
   have e:r+b+b=r+2*b:=by omega
   exact ⟨r+b,rfl,⟨by omega,c1⟩,c2,by rw [e];exact g2⟩
  ·rw [if_neg c2]
   exact ⟨r,rfl,hr,g1,by omega⟩
 ·rw [if_neg c1]
  have h3:(3037000500:Int)*3037000500<=(r+b)*(r+b):=Int.mul_le_mul (by omega) (by omega) (by decide) (by omega)
  exact ⟨r,rfl,hr,g1,by omega⟩
theorem Mp {n:Int} (h0:0<=n) (h1:n<=9223372036854775807): ∀(k:Nat) (r:Int),k<=31->(0<=r/\ r<=3037000499)->r*r<=n->n<(r+2*p2 k)*(r+2*p2 k)->TR (gq n) (Bg n) (r,p2 k) (Je n)
 |0,r,_,hr,g1,g2=>by
  obtain ⟨r',e,a,b,c⟩:=Mq h0 h1 (b:=1) (by omega) hr g1 g2
  refine TR.go trivial (s':=(r',0)) e (TR.stop trivial (r:=r') ?_ ⟨a.1,b,c⟩)
  unfold gq
  rw [if_neg (by dsimp only;decide)]
 |k+1,r,hk,hr,g1,g2=>by
  have hp:=Z5 (k+1)
  have hq:=asW hk
  obtain ⟨r',e,a,b,c⟩:=Mq h0 h1 ⟨hp,hq⟩ hr g1 g2
  have hd:p2 (k+1) / 2=p2 k:=by show 2*p2 k / 2=_;omega
  rw [hd] at e
  exact TR.go trivial e (Mp h0 h1 k r' (by omega) a b c)
theorem Mn {n:Int} (h0:0<=n) (h1:n<=9223372036854775807):Co n/\ aaG n=(rt n,0):=by
 have k:=Mp h0 h1 31 0 (by omega) (by omega) (by omega) (by
  show n<(0+2*2147483648)*(0+2*2147483648)
  omega)
 have e:p2 31=2147483648:=by decide
 rw [e] at k
 have hu:=k.2.uniq (GO h0 h1).2.2
 unfold Co aaG ak
 refine ⟨fun _=>k.1,?_⟩
 rw [if_neg (by omega),hu]
theorem Cq (n:Int):GH n=decide (-1048576<=n/\ n<=1048576):=by
 unfold GH
 by_cases h:n>= -1048576
 ·rw [if_pos h,Bool.eq_iff_iff];simp;omega
 ·rw [if_neg h,Bool.eq_iff_iff];simp;omega
theorem at0 (a b c:Bool):(if a=true then if b=true then c else false else false)=(a&&(b&&c)):=by cases a<;>cases b<;>rfl
theorem Qt (p:P3):H6 p=decide (Nr p):=by
 unfold H6 ak
 dsimp only
 rw [Cq,Cq,Cq,at0,Bool.eq_iff_iff]
 simp only [Bool.and_eq_true,decide_eq_true_eq]
theorem Av {p:P3} (h:Nr p):H6 p=true:=by rw [Qt];exact decide_eq_true h
theorem an7 {p:P3} (h:Bd 32768 p):Nr p:=⟨by have:=h.1;omega,by have:=h.2.1;omega,by have:=h.2.2;omega⟩
theorem Ms {a b:P3} (ha:dB a) (hb:dB b):aaL (a,b)=sb a b:=by
 unfold aaL ak
 dsimp only
 rw [Av (Ep ha),Av (Ep hb),if_neg (by decide),if_neg (by decide),ax (by omega) (by omega),ax (by omega) (by omega),ax (by omega) (by omega)]
 rfl
theorem GG {p q:P3} (hp:Nr p) (hq:Nr q):Qs (p,q)=(qw p q,0):=by
 have m1:=mb (A:=1048576) (by decide) hp.1 hq.1
 have m2:=mb (A:=1048576) (by decide) hp.2.1 hq.2.1
 have m3:=mb (A:=1048576) (by decide) hp.2.2 hq.2.2
 unfold Qs ak
 dsimp only
 rw [Av hp,Av hq,if_neg (by decide),if_neg (by decide),ax (n:=p.1*q.1) (by omega) (by omega),ax (n:=p.2.1*q.2.1) (by omega) (by omega),ax (n:=p.2.2*q.2.2) (by omega) (by omega),ax (n:=p.1*q.1+p.2.1*q.2.1) (by omega) (by omega),ax (by omega) (by omega)]
 rfl
theorem vX {p q:P3} (hp:Bd 32768 p) (hq:Bd 32768 q):Mr (p,q)=(CR p q,0):=by
 have h1:=jb hp.2.1 hq.2.2
 have h2:=jb hp.2.2 hq.2.1
 have h3:=jb hp.2.2 hq.1
 have h4:=jb hp.1 hq.2.2
 have h5:=jb hp.1 hq.2.1
 have h6:=jb hp.2.1 hq.1
 unfold CR;dsimp only [Mr,Cp,Tr.val,Tr.pre];(try dsimp only [az,ak])
 rw [Av (an7 hp),Av (an7 hq),if_neg (by decide),if_neg (by decide),ax (n:=p.2.1*q.2.2) (by omega) (by omega),ax (n:=p.2.2*q.2.1) (by omega) (by omega),ax (n:=p.2.2*q.1) (by omega) (by omega),ax (n:=p.1*q.2.2) (by omega) (by omega),ax (n:=p.1*q.2.1) (by omega) (by omega),ax (n:=p.2.1*q.1) (by omega) (by omega),
  ax (by omega) (by omega),ax (by omega) (by omega),ax (by omega) (by omega)]
theorem yD {x:Int} (h: -1048576<=x/\ x<=1048576):Aw x=lo x:=by
 unfold Aw lo
 split
 ·rw [ax (by omega) (by omega)];omega
 ·rfl
theorem aaI {u:P3} (hu:U3 u):aaH u=fV u:=by
 obtain ⟨a,b,c⟩:=u
 obtain ⟨ha,hb,hc⟩:=hu
 dsimp only at ha hb hc
 unfold aaH ak
 dsimp only
 rw [yD (x:=a) (by omega),yD (x:=b) (by omega),yD (x:=c) (by omega)]
 unfold fV ax1
 dsimp only
 by_cases h:lo b<lo a
 ·rw [if_pos h,if_pos h,if_neg (by omega)]
  by_cases h2:lo c<lo b
  ·rw [if_pos h2,if_neg (by omega)]
  ·rw [if_neg h2,if_pos (by omega)]
 ·rw [if_neg h,if_neg h,if_pos (by omega)]
  by_cases h2:lo c<lo a
  ·rw [if_pos h2,if_neg (by omega),if_neg (by omega)]
  ·rw [if_neg h2,if_pos (by omega)]
theorem Tz {u:P3} (h0:u≠(0,0,0)):WC (Int.tmod (au (fV u+(1:Int))) (3:Int))=axE (fV u):=by
 rcases BP h0 with ⟨e,_⟩|⟨e,_⟩|⟨e,_⟩<;>rw [e]<;>rfl
theorem lu {a b:Int} (h1: -9223372036854775808<=a) (h2:a<=9223372036854775807) (hb:0<b) (dR:b<=9223372036854775807):oB (a,b)/\ sk (a,b)=a / b:=by
 obtain ⟨f1,f2⟩:=W2 h1 h2 hb dR
 refine ⟨f1,?_⟩
 unfold sk ak
 rw [f2]
theorem abx (d:P3):((d.1==(0:Int))&&((d.2.1==(0:Int))&&((d.2.2==(0:Int))&&true)))=decide (d=(0,0,0)):=by
 obtain ⟨x,y,z⟩:=d
 rw [Bool.eq_iff_iff]
 simp
theorem jB {v:P3} (hv:Nr v) (h0:v≠(0,0,0)):jC v/\ vM v=(bK v,0):=by
 obtain ⟨_,r,g2,g3,_,_,_⟩:=Yk hv h0
 have h7:0<=1048576*qw v v/\ 1048576*qw v v<=9223372036854775807:=by
  have s1:=sF v.1
  have s2:=sF v.2.1
  have s3:=sF v.2.2
  have m1:=mb (A:=1048576) (by decide) hv.1 hv.1
  have m2:=mb (A:=1048576) (by decide) hv.2.1 hv.2.1
  have m3:=mb (A:=1048576) (by decide) hv.2.2 hv.2.2
  unfold qw
  omega
 have hr:r=rt (1048576*qw v v):=g3.uniq (GO h7.1 h7.2).2.2
 have hr2:r<=3037000500:=V4 (by decide) (by have:=g3.2.1;omega)
 obtain ⟨q1,q2⟩:=Mn h7.1 h7.2
 have n1:=hv.1
 have n2:=hv.2.1
 have n3:=hv.2.2
 obtain ⟨a1,a2⟩:=lu (a:=1048576*v.1) (b:=r) (by omega) (by omega) g2 (by omega)
 obtain ⟨b1,b2⟩:=lu (a:=1048576*v.2.1) (b:=r) (by omega) (by omega) g2 (by omega)
 obtain ⟨c1,c2⟩:=lu (a:=1048576*v.2.2) (b:=r) (by omega) (by omega) g2 (by omega)
 have ez:=abx v
 rw [decide_eq_false h0] at ez
 dsimp only [jC,vM,qi,Tr.val,Tr.pre];(try dsimp only [az,ak])
 rw [GG hv hv,ez]
 try dsimp only
 rw [ax (n:=1048576*qw v v) (by omega) (by omega),q2,<- hr]
 try dsimp only
 rw [ax (n:=1048576*v.1) (by omega) (by omega),ax (n:=1048576*v.2.1) (by omega) (by omega),ax (n:=1048576*v.2.2) (by omega) (by omega),a2,b2,c2]
 refine ⟨fun _ _=>⟨q1,a1,b1,c1⟩,?_⟩
 rw [if_neg (by decide),if_neg (by decide)]
 unfold bK I4
 rw [<- hr]
theorem WG {v:P3} (hv: ¬Nr v):jC v/\ vM v=((0,0,0),5):=by
 have e:Qs (v,v)=(0,5):=by
  unfold Qs ak
  try dsimp only
  rw [Qt,decide_eq_false hv]
  rfl
 dsimp only [jC,vM,qi,Tr.val,Tr.pre];(try dsimp only [az,ak])
 rw [e]
 exact ⟨fun h=>absurd rfl h,rfl⟩
theorem TD:jC (0,0,0)/\ vM (0,0,0)=((0,0,0),3):=by
 dsimp only [jC,vM,qi,Tr.val,Tr.pre];(try dsimp only [az,ak])
 rw [GG (p:=(0,0,0)) (q:=(0,0,0)) ⟨by decide,by decide,by decide⟩ ⟨by decide,by decide,by decide⟩]
 exact ⟨fun _ h=>absurd rfl h,rfl⟩
theorem HV {p:P3} (h1:W64 p.1) (h2:W64 p.2.1) (h3:W64 p.2.2):yu p/\ TC p=HG p:=by
 obtain ⟨a1,a2⟩:=lu (b:=1024) h1.1 h1.2 (by decide) (by decide)
 obtain ⟨b1,b2⟩:=lu (b:=1024) h2.1 h2.2 (by decide) (by decide)
 obtain ⟨c1,c2⟩:=lu (b:=1024) h3.1 h3.2 (by decide) (by decide)
 unfold yu TC az ak HG
 rw [a2,b2,c2]
 exact ⟨⟨a1,b1,c1⟩,rfl⟩
theorem aav {v:P3} (hv:Nr v) (h0:v≠(0,0,0)):Cm v/\ aau v=(bK v,frT (bK v),frB (bK v),0):=by
 obtain ⟨_,_,u3,u4⟩:=c8 hv h0
 obtain ⟨v1,v2⟩:=jB hv h0
 obtain ⟨u,hu⟩: ∃u,u=bK v:=⟨_,rfl⟩
 rw [<- hu] at u3 u4 v2 ⊢
 have c2:=vX (agY (fV u)) u3.bd
 obtain ⟨_,_,t3,_⟩:=c8 (Y0 u3) (KW u4)
 obtain ⟨t1,t2⟩:=jB (Y0 u3) (KW u4)
 have eT:bK (CR (axE (fV u)) u)=frT u:=rfl
 rw [eT] at t2 t3
 have d2:=vX u3.bd t3.bd
 have hcb:=aoa u3 t3
 obtain ⟨l1,l2⟩:=HV (p:=CR u (frT u)) ⟨by have:=hcb.1;omega,by have:=hcb.1;omega⟩ ⟨by have:=hcb.2.1;omega,by have:=hcb.2.1;omega⟩ ⟨by have:=hcb.2.2;omega,by have:=hcb.2.2;omega⟩
 dsimp only [Cm,aau,D1,Tr.val,Tr.pre];(try dsimp only [az,ak])
 rw [v2]
 try dsimp only
 rw [aaI u3,Tz u4,c2]
 try dsimp only
 rw [t2]
 try dsimp only
 rw [d2]
 try dsimp only
 rw [l2,if_neg (by decide)]
 exact ⟨⟨v1,fun _=>⟨t1,fun _=>l1⟩⟩,rfl⟩
theorem OB {v:P3} (hv:Nr v) (h0:v≠(0,0,0)) {d:Int×Int} (hd:InD d):sX (v,d)/\ Gy (v,d)=(fa v d,0):=by
 obtain ⟨x,y⟩:=d
 obtain ⟨hx,hy⟩:=hd
 dsimp only at hx hy
 obtain ⟨_,_,o3,o4,o5⟩:=Pk hv h0
 obtain ⟨t1,t2⟩:=aav hv h0
 have m1:=mb (A:=1024) (by decide) hx hx
 have m2:=mb (A:=1024) (by decide) hy hy
 have s1:=sF x
 have s2:=sF y
 have e1:au (au (1048576- au (x*x))- au (y*y))=1048576- x*x- y*y:=by
  rw [ax (n:=x*x) (by omega) (by omega),ax (n:=y*y) (by omega) (by omega),ax (n:=1048576- x*x) (by omega) (by omega),ax (by omega) (by omega)]
 have hM:0<=bw (1048576- x*x- y*y) 0/\ bw (1048576- x*x- y*y) 0<=1048576:=by unfold bw;split<;>omega
 obtain ⟨_,_,r3⟩:=GO hM.1 (by omega)
 obtain ⟨q1,q2⟩:=Mn hM.1 (by omega)
 obtain ⟨z,ez⟩: ∃z,z=rt (bw (1048576- x*x- y*y) 0):=⟨_,rfl⟩
 have hz: -1024<=z/\ z<=1024:=by
  have h1:=r3.1
  have h2:=qF (a:=rt (bw (1048576- x*x- y*y) 0)) (b:=1025) (by decide) (by have:=r3.2.1;omega)
  omega
 rw [<- ez] at q2
 have ed:fa v (x,y)=atV (frT (bK v)) (frB (bK v)) (bK v) x y z:=by rw [ez];rfl
 rw [ed]
 dsimp only [sX,Gy,sj,Tr.val,Tr.pre];(try dsimp only [az,ak])
 rw [t2]
 try dsimp only
 rw [e1,q2]
 try dsimp only
 generalize bK v=u at*
 generalize frT u=t at*
 generalize frB u=b at*
 obtain ⟨a1,a2,a3⟩:=zH o4.1 o5.1 o3.1 hx hy hz
 obtain ⟨b1,b2,b3⟩:=zH o4.2.1 o5.2.1 o3.2.1 hx hy hz
 obtain ⟨c1,c2,c3⟩:=zH o4.2.2 o5.2.2 o3.2.2 hx hy hz
 obtain ⟨l1,l2⟩:=HV (p:=(t.1*x+b.1*y+u.1*z,t.2.1*x+b.2.1*y+u.2.1*z,t.2.2*x+b.2.2*y+u.2.2*z)) ⟨by (try dsimp only);omega,by (try dsimp only);omega⟩ ⟨by (try dsimp only);omega,by (try dsimp only);omega⟩ ⟨by (try dsimp only);omega,by (try dsimp only);omega⟩
 rw [a1,b1,c1,l2,if_neg (by decide),if_neg (by omega),if_neg (by omega),if_neg (by omega),if_neg (by omega)]
 exact ⟨⟨t1,fun _ _ _ _ _=>⟨q1,l1⟩⟩,rfl⟩
theorem HU {u:P3} (hu:U3 u):DZ u=true:=by
 obtain ⟨a1,a2,a3⟩:=hu
 unfold DZ
 rw [if_pos (by omega),if_pos (by omega),if_pos (by omega),if_pos (by omega),if_pos (by omega)]
 exact decide_eq_true (by omega)
theorem Mh {u w:P3} (hu:U3 u) (hw:U3 w):aar (u,w)=(LK u w,0):=by
 have d2:=GG hu.nr hw.nr
 have f1:=HU hu
 have f2:=HU hw
 obtain ⟨a1,a2,a3⟩:=hu
 obtain ⟨b1,b2,b3⟩:=hw
 have m1:=mb (A:=1024) (by decide) a1 b1
 have m2:=mb (A:=1024) (by decide) a2 b2
 have m3:=mb (A:=1024) (by decide) a3 b3
 have hm:0<=bw (qw u w) 0/\ bw (qw u w) 0<=3145728:=by
  unfold bw qw
  split<;>omega
 unfold aar ak
 dsimp only
 rw [f1,f2,if_neg (by decide),if_neg (by decide),d2]
 dsimp only
 rw [Int.tdiv_eq_ediv_of_nonneg hm.1,ax (by omega) (by omega)]
 rfl
end Go.Proofs.YtngdehlpoomaiaaGreat
