/- Plain laws: volumes, hits; what is hit lies in the box. -/
import Derived.Test.YtlkgabjhkfhgaaaGreatWb
import Derived.Test.YtlkgabjhkfhgaaaGreatYa
noncomputable section
set_option linter.unusedSectionVars false
set_option linter.unusedVariables false
set_option linter.unusedSimpArgs false
namespace Go.Proofs.YtlkgabjhkfhgaaaGreat
open Go Go.Ev Go.Proofs
abbrev Nr (p:P3):Prop:=(-1048576<=p.1/\ p.1<=1048576)/\ (-1048576<=p.2.1/\ p.2.1<=1048576)/\ (-1048576<=p.2.2/\ p.2.2<=1048576)
theorem FG (x:List Int) (hl:x.length<4611686018427387904):yn x/\ Nb x= !x.any (fun v=>decide (v< -1048576)||decide (v>1048576)):=by
 refine oH x hl _ _ _ (fun i hi=> ?_) (fun i v hv=> ?_) ?_
 ·unfold xu
  intro h
  simp only [Int.toNat_natCast]
  exact ⟨⟨by omega,by omega⟩,by omega,by omega⟩
 ·have hlt:=eu hv
  unfold kS
  rw [if_pos (by omega),Int.toNat_natCast,jw hv]
  by_cases h1:v< -1048576
  ·simp [h1]
  ·by_cases h2:v>1048576
   ·simp [h1,h2]
   ·simp [h1,h2]
 ·unfold kS
  rw [if_neg (by omega)]
theorem Ex {x:List P3} (hl:x.length<4611686018427387904) (h: ∀p∈x,Nr p):rF x/\ Ra x=true:=by
 have key:rF x/\ Ra x= !x.any (fun p=> !decide (Nr p)):=by
  have hn: ∀a b c:Int,Nb [a,b,c]=decide (Nr (a,(b,c))):=fun a b c=>by
   rw [(FG [a,b,c] (by simp)).2,Bool.eq_iff_iff];simp
  refine oH x hl _ _ _ (fun i hi=> ?_) (fun i v hv=> ?_) ?_
  ·unfold yW
   intro h
   simp only [Int.toNat_natCast]
   exact ⟨⟨by omega,by omega⟩,by omega,by omega,(FG _ (by simp)).1⟩
  ·have hlt:=eu hv
   unfold l9
   rw [if_pos (by omega),Int.toNat_natCast,jw hv]
   unfold ai
   rw [hn]
  ·unfold l9
   rw [if_neg (by omega)]
 refine ⟨key.1,?_⟩
 rw [key.2]
 simp only [Bool.not_eq_true',List.any_eq_false]
 intro p hp
 rw [decide_eq_true (h p hp)]
 decide
def sb (a b:P3):P3:=(a.1- b.1,(a.2.1- b.2.1,a.2.2- b.2.2))
def Pw (p q:P3):P3:=(p.2.1*q.2.2- p.2.2*q.2.1,(p.2.2*q.1- p.1*q.2.2,p.1*q.2.1- p.2.1*q.1))
def dt (p q:P3):Int:=p.1*q.1+p.2.1*q.2.1+p.2.2*q.2.2
def lY (a b c d:P3):Int:=dt (Pw (sb b a) (sb c a)) (sb d a)
abbrev Bd (m:Int) (p:P3):Prop:=(-m<=p.1/\ p.1<=m)/\ (-m<=p.2.1/\ p.2.1<=m)/\ (-m<=p.2.2/\ p.2.2<=m)
theorem I1 {a b:P3} (ha:fq a) (hb:fq b):Bd 32768 (sb a b):=by
 unfold sb
 refine ⟨⟨?_,?_⟩,⟨?_,?_⟩,?_,?_⟩<;>dsimp only<;>omega
theorem yl {a b:P3} (ha:fq a) (hb:fq b):o7 (a,b)/\ zA (a,b)=sb a b:=by
 obtain ⟨h1,h2⟩:=Ex (x:= [a,b]) (by simp) (fun p hp=>by
  simp only [List.mem_cons,List.not_mem_nil,or_false] at hp
  rcases hp with rfl|rfl
  ·exact ⟨by omega,by omega,by omega⟩
  ·exact ⟨by omega,by omega,by omega⟩)
 refine ⟨h1,?_⟩
 unfold zA ai qp xw
 dsimp only
 rw [h2,if_neg (by decide),aL (by omega) (by omega),aL (by omega) (by omega),aL (by omega) (by omega)]
 rfl
theorem lP {a b:Int} (ha: -32768<=a/\ a<=32768) (hb: -32768<=b/\ b<=32768): -1073741824<=a*b/\ a*b<=1073741824:=Gy (A:=32768) (B:=32768) ha.1 ha.2 hb.1 hb.2
theorem Wx {p q:P3} (hp:Bd 32768 p) (hq:Bd 32768 q):Bd 2147483648 (Pw p q):=by
 have h1:=lP hp.2.1 hq.2.2
 have h2:=lP hp.2.2 hq.2.1
 have h3:=lP hp.2.2 hq.1
 have h4:=lP hp.1 hq.2.2
 have h5:=lP hp.1 hq.2.1
 have h6:=lP hp.2.1 hq.1
 unfold Pw
 refine ⟨⟨?_,?_⟩,⟨?_,?_⟩,?_,?_⟩<;>dsimp only<;>omega
theorem HO {p q:P3} (hp:Bd 32768 p) (hq:Bd 32768 q):qR (p,q)/\ zS (p,q)=(Pw p q,0):=by
 obtain ⟨g1,g2⟩:=Ex (x:= [p,q]) (by simp) (fun r hr=>by
  simp only [List.mem_cons,List.not_mem_nil,or_false] at hr
  rcases hr with rfl|rfl
  ·exact ⟨by omega,by omega,by omega⟩
  ·exact ⟨by omega,by omega,by omega⟩)
 refine ⟨g1,?_⟩
 have h1:=lP hp.2.1 hq.2.2
 have h2:=lP hp.2.2 hq.2.1
 have h3:=lP hp.2.2 hq.1
 have h4:=lP hp.1 hq.2.2
 have h5:=lP hp.1 hq.2.1
 have h6:=lP hp.2.1 hq.1
 unfold zS ai qp xw Pw
 dsimp only
 rw [g2,if_neg (by decide),aL (n:=p.2.1*q.2.2) (by omega) (by omega),aL (n:=p.2.2*q.2.1) (by omega) (by omega),aL (n:=p.2.2*q.1) (by omega) (by omega),aL (n:=p.1*q.2.2) (by omega) (by omega),aL (n:=p.1*q.2.1) (by omega) (by omega),aL (n:=p.2.1*q.1) (by omega) (by omega),
  aL (by omega) (by omega),aL (by omega) (by omega),aL (by omega) (by omega)]
theorem sm1 {a:P3} (ha:fq a): ∀p∈ [a],fq p:=fun p hp=>by rw [List.mem_singleton] at hp;rw [hp];exact ha
theorem sm2 {a b:P3} (ha:fq a) (hb:fq b): ∀p∈ [a,b],fq p:=fun p hp=>by
 rcases List.mem_cons.1 hp with rfl|hp
 ·exact ha
 ·exact sm1 hb p hp
theorem sm3 {a b c:P3} (ha:fq a) (hb:fq b) (hc:fq c): ∀p∈ [a,b,c],fq p:=fun p hp=>by
 rcases List.mem_cons.1 hp with rfl|hp
 ·exact ha
 ·exact sm2 hb hc p hp
theorem wI {x:List P3} (hl:x.length<4611686018427387904) (h: ∀p∈x,fq p):b9 x/\ cJ x=true:=⟨(cK x hl).1,by rw [(cK x hl).2];exact decide_eq_true h⟩
theorem Ao {a b c d:P3} (ha:fq a) (hb:fq b) (hc:fq c) (hd:fq d):ng (a,(b,(c,d)))/\ DO (a,(b,(c,d)))=(lY a b c d,0):=by
 obtain ⟨s1,s2⟩:=wI (x:= [a,b,c]) (by simp) (sm3 ha hb hc)
 obtain ⟨s3,s4⟩:=wI (x:= [d]) (by simp) (sm1 hd)
 obtain ⟨u1,u2⟩:=yl hb ha
 obtain ⟨v1,v2⟩:=yl hc ha
 obtain ⟨w1,w2⟩:=yl hd ha
 obtain ⟨c1,c2⟩:=HO (I1 hb ha) (I1 hc ha)
 have cb:=Wx (I1 hb ha) (I1 hc ha)
 have db:=I1 hd ha
 have n2:vS (a,(b,c))=(Pw (sb b a) (sb c a),0):=by
  unfold vS RF ai
  dsimp only
  rw [s2,if_neg (by decide),u2,v2,c2]
 have n1:nO (a,(b,c)):=by
  unfold nO x4 az
  dsimp only
  rw [u2,v2]
  exact ⟨s1,fun _=>⟨u1,v1,c1⟩⟩
 unfold ng DO az ai
 dsimp only
 rw [n2,s4,w2]
 refine ⟨⟨n1,fun _=>⟨s3,fun _=>w1⟩⟩,?_⟩
 dsimp only
 rw [if_neg (by decide),if_neg (by decide)]
 unfold lY
 generalize Pw (sb b a) (sb c a)=p at*
 generalize sb d a=q at*
 have e1:=Gy (a:=p.1) (b:=q.1) (A:=2147483648) (B:=32768) cb.1.1 cb.1.2 db.1.1 db.1.2
 have e2:=Gy (a:=p.2.1) (b:=q.2.1) (A:=2147483648) (B:=32768) cb.2.1.1 cb.2.1.2 db.2.1.1 db.2.1.2
 have e3:=Gy (a:=p.2.2) (b:=q.2.2) (A:=2147483648) (B:=32768) cb.2.2.1 cb.2.2.2 db.2.2.1 db.2.2.2
 rw [aL (n:=p.1*q.1) (by omega) (by omega),aL (n:=p.2.1*q.2.1) (by omega) (by omega),aL (n:=p.2.2*q.2.2) (by omega) (by omega),aL (n:=p.1*q.1+p.2.1*q.2.1) (by omega) (by omega),aL (by omega) (by omega)]
 rfl
abbrev ZR (t:T3):Prop:=fq t.1/\ fq t.2.1/\ fq t.2.2
def jh (a:P3) (t:T3):Int:=lY t.1 t.2.1 t.2.2 a
theorem I6 {a:P3} {t:T3} (ha:fq a) (ht:ZR t):tn (a,t)/\ Cn (a,t)=(qz (jh a t) 0,0):=by
 obtain ⟨h1,h2⟩:=Ao ht.1 ht.2.1 ht.2.2 ha
 refine ⟨h1,?_⟩
 unfold Cn ai
 dsimp only
 rw [h2,pF]
 rfl
theorem PI (l:List Int) (hl:l.length<4611686018427387904):AE (false,l)/\ Tt (false,l)= !l.any (fun n=> !decide (n>=0)):=by
 refine oH l hl _ _ _ (fun i hi=> ?_) (fun i v hv=> ?_) ?_
 ·unfold yy
  intro h
  simp only [Int.toNat_natCast]
  dsimp only at h ⊢
  exact ⟨⟨by omega,by omega⟩,by omega,by omega⟩
 ·have hlt:=eu hv
  unfold l6
  dsimp only
  rw [if_pos (by omega),Int.toNat_natCast,jw hv]
  unfold ai DC
  rfl
 ·unfold l6
  dsimp only
  rw [if_neg (by omega)]
theorem PG (l:List Int) (hl:l.length<4611686018427387904):AA (false,l)/\ Wi (false,l)= !l.any (fun n=> !decide (n<=0)):=by
 refine oH l hl _ _ _ (fun i hi=> ?_) (fun i v hv=> ?_) ?_
 ·unfold yx
  intro h
  simp only [Int.toNat_natCast]
  dsimp only at h ⊢
  exact ⟨⟨by omega,by omega⟩,by omega,by omega⟩
 ·have hlt:=eu hv
  unfold l5
  dsimp only
  rw [if_pos (by omega),Int.toNat_natCast,jw hv]
  unfold ai Qz
  rfl
 ·unfold l5
  dsimp only
  rw [if_neg (by omega)]
def qy (a b:P3) (t:T3):Prop:=((jh a t<0/\ 0<jh b t)\/ (jh b t<0/\ 0<jh a t))/\
 ((0<=lY a b t.1 t.2.1/\ 0<=lY a b t.2.1 t.2.2/\ 0<=lY a b t.2.2 t.1)\/ (lY a b t.1 t.2.1<=0/\ lY a b t.2.1 t.2.2<=0/\ lY a b t.2.2 t.1<=0))
instance (a b:P3) (t:T3):Decidable (qy a b t):=by unfold qy;infer_instance
theorem LV (x:Int):(qz x 0= -1/\ x<0)\/ (qz x 0=0/\ x=0)\/ (qz x 0=1/\ 0<x):=by unfold qz;split<;>(try split)<;>omega
theorem L6 {a b:P3} {t:T3} (ha:fq a) (hb:fq b) (ht:ZR t):mO (a,(b,t))/\ Dz (a,(b,t))=(decide (qy a b t),0):=by
 obtain ⟨s1,s2⟩:=wI (x:= [a,b]) (by simp) (sm2 ha hb)
 obtain ⟨s3,s4⟩:=wI (x:= [t.1,t.2.1,t.2.2]) (by simp) (sm3 ht.1 ht.2.1 ht.2.2)
 obtain ⟨a1,a2⟩:=I6 ha ht
 obtain ⟨b1,b2⟩:=I6 hb ht
 obtain ⟨r1,r2⟩:=Ao ha hb ht.1 ht.2.1
 obtain ⟨r3,r4⟩:=Ao ha hb ht.2.1 ht.2.2
 obtain ⟨r5,r6⟩:=Ao ha hb ht.2.2 ht.1
 unfold mO Dz az ai
 dsimp only
 rw [s2,s4,a2,b2,r2,r4,r6]
 have hu:=PI [lY a b t.1 t.2.1,lY a b t.2.1 t.2.2,lY a b t.2.2 t.1] (by simp)
 have hd:=PG [lY a b t.1 t.2.1,lY a b t.2.1 t.2.2,lY a b t.2.2 t.1] (by simp)
 refine ⟨⟨s1,fun _=>⟨s3,fun _=>⟨a1,b1,fun _=>⟨r1,r3,r5,hu.1,fun _=>hd.1⟩⟩⟩⟩,?_⟩
 rw [if_neg (by decide),if_neg (by decide)]
 dsimp only
 rw [hu.2,hd.2]
 have hx:=LV (jh a t)
 have hy:=LV (jh b t)
 by_cases hs:(jh a t<0/\ 0<jh b t)\/ (jh b t<0/\ 0<jh a t)
 ·have hw:ae (qz (jh a t) 0*qz (jh b t) 0)= -1:=by
   rcases hs with ⟨h1,h2⟩|⟨h1,h2⟩
   ·have e1:qz (jh a t) 0= -1:=by omega
    have e2:qz (jh b t) 0=1:=by omega
    rw [e1,e2];rfl
   ·have e1:qz (jh a t) 0=1:=by omega
    have e2:qz (jh b t) 0= -1:=by omega
    rw [e1,e2];rfl
  rw [hw,if_neg (by decide)]
  simp only [List.any_cons,List.any_nil,Bool.or_false,qy,hs,true_and]
  by_cases h1:0<=lY a b t.1 t.2.1/\ 0<=lY a b t.2.1 t.2.2/\ 0<=lY a b t.2.2 t.1
  ·simp [h1]
  ·rw [if_neg (by simp;omega)]
   congr 1
   rw [Bool.eq_iff_iff]
   simp
   omega
 ·have hw:ae (qz (jh a t) 0*qz (jh b t) 0)≥0:=by
   rcases hx with ⟨e1,h1⟩|⟨e1,h1⟩|⟨e1,h1⟩<;>rcases hy with ⟨e2,h2⟩|⟨e2,h2⟩|⟨e2,h2⟩<;>rw [e1,e2]<;>first|decide|(exfalso;omega)
  rw [if_pos hw]
  congr 1
  exact (decide_eq_false fun h=>hs h.1).symm
theorem T0 {a b:P3} {t:T3} (h: ¬(fq a/\ fq b)):mO (a,(b,t))/\ Dz (a,(b,t))=(false,5):=by
 have s1:=(cK [a,b] (by simp)).1
 have s2:cJ [a,b]=false:=by rw [(cK [a,b] (by simp)).2];exact decide_eq_false (by simpa using h)
 unfold mO Dz az ai
 dsimp only
 rw [s2]
 exact ⟨⟨s1,fun h=>absurd rfl h⟩,rfl⟩
theorem AW (a b c d:P3):lY b a c d= -lY a b c d:=by
 unfold lY dt Pw sb;dsimp only;grind
theorem qy.symm {a b:P3} {t:T3} :qy a b t↔qy b a t:=by
 have e1:=AW a b t.1 t.2.1
 have e2:=AW a b t.2.1 t.2.2
 have e3:=AW a b t.2.2 t.1
 unfold qy
 rw [e1,e2,e3]
 omega
end Go.Proofs.YtlkgabjhkfhgaaaGreat
namespace Go.Proofs.YtlkgabjhkfhgaaaGreat
open Go Go.Ev Go.Proofs
theorem VB (a b t0 t1 t2:P3):lY t0 t1 t2 a- lY t0 t1 t2 b= -(lY a b t0 t1+lY a b t1 t2+lY a b t2 t0):=by
 unfold lY dt Pw sb;dsimp only;grind
theorem ZK (a b t0 t1 t2:P3):lY t0 t1 t2 a*b.1- lY t0 t1 t2 b*a.1= -(lY a b t1 t2*t0.1+lY a b t2 t0*t1.1+lY a b t0 t1*t2.1):=by
 unfold lY dt Pw sb;dsimp only;grind
theorem ZL (a b t0 t1 t2:P3):lY t0 t1 t2 a*b.2.1- lY t0 t1 t2 b*a.2.1= -(lY a b t1 t2*t0.2.1+lY a b t2 t0*t1.2.1+lY a b t0 t1*t2.2.1):=by
 unfold lY dt Pw sb;dsimp only;grind
theorem ZM (a b t0 t1 t2:P3):lY t0 t1 t2 a*b.2.2- lY t0 t1 t2 b*a.2.2= -(lY a b t1 t2*t0.2.2+lY a b t2 t0*t1.2.2+lY a b t0 t1*t2.2.2):=by
 unfold lY dt Pw sb;dsimp only;grind
theorem Hw {x y r0 r1 r2 al bl t0 t1 t2 lo hi:Int} (hs:x- y=r0+r1+r2) (he:x*bl- y*al=r1*t0+r2*t1+r0*t2) (h0:0<=r0) (h1:0<=r1) (h2:0<=r2)
  (l0:lo<=t0) (l1:lo<=t1) (l2:lo<=t2) (u0:t0<=hi) (u1:t1<=hi) (u2:t2<=hi):lo*(x- y)<=al*(x- y)+x*(bl- al)/\ al*(x- y)+x*(bl- al)<=hi*(x- y):=by
 have e:al*(x- y)+x*(bl- al)=r1*t0+r2*t1+r0*t2:=by rw [<- he];grind
 rw [e,hs]
 have a1:=Int.mul_le_mul_of_nonneg_left l0 h1
 have a2:=Int.mul_le_mul_of_nonneg_left l1 h2
 have a3:=Int.mul_le_mul_of_nonneg_left l2 h0
 have b1:=Int.mul_le_mul_of_nonneg_left u0 h1
 have b2:=Int.mul_le_mul_of_nonneg_left u1 h2
 have b3:=Int.mul_le_mul_of_nonneg_left u2 h0
 have c1:lo*(r0+r1+r2)=r1*lo+r2*lo+r0*lo:=by grind
 have c2:hi*(r0+r1+r2)=r1*hi+r2*hi+r0*hi:=by grind
 rw [c1,c2]
 omega
theorem T7 {a b:P3} {t:T3} {bx:B3} (h:qy a b t) (hb: ∀p∈C5 t,Hq bx.1 p/\ Hq p bx.2): ∃n d,0<d/\ 0<=n/\ n<=d/\ XW a b bx n d:=by
 obtain ⟨⟨l01,l02,l03⟩,u01,u02,u03⟩:=hb t.1 (by simp [C5])
 obtain ⟨⟨l11,l12,l13⟩,u11,u12,u13⟩:=hb t.2.1 (by simp [C5])
 obtain ⟨⟨l21,l22,l23⟩,u21,u22,u23⟩:=hb t.2.2 (by simp [C5])
 have es:=VB a b t.1 t.2.1 t.2.2
 have ex:=ZK a b t.1 t.2.1 t.2.2
 have ey:=ZL a b t.1 t.2.1 t.2.2
 have ez:=ZM a b t.1 t.2.1 t.2.2
 unfold qy jh at h
 generalize lY t.1 t.2.1 t.2.2 a=x at*
 generalize lY t.1 t.2.1 t.2.2 b=y at*
 generalize lY a b t.1 t.2.1=r0 at*
 generalize lY a b t.2.1 t.2.2=r1 at*
 generalize lY a b t.2.2 t.1=r2 at*
 obtain ⟨hs,hr⟩:=h
 rcases hs with ⟨h1,h2⟩|⟨h1,h2⟩
 ·have hr:0≤r0∧0≤r1∧0≤r2:=by omega
  refine ⟨-x,y- x,by omega,by omega,by omega,fun i hi=> ?_⟩
  have k: ∀al bl t0 t1 t2 lo hi:Int,x*bl- y*al= -(r1*t0+r2*t1+r0*t2)->lo<=t0->lo<=t1->lo<=t2->t0<=hi->t1<=hi->t2<=hi->lo*(y- x)<=al*(y- x)+ -x*(bl- al)/\ al*(y- x)+ -x*(bl- al)<=hi*(y- x):=fun al bl t0 t1 t2 lo hi he a1 a2 a3 b1 b2 b3=>by
   have:=Hw (x:= -x) (y:= -y) (r0:=r0) (r1:=r1) (r2:=r2) (al:=al) (bl:=bl) (t0:=t0) (t1:=t1) (t2:=t2) (lo:=lo) (hi:=hi) (by omega) (by grind) hr.1 hr.2.1 hr.2.2 a1 a2 a3 b1 b2 b3
   rw [show-x- -y=y- x by omega] at this
   exact this
  match i,hi with
  |0,_=>exact k _ _ _ _ _ _ _ ex l01 l11 l21 u01 u11 u21
  |1,_=>exact k _ _ _ _ _ _ _ ey l02 l12 l22 u02 u12 u22
  |2,_=>exact k _ _ _ _ _ _ _ ez l03 l13 l23 u03 u13 u23
 ·have hr:r0≤0∧r1≤0∧r2≤0:=by omega
  refine ⟨x,x- y,by omega,by omega,by omega,fun i hi=> ?_⟩
  have k: ∀al bl t0 t1 t2 lo hi:Int,x*bl- y*al= -(r1*t0+r2*t1+r0*t2)->lo<=t0->lo<=t1->lo<=t2->t0<=hi->t1<=hi->t2<=hi->lo*(x- y)<=al*(x- y)+x*(bl- al)/\ al*(x- y)+x*(bl- al)<=hi*(x- y):=fun al bl t0 t1 t2 lo hi he a1 a2 a3 b1 b2 b3=>
   Hw (r0:= -r0) (r1:= -r1) (r2:= -r2) (by omega) (by grind) (by omega) (by omega) (by omega) a1 a2 a3 b1 b2 b3
  match i,hi with
  |0,_=>exact k _ _ _ _ _ _ _ ex l01 l11 l21 u01 u11 u21
  |1,_=>exact k _ _ _ _ _ _ _ ey l02 l12 l22 u02 u12 u22
  |2,_=>exact k _ _ _ _ _ _ _ ez l03 l13 l23 u03 u13 u23
end Go.Proofs.YtlkgabjhkfhgaaaGreat
namespace Go.Proofs.YtlkgabjhkfhgaaaGreat
open Go Go.Ev Go.Proofs
abbrev Yg:Type:=List u6×(List T3×(P3×P3))
def lW (L:List T3) (a b:P3) (pl:List Int):Prop:= ∃i∈pl,qy a b (L.getD i.toNat zT)
instance (L:List T3) (a b:P3) (pl:List Int):Decidable (lW L a b pl):=Classical.propDecidable _
theorem ZG {L:List T3} (hs:xC L) {i:Int} (h:0<=i/\ i<(L.length:Int)):ZR (L.getD i.toNat zT):=by
 have hm:=hs _ (l8 (show i.toNat<L.length by omega) zT)
 exact ⟨hm _ (by simp [C5]),hm _ (by simp [C5]),hm _ (by simp [C5])⟩
theorem F4 {G:List u6} {L:List T3} {a b:P3} (hs:xC L) (ha:fq a) (hb:fq b) {pl:List Int} (hi:G6 L pl) (hl:pl.length<=1000):
  kI (pl,(G,(L,(a,b))))/\ (oM (pl,(G,(L,(a,b))))=true↔lW L a b pl):=by
 have hit: ∀i∈pl,sX ((G,(L,(a,b))),i)/\ Eh ((G,(L,(a,b))),i)=decide (qy a b (L.getD i.toNat zT)):=fun i hm=>by
  have h:=hi i hm
  obtain ⟨h1,h2⟩:=L6 ha hb (ZG hs h)
  unfold sX Eh ai
  dsimp only
  have e:Dz (a,(b,L.getD i.toNat (((0:Int),((0:Int),(0:Int))),(((0:Int),((0:Int),(0:Int))),((0:Int),((0:Int),(0:Int)))))))=_:=h2
  rw [e]
  exact ⟨⟨h,by omega,by omega,h1⟩,rfl⟩
 have hh:=mP pl (by omega) (fun i=>Eh ((G,(L,(a,b))),i)) (gU (pl,(G,(L,(a,b))))) (oq (pl,(G,(L,(a,b))))) (fun i hi=>by
   unfold oq
   intro h
   simp only [Int.toNat_natCast]
   dsimp only at h ⊢
   exact ⟨by omega,by omega,by omega,(hit _ (l8 (by omega) 0)).1⟩) (fun i x hx=>by
   have hlt:=eu hx
   unfold gU ai
   dsimp only
   rw [if_pos (by omega),Int.toNat_natCast,jw hx]) (by
   unfold gU
   dsimp only
   rw [if_neg (by omega)])
 refine ⟨hh.1,?_⟩
 have e:KH (pl,(G,(L,(a,b))))=_:=hh.2
 unfold oM ai
 rw [e]
 refine (iff_of_eq (congrArg (fun b:Bool=>b=true) (qY pl fun i=>Eh ((G,(L,(a,b))),i)))).trans ?_
 rw [List.any_eq_true]
 unfold lW
 constructor
 ·rintro ⟨i,h1,h2⟩
  rw [(hit i h1).2] at h2
  exact ⟨i,h1,of_decide_eq_true h2⟩
 ·rintro ⟨i,h1,h2⟩
  exact ⟨i,h1,by rw [(hit i h1).2];exact decide_eq_true h2⟩
theorem Dc {x:Yg} {k c:Nat} {T:List Int} (hk:k<x.1.length) (hT:T.length<=20000) (hx:x.1.length<=10000) (hc:c<=100000)
  (h1:kj (x.2.2.1,(x.2.2.2,(x.1.getD k zB).1))) (h2:(x.1.getD k zB).2.1=0->kI ((x.1.getD k zB).2.2.2,x)):
  fP x ((c:Int),T++ [(k:Int)])/\ cC x ((c:Int),T++ [(k:Int)])=
   (if (ot (x.2.2.1,(x.2.2.2,(x.1.getD k zB).1))).1=true then (if (x.1.getD k zB).2.1=0 then (if oM ((x.1.getD k zB).2.2.2,x)=true then .inr (.inl ((c+1:Nat):Int)) else .inl (((c+1:Nat):Int),T))
    else .inl (((c+1:Nat):Int),T++ [(x.1.getD k zB).2.2.1,(x.1.getD k zB).2.1])) else .inl (((c+1:Nat):Int),T)):=by
 have e0:(((T++ [(k:Int)]).length:Nat):Int)=(T.length:Int)+1:=by simp
 have e1:ae ((((T++ [(k:Int)]).length:Nat):Int)- 1)=(T.length:Int):=by rw [e0,aL (by omega) (by omega)];omega
 have e2:(T++ [(k:Int)]).getD T.length 0=(k:Int):=by simp
 have e3:(T++ [(k:Int)]).take T.length=T:=by simp
 have e4:ae ((c:Int)+1)=((c+1:Nat):Int):=by rw [aL (by omega) (by omega)];rfl
 unfold fP cC az ai
 dsimp only
 rw [e1]
 simp only [Int.toNat_natCast]
 rw [e2,e3,e4]
 simp only [Int.toNat_natCast]
 constructor
 ·intro _
  refine ⟨⟨by omega,by omega⟩,by simp,by simp,⟨by omega,by omega⟩,hk,hk,⟨by omega,by omega⟩,h1,fun _=>⟨fun q=>h2 (by simpa using q),fun _=>by omega⟩⟩
 ·rw [if_pos (by omega)]
  show (if (!(ot (x.2.2.1,(x.2.2.2,(x.1.getD k zB).1))).1)=true then _ else _)=_
  cases (ot (x.2.2.1,(x.2.2.2,(x.1.getD k zB).1))).1 with
  |false=>rfl
  |true=>
   rw [if_neg (by decide),if_pos rfl]
   by_cases hz:(x.1.getD k zB).2.1=0
   ·rw [if_pos hz]
    exact if_pos (by simpa using hz)
   ·rw [if_neg hz]
    exact if_neg (by simpa using hz)
theorem SY (x:Yg) (c:Int):fP x (c,[])/\ cC x (c,[])= .inr (.inr c):=by
 constructor
 ·unfold fP
  intro h
  exact absurd (show (0:Int)>0 from h) (by decide)
 ·unfold cC
  exact if_neg (show¬(0:Int)>0 by decide)
theorem lW.mono {L:List T3} {a b:P3} {l m:List Int} (h:lW L a b l) (hs: ∀i∈l,i∈m):lW L a b m:=by
 obtain ⟨i,h1,h2⟩:=h
 exact ⟨i,hs i h1,h2⟩
theorem DY {L:List T3} (hs:xC L) {a b:P3} (ha:fq a) (hb:fq b) {pl:List Int} (hi:G6 L pl) (hl:pl.length<=1000) (h0:pl≠ []):
  kj (a,(b,fy (L,pl)))/\ (lW L a b pl->(ot (a,(b,fy (L,pl)))).1=true):=by
 have hB:=LQ hs hi (by omega) h0
 obtain ⟨⟨s1,s2⟩,s3⟩:=hB.is (Cb hs hi)
 obtain ⟨m1,m2⟩:=OE ha hb s1 s2 s3
 refine ⟨m1,fun ⟨i,h1,h2⟩=>m2 (T7 h2 fun p hp=> ?_)⟩
 have hpt:p∈mY L pl:=List.mem_flatMap.2 ⟨i,h1,hp⟩
 exact ⟨hB.low p hpt,hB.high p hpt⟩
theorem S0 {L:List T3} (hs:xC L) {a b:P3} (ha:fq a) (hb:fq b) {H:List u6} (hH:H.length<=10000) {s:Nat} {par:Int} {pl:List Int} {G:List u6} {N:List (List Int)} {U:List Int} (ht:iU L s par pl G N U):
  G6 L pl->pl.length<=1000->pl≠ []->(∀k,k<G.length->H.getD (s+k) zB=G.getD k zB)->s+G.length<=H.length-> ∀(c:Nat) (T:List Int) (Post:Int⊕Int->Prop),c+G.length<=100000->T.length+G.length<=20000->
   (∀m:Nat,1<=m->m<=G.length->(lW L a b pl->Post (.inl ((c+m:Nat):Int)))/\ (¬lW L a b pl->TR (cC (H,(L,(a,b)))) (fP (H,(L,(a,b)))) (((c+m:Nat):Int),T) Post))->
   TR (cC (H,(L,(a,b)))) (fP (H,(L,(a,b)))) ((c:Int),T++ [(s:Int)]) Post:=by
 induction ht with
 |leaf s par pl h2=>
  intro hi hl h0 X1 JW c T Post hc hT hP
  have e:=X1 0 (by simp)
  simp only [List.length_singleton] at JW hc hT hP
  rw [Nat.add_zero,show ([(fy (L,pl),((0:Int),((0:Int),pl)))]:List u6).getD 0 zB=(fy (L,pl),(0,(0,pl))) from rfl] at e
  obtain ⟨m1,m2⟩:=DY hs ha hb hi hl h0
  obtain ⟨c1,c2⟩:=F4 (G:=H) hs ha hb hi hl
  obtain ⟨r1,r2⟩:=Dc (x:=(H,(L,(a,b)))) (k:=s) (c:=c) (T:=T) (by dsimp only;omega) (by omega) hH (by omega) (by dsimp only;rw [e];exact m1) (fun _=>by dsimp only;rw [e];exact c1)
  dsimp only at r2
  rw [e] at r2
  dsimp only at r2
  rw [if_pos rfl] at r2
  obtain ⟨q1,q2⟩:=hP 1 (Nat.le_refl _) (Nat.le_refl _)
  by_cases hh:lW L a b pl
  ·rw [if_pos (m2 hh),if_pos (c2.2 hh)] at r2
   exact TR.stop r1 r2 (q1 hh)
  ·refine TR.go r1 ?_ (q2 hh)
   rw [r2]
   split
   ·rw [if_neg fun q=>hh (c2.1 q)]
   ·rfl
 |fork s par pl A0 B0 A B NA NB UA UB h2 hp hla hlb he hA hB Hg Hh=>
  intro hi hl h0 X1 JW c T Post hc hT hP
  have hlen:((fy (L,pl),(((s+1:Nat):Int),(((s+1+A.length:Nat):Int),([]:List Int))))::(A++B)).length=1+A.length+B.length:=by simp;omega
  rw [hlen] at JW hc hT hP X1
  have e:=X1 0 (by omega)
  rw [Nat.add_zero,show ((fy (L,pl),(((s+1:Nat):Int),(((s+1+A.length:Nat):Int),([]:List Int))))::(A++B)).getD 0 zB=(fy (L,pl),(((s+1:Nat):Int),(((s+1+A.length:Nat):Int),[]))) from rfl] at e
  have sA: ∀i∈A0,i∈pl:=fun i h=>hp.mem_iff.1 (List.mem_append.2 (.inl h))
  have sB: ∀i∈B0,i∈pl:=fun i h=>hp.mem_iff.1 (List.mem_append.2 (.inr h))
  obtain ⟨m1,m2⟩:=DY hs ha hb hi hl h0
  obtain ⟨r1,r2⟩:=Dc (x:=(H,(L,(a,b)))) (k:=s) (c:=c) (T:=T) (by dsimp only;omega) (by omega) hH (by omega) (by dsimp only;rw [e];exact m1) (fun q=>by
   dsimp only at q
   rw [e] at q
   dsimp only at q
   omega)
  dsimp only at r2
  rw [e] at r2
  dsimp only at r2
  rw [if_neg (show¬((s+1:Nat):Int)=0 by omega)] at r2
  by_cases hm:(ot (a,(b,fy (L,pl)))).1=true
  ·rw [if_pos hm] at r2
   refine TR.go r1 r2 ?_
   have eT:T++ [((s+1+A.length:Nat):Int),((s+1:Nat):Int)]=(T++ [((s+1+A.length:Nat):Int)])++ [((s+1:Nat):Int)]:=by simp
   rw [eT]
   refine Hg (fun i h=>hi i (sA i h)) (by omega) (fun q=>by rw [q] at hla;simp at hla;omega) (fun k hk=> ?_) (by omega) (c+1) _ Post (by omega) (by simp;omega) fun m g1 g2=>⟨fun hh=> ?_,fun hn=> ?_⟩
   ·have:=X1 (1+k) (by omega)
    rw [ZT hk zB] at this
    rw [<- this];congr 1;omega
   ·have:=(hP (1+m) (by omega) (by omega)).1 (hh.mono sA)
    rw [show c+1+m=c+(1+m) by omega];exact this
   ·refine Hh (fun i h=>hi i (sB i h)) (by omega) (fun q=>by rw [q] at hlb;simp at hlb;omega) (fun k hk=> ?_) (by omega) (c+1+m) T Post (by omega) (by omega) fun m' g3 g4=> ?_
    ·have:=X1 (1+A.length+k) (by omega)
     rw [ZU k _ rfl zB] at this
     rw [<- this];congr 1;omega
    ·have:=hP (1+m+m') (by omega) (by omega)
     rw [show c+1+m+m'=c+(1+m+m') by omega]
     refine ⟨fun hh=>this.1 (hh.mono sB),fun Kt=>this.2 fun ⟨i,q1,q2⟩=> ?_⟩
     rcases List.mem_append.1 (hp.mem_iff.2 q1) with q|q
     ·exact hn ⟨i,q,q2⟩
     ·exact Kt ⟨i,q,q2⟩
  ·rw [if_neg hm] at r2
   exact TR.go r1 r2 ((hP 1 (Nat.le_refl _) (by omega)).2 fun hh=>hm (m2 hh))
theorem SZ {L:List T3} (hs:xC L) {a b:P3} (ha:fq a) (hb:fq b) {G:List u6} {N:List (List Int)} {U:List Int} (hG:G.length<=10000) {pl:List Int} (ht:iU L 0 (-1) pl G N U) (hi:G6 L pl) (hl:pl.length<=1000) (h0:pl≠ []):
  yo (G,(L,(a,b)))/\ ∃m:Nat,1<=m/\ m<=G.length/\ Nc (G,(L,(a,b)))=(decide (lW L a b pl),(m:Int)):=by
 have key:=S0 hs ha hb hG ht hi hl h0 (fun k _=>by rw [Nat.zero_add]) (by omega) 0 [] (fun r=> ∃m:Nat,1<=m/\ m<=G.length/\ ((lW L a b pl/\ r= .inl (m:Int))\/ (¬lW L a b pl/\ r= .inr (m:Int)))) (by omega) (by simp;omega) fun m g1 g2=>⟨fun hh=>⟨m,g1,g2,.inl ⟨hh,by rw [Nat.zero_add]⟩⟩,fun hh=>by
  obtain ⟨w1,w2⟩:=SY (G,(L,(a,b))) ((0+m:Nat):Int)
  exact TR.stop w1 w2 ⟨m,g1,g2,.inr ⟨hh,by rw [Nat.zero_add]⟩⟩⟩
 refine ⟨key.1,?_⟩
 obtain ⟨m,g1,g2,hr⟩:=key.2
 refine ⟨m,g1,g2,?_⟩
 unfold Nc ai
 have hr:(lW L a b pl/\ run (cC (G,(L,(a,b)))) (0,[0])= .inl (m:Int))\/ (¬lW L a b pl/\ run (cC (G,(L,(a,b)))) (0,[0])= .inr (m:Int)):=hr
 rcases hr with ⟨h1,h2⟩|⟨h1,h2⟩
 ·rw [h2]
  exact Prod.ext (decide_eq_true h1).symm rfl
 ·rw [h2]
  exact Prod.ext (decide_eq_false h1).symm rfl
end Go.Proofs.YtlkgabjhkfhgaaaGreat
