/- Plain laws: wide products, fractions, division rounded down, an edge's foot. -/
import Derived.Test.YtfgdjlhilladhaaGreatPa
noncomputable section
set_option linter.unusedSectionVars false
set_option linter.unusedVariables false
set_option linter.unusedSimpArgs false
namespace Go.Proofs.YtfgdjlhilladhaaGreat
open Go Go.Ev Go.Proofs
def muH (A B:Int):Int:=aj (aj (aj (aj (A.tdiv 1000000000)*aj (B.tdiv 1000000000))+aj ((aj (aj (aj (A.tdiv 1000000000)*B.tmod 1000000000)+aj (A.tmod 1000000000*aj (B.tdiv 1000000000)))).tdiv 1000000000))+aj ((aj (aj (A.tmod 1000000000*B.tmod 1000000000)+aj ((aj (aj (aj (A.tdiv 1000000000)*B.tmod 1000000000)+aj (A.tmod 1000000000*aj (B.tdiv 1000000000)))).tmod 1000000000*1000000000))).tdiv 1000000000000000000))
def muL (A B:Int):Int:=(aj (aj (A.tmod 1000000000*B.tmod 1000000000)+aj ((aj (aj (aj (A.tdiv 1000000000)*B.tmod 1000000000)+aj (A.tmod 1000000000*aj (B.tdiv 1000000000)))).tmod 1000000000*1000000000))).tmod 1000000000000000000
theorem alX {A B:Int} (ha:0<=A) (ha2:A<=1000000000000000000) (hb:0<=B) (kH:B<=1000000000000000000):muH A B=A*B / 1000000000000000000/\ muL A B=A*B % 1000000000000000000:=by
 unfold muH muL
 rw [Int.tdiv_eq_ediv_of_nonneg ha,Int.tmod_eq_emod_of_nonneg ha,Int.tdiv_eq_ediv_of_nonneg hb,Int.tmod_eq_emod_of_nonneg hb]
 rw [ay (n:=A / 1000000000) (by omega) (by omega),ay (n:=B / 1000000000) (by omega) (by omega)]
 have e:A*B=(A / 1000000000*1000000000+A % 1000000000)*(B / 1000000000*1000000000+B % 1000000000):=by
  rw [Int.ediv_mul_add_emod,Int.ediv_mul_add_emod]
 have h1:0<=A / 1000000000/\ A / 1000000000<=1000000000:=by omega
 have h2:0<=A % 1000000000/\ A % 1000000000<=999999999:=by omega
 have h3:0<=B / 1000000000/\ B / 1000000000<=1000000000:=by omega
 have h4:0<=B % 1000000000/\ B % 1000000000<=999999999:=by omega
 revert e
 generalize A / 1000000000=p at h1 ⊢
 generalize A % 1000000000=q at h2 ⊢
 generalize B / 1000000000=r at h3 ⊢
 generalize B % 1000000000=s at h4 ⊢
 intro e
 rw [e]
 have b1:=jz (a:=p) (b:=r) (A:=1000000000) (B:=1000000000) (by omega) (by omega) (by omega) (by omega)
 have b2:=jz (a:=p) (b:=s) (A:=1000000000) (B:=999999999) (by omega) (by omega) (by omega) (by omega)
 have b3:=jz (a:=q) (b:=r) (A:=999999999) (B:=1000000000) (by omega) (by omega) (by omega) (by omega)
 have b4:=jz (a:=q) (b:=s) (A:=999999999) (B:=999999999) (by omega) (by omega) (by omega) (by omega)
 have c1:=Int.mul_nonneg h1.1 h3.1
 have c2:=Int.mul_nonneg h1.1 h4.1
 have c3:=Int.mul_nonneg h2.1 h3.1
 have c4:=Int.mul_nonneg h2.1 h4.1
 have e2:(p*1000000000+q)*(r*1000000000+s)=p*r*1000000000000000000+(p*s+q*r)*1000000000+q*s:=by grind
 rw [e2]
 generalize p*r=x at*
 generalize p*s=y at*
 generalize q*r=z at*
 generalize q*s=u at*
 rw [ay (n:=x) (by omega) (by omega),ay (n:=y) (by omega) (by omega),ay (n:=z) (by omega) (by omega),ay (n:=u) (by omega) (by omega),ay (n:=y+z) (by omega) (by omega)]
 rw [Int.tdiv_eq_ediv_of_nonneg (a:=y+z) (by omega),Int.tmod_eq_emod_of_nonneg (a:=y+z) (by omega)]
 rw [ay (n:=(y+z) / 1000000000) (by omega) (by omega),ay (n:=(y+z) % 1000000000*1000000000) (by omega) (by omega),ay (n:=u+(y+z) % 1000000000*1000000000) (by omega) (by omega)]
 rw [Int.tdiv_eq_ediv_of_nonneg (by omega),Int.tmod_eq_emod_of_nonneg (by omega)]
 rw [ay (n:=(u+(y+z) % 1000000000*1000000000) / 1000000000000000000) (by omega) (by omega),ay (n:=x+(y+z) / 1000000000) (by omega) (by omega),ay (by omega) (by omega)]
 omega
theorem ak6 (x:Int):aI x (0- x)=if x<0 then-x else x:=by unfold aI;split<;>split<;>omega
theorem agh {h l:Int} (hl:0<=l/\ l<1000000000000000000) (hh:0<=h/\ h<=1000000000000000000):aio (h,l)=((-(h*1000000000000000000+l) / 1000000000000000000,-(h*1000000000000000000+l) % 1000000000000000000),0):=by
 have w: ∀h l:Int,0<=l/\ l<1000000000000000000-> -4000000000000000000<=h/\ h<=4000000000000000000->wis (h,l)=true:=fun h l h1 h2=>by
  unfold wis
  simp only [ge_iff_le,h1.1,h1.2,h2.1,h2.2,if_true,decide_true]
 unfold aio
 rw [w h l hl (by omega)]
 dsimp only [aq]
 rw [if_neg (by decide)]
 by_cases h0:l=0
 ·subst h0
  rw [if_pos (by rfl),ay (by omega) (by omega)]
  congr 1
  exact Prod.ext (by dsimp only;omega) (by dsimp only;omega)
 ·rw [if_neg (by simpa using h0),ay (n:=0- h) (by omega) (by omega),ay (n:=0- h- 1) (by omega) (by omega),ay (n:=1000000000000000000- l) (by omega) (by omega)]
  unfold Yx
  rw [w _ _ (by omega) (by omega)]
  dsimp only [aq]
  rw [if_neg (by decide)]
  congr 1
  exact Prod.ext (by dsimp only;omega) (by dsimp only;omega)
theorem VM {a b:Int} (ha: -1000000000000000000<=a/\ a<=1000000000000000000) (hb: -1000000000000000000<=b/\ b<=1000000000000000000):
  Yw (a,b)=((a*b / 1000000000000000000,a*b % 1000000000000000000),0):=by
 unfold Yw
 have h1: ¬aI a b>1000000000000000000:=by unfold aI;split<;>omega
 have h2: ¬aG a b< -1000000000000000000:=by unfold aG;split<;>omega
 dsimp only
 rw [if_neg h1,if_neg h2]
 unfold Rf
 dsimp only [aq]
 rw [ay (n:=0- a) (by omega) (by omega),ay (n:=0- b) (by omega) (by omega),ak6,ak6]
 obtain ⟨e1,e2⟩:=alX (A:=if a<0 then-a else a) (B:=if b<0 then-b else b) (by split<;>omega) (by split<;>omega) (by split<;>omega) (by split<;>omega)
 have g1: ∀x y:Int,muH x y=aj (aj (aj (aj (x.tdiv 1000000000)*aj (y.tdiv 1000000000))+aj ((aj (aj (aj (x.tdiv 1000000000)*y.tmod 1000000000)+aj (x.tmod 1000000000*aj (y.tdiv 1000000000)))).tdiv 1000000000))+aj ((aj (aj (x.tmod 1000000000*y.tmod 1000000000)+aj ((aj (aj (aj (x.tdiv 1000000000)*y.tmod 1000000000)+aj (x.tmod 1000000000*aj (y.tdiv 1000000000)))).tmod 1000000000*1000000000))).tdiv 1000000000000000000)):=fun _ _=>rfl
 have g2: ∀x y:Int,muL x y=(aj (aj (x.tmod 1000000000*y.tmod 1000000000)+aj ((aj (aj (aj (x.tdiv 1000000000)*y.tmod 1000000000)+aj (x.tmod 1000000000*aj (y.tdiv 1000000000)))).tmod 1000000000*1000000000))).tmod 1000000000000000000:=fun _ _=>rfl
 rw [<- g1,<- g2,e1,e2]
 by_cases hs:decide (a<0)=decide (b<0)
 ·rw [if_neg (by rw [hs];simp)]
  have hm:(if a<0 then-a else a)*(if b<0 then-b else b)=a*b:=by
   by_cases h:a<0
   ·have:b<0:=by simpa [h] using hs
    simp only [h,this,if_true,Int.neg_mul_neg]
   ·have: ¬b<0:=by simpa [h] using hs
    simp only [h,this,if_false]
  rw [hm]
 ·rw [if_pos (by simpa using hs)]
  have hm:(if a<0 then-a else a)*(if b<0 then-b else b)= -(a*b):=by
   by_cases h:a<0
   ·have: ¬b<0:=by simpa [h] using hs
    simp only [h,this,if_true,if_false,Int.neg_mul]
   ·have:b<0:=by simpa [h] using hs
    simp only [h,this,if_true,if_false,Int.mul_neg]
  have hm2:=jz (a:=a) (b:=b) (A:=1000000000000000000) (B:=1000000000000000000) (by omega) (by omega) (by omega) (by omega)
  have hn:0<= -(a*b):=by rw [<- hm];exact Int.mul_nonneg (by split<;>omega) (by split<;>omega)
  rw [hm]
  generalize a*b=x at*
  rw [agh (by omega) (by omega)]
  congr 1
  exact Prod.ext (by dsimp only;omega) (by dsimp only;omega)
theorem I5 (x:List Int) (hl:x.length<4611686018427387904):CL x/\ cor x=(x.find? (· !=0)).getD 0:=by
 obtain ⟨h1,h2⟩:=U2 x (oC x) (BL x) (fun l=>match l.find? (· !=0) with|some v=>Sum.inl v|none=> .inr ()) (fun i hi=>by
  unfold BL
  intro h
  simp only [Int.toNat_natCast];omega) (fun i v hv=>by
  have hlt:=bt hv
  rw [YM hv]
  unfold oC
  rw [if_pos (by omega),Int.toNat_natCast,cY hv,List.find?_cons]
  by_cases hb:(v !=0)=true
  ·rw [if_pos hb,hb];exact .inr rfl
  ·rw [if_neg hb,ay (by omega) (by omega)]
   rw [Bool.not_eq_true] at hb
   rw [hb];exact .inl ⟨rfl,rfl⟩) (by unfold oC;rw [if_neg (by omega)];rfl)
 refine ⟨h1,?_⟩
 unfold cor
 rw [h2]
 dsimp only [aq]
 cases x.find? (· !=0)<;>rfl
theorem agP (a b:Int):cor [a,b]=if a=0 then b else a:=by
 rw [(I5 [a,b] (by simp)).2]
 by_cases h:a=0
 ·subst h
  by_cases h2:b=0
  ·subst h2;rfl
  ·simp [List.find?_cons,h2]
 ·simp [List.find?_cons,h]
theorem ail (x:(Int×Int)×(Int×Int)):MS x:=fun _=>(I5 _ (by simp)).1
theorem agc (a b:Int×Int):aij (a,b)=if sg (a.1- b.1)=0 then sg (a.2- b.2) else sg (a.1- b.1):=by
 unfold aij
 dsimp only [aq]
 rw [rD,rD,agP]
 split
 ·rename_i h
  simp only [Bool.and_true,Bool.and_eq_true,beq_iff_eq] at h
  rw [h.1,h.2,Int.sub_self,Int.sub_self];rfl
 ·rfl
abbrev Fr (a:Int×Int):Prop:=(1<=a.2/\ a.2<=1000000000000000000)/\ -1000000000000000000<=a.1/\ a.1<=1000000000000000000
theorem Wk (x:(Int×Int)×(Int×Int)):Re x:=
 ⟨fun _=>⟨fun _=>ail _,fun _ _ _=>(I5 _ (by simp)).1⟩,fun _ _ _=>(I5 _ (by simp)).1⟩
theorem J7 {a b:Int×Int} (ha:Fr a) (hb:Fr b):Wd (a,b)=sg (a.1*b.2- b.1*a.2):=by
 have hr: ∀a:Int×Int,Fr a->BW a=true:=fun a ha=>by
  unfold BW
  rw [if_pos (by omega),if_pos (by omega),if_pos (by omega)]
  exact decide_eq_true (by omega)
 unfold Wd fto
 rw [hr a ha,hr b hb]
 dsimp only [aq]
 rw [if_pos rfl,if_pos rfl,VM (by omega) (by omega),VM (by omega) (by omega),agc]
 dsimp only
 generalize a.1*b.2=x
 generalize b.1*a.2=y
 unfold sg
 split<;>(try split)<;>(try split)<;>(try split)<;>(try split)<;>omega
def ako (r b:Int):Bool:=decide (aj ((BitVec.ofInt 64 r^^^BitVec.ofInt 64 b).toNat:Nat)<0)
theorem acE (x:BitVec 64):aj (x.toNat:Nat)=x.toInt:=by
 rw [aj,IntKind.wrap_i64,BitVec.toInt_eq_toNat_cond]
 have:=x.isLt
 split<;>omega
theorem agk {r b:Int} (h1: -9223372036854775808<=r) (h2:r<=9223372036854775807) (h3: -9223372036854775808<=b) (h4:b<=9223372036854775807):ako r b=(decide (r<0)^^decide (b<0)):=by
 have hm: ∀n:Int,-9223372036854775808<=n->n<=9223372036854775807->(BitVec.ofInt 64 n).msb=decide (n<0):=fun n h h'=>by
  rw [BitVec.msb_eq_toInt,BitVec.toInt_ofInt,Int.bmod_eq_of_le (by omega) (by omega)]
 unfold ako
 rw [acE,<- BitVec.msb_eq_toInt,BitVec.msb_xor,hm r h1 h2,hm b h3 h4]
theorem tdm {a b:Int} (hb:0<b):(a.tmod b≠0/\ a<0->a.tdiv b=a / b+1/\ a.tmod b=a % b- b)/\ (¬(a.tmod b≠0/\ a<0)->a.tdiv b=a / b/\ a.tmod b=a % b):=by
 have h1:=Int.mul_tdiv_add_tmod a b
 have h2:=Int.mul_ediv_add_emod a b
 have h3:=Int.emod_nonneg a (show b≠0 by omega)
 have h4:=Int.emod_lt_of_pos a hb
 by_cases ha:0<=a
 ·have e1:=Int.tdiv_eq_ediv_of_nonneg (b:=b) ha
  have e2:=Int.tmod_eq_emod_of_nonneg (b:=b) ha
  refine ⟨fun h=>by omega,fun _=>⟨e1,e2⟩⟩
 ·have e0:a.tdiv b=if a % b=0 then a / b else a / b+1:=by
   rw [Int.tdiv_eq_ediv]
   have:(0<=a\/ b ∣ a)↔a % b=0:=⟨fun h=>h.elim (fun h=>by omega) Int.emod_eq_zero_of_dvd,fun h=> .inr (Int.dvd_of_emod_eq_zero h)⟩
   have hs:b.sign=1:=Int.sign_eq_one_of_pos hb
   simp only [this,hs]
   split<;>simp
  have e2:a.tmod b=if a % b=0 then 0 else a % b- b:=by
   rw [e0] at h1
   split at h1<;>rename_i hz
   ·rw [if_pos hz];omega
   ·rw [if_neg hz]
    rw [Int.mul_add] at h1;omega
  rw [e0,e2]
  by_cases hz:a % b=0
  ·simp [hz]
  ·simp only [hz,if_false]
   refine ⟨fun _=>by simp,fun h=>absurd ⟨by omega,by omega⟩ h⟩
theorem uH (x:Int×Int):wF x:=by
 unfold wF over az
 intro h
 have h0:x.2≠0:=fun h0=>h (by simp [h0])
 exact ⟨h0,h0⟩
theorem Yu {a b:Int} (h1: -9223372036854775808<=a) (h2:a<=9223372036854775807) (hb:0<b) (kH:b<=9223372036854775807):SO (a,b)=(a / b,a % b,0):=by
 have ho:over (a,b)=0:=by
  unfold over
  dsimp only
  rw [if_neg (by simp;omega)]
  split
  ·rw [if_neg (by simp;omega)]
  ·rfl
 have h3:=Int.emod_nonneg a (show b≠0 by omega)
 have h4:=Int.emod_lt_of_pos a hb
 have h6:=Int.mul_ediv_add_emod a b
 have h5: -9223372036854775808<=a / b/\ a / b<=9223372036854775807:=by
  by_cases ha:0<=a
  ·have:=Int.ediv_nonneg ha (show 0≤b by omega)
   have:=Int.ediv_le_self b ha
   omega
  ·have hq:=Int.ediv_neg_of_neg_of_pos (show a<0 by omega) hb
   have e:=Int.mul_nonneg (show 0<=b- 1 by omega) (show 0<= -(a / b)- 1 by omega)
   have e':(b- 1)*(-(a / b)- 1)= -(b*(a / b))- b+a / b+1:=by grind
   omega
 obtain ⟨t1,t2⟩:=tdm (a:=a) hb
 have hx: ∀r:Int,-9223372036854775808<=r->r<=9223372036854775807->(aj (((BitVec.toNat ((BitVec.ofInt 64 r)^^^(BitVec.ofInt 64 b))):Nat):Int)<0↔r<0):=fun r hr hr2=>by
  have:=agk hr hr2 (show-9223372036854775808<=b by omega) kH
  unfold ako at this
  simp only [show¬b<0 by omega,decide_false,Bool.xor_false,decide_eq_decide] at this
  exact this
 unfold SO
 rw [ho]
 dsimp only [aq]
 rw [if_neg (by decide)]
 by_cases hc:a.tmod b≠0/\ a<0
 ·obtain ⟨e1,e2⟩:=t1 hc
  rw [if_pos (by simpa using hc.1),if_pos ((hx _ (by omega) (by omega)).2 (by omega)),e1,e2]
  have hn:a / b<0:=Int.ediv_neg_of_neg_of_pos hc.2 hb
  rw [ay (n:=a / b+1) (by omega) (by omega),ay (by omega) (by omega),ay (by omega) (by omega)]
  congr 1
  ·omega
  ·congr 1;omega
 ·obtain ⟨e1,e2⟩:=t2 hc
  have ali:(aj (a.tdiv b),a.tmod b,(0:Int))=(a / b,a % b,0):=by rw [e1,e2,ay (by omega) (by omega)]
  split
  ·rename_i hne
   rw [if_neg (fun h=>by
    have h:=(hx _ (by omega) (by omega)).1 h
    omega)]
   exact ali
  ·exact ali
theorem F2 {a b:Int} (h1: -9223372036854775808<=a) (h2:a<=9223372036854775807) (hb:0<b) (kH:b<=9223372036854775807):floor (a,b)=a / b:=by
 unfold floor
 rw [Yu h1 h2 hb kH];rfl
def Sq (p a:Int×Int):Int:=(p.1- a.1)*(p.1- a.1)+(p.2- a.2)*(p.2- a.2)
def AA (p a b:Int×Int):Int:=(p.1- a.1)*(b.1- a.1)+(p.2- a.2)*(b.2- a.2)
theorem sq_nonneg (a:Int):0<=a*a:=by
 rcases Int.le_total 0 a with h|h
 ·exact Int.mul_nonneg h h
 ·exact Int.mul_nonneg_of_nonpos_of_nonpos h h
theorem Qz {p a:Int×Int} (hp:Sm p) (ha:Sm a):0<=Sq p a/\ Sq p a<=134217728:=by
 have m1:=jz (a:=p.1- a.1) (b:=p.1- a.1) (A:=8192) (B:=8192) (by omega) (by omega) (by omega) (by omega)
 have m2:=jz (a:=p.2- a.2) (b:=p.2- a.2) (A:=8192) (B:=8192) (by omega) (by omega) (by omega) (by omega)
 have s1:=sq_nonneg (p.1- a.1)
 have s2:=sq_nonneg (p.2- a.2)
 unfold Sq;omega
theorem adi {p a b:Int×Int} (hp:Sm p) (ha:Sm a) (hb:Sm b): -134217728<=AA p a b/\ AA p a b<=134217728:=by
 have m1:=jz (a:=p.1- a.1) (b:=b.1- a.1) (A:=8192) (B:=8192) (by omega) (by omega) (by omega) (by omega)
 have m2:=jz (a:=p.2- a.2) (b:=b.2- a.2) (A:=8192) (B:=8192) (by omega) (by omega) (by omega) (by omega)
 unfold AA;omega
theorem Q5 {u v:Int×Int} (h1: -8192<=u.1/\ u.1<=8192) (h2: -8192<=u.2/\ u.2<=8192) (h3: -8192<=v.1/\ v.1<=8192) (h4: -8192<=v.2/\ v.2<=8192):dot (u,v)=u.1*v.1+u.2*v.2:=by
 have m1:=jz (a:=u.1) (b:=v.1) (A:=8192) (B:=8192) (by omega) (by omega) (by omega) (by omega)
 have m2:=jz (a:=u.2) (b:=v.2) (A:=8192) (B:=8192) (by omega) (by omega) (by omega) (by omega)
 unfold dot
 dsimp only
 rw [ay (n:=u.1*v.1) (by omega) (by omega),ay (n:=u.2*v.2) (by omega) (by omega),ay (by omega) (by omega)]
theorem T4 {p a:Int×Int} (k:Int) (hp:Sm p) (ha:Sm a):abf (p,a,k)=(a,k,Sq p a,1):=by
 unfold abf
 dsimp only [aq]
 rw [yX hp ha,Q5 (by dsimp only;omega) (by dsimp only;omega) (by dsimp only;omega) (by dsimp only;omega)]
 rfl
def w7 (p a b:Int×Int):(Int×Int)×(Int×Int×Int):=
 if AA p a b<=0\/ Sq b a=0 then (a,0,Sq p a,1)
 else if Sq b a<=AA p a b then (b,1,Sq p b,1)
 else ((a.1+(b.1- a.1)*AA p a b / Sq b a,a.2+(b.2- a.2)*AA p a b / Sq b a),2,c8 a b p*c8 a b p,Sq b a)
theorem Jc {x:(Int×Int)×((Int×Int)×Int×Int)} :tM x:=
 ⟨wo _,wo _,fun _=>wo _,fun _=>⟨fun _=>wo _,fun _=>⟨fun _=>wo _,fun _=>⟨(bF _ _ _).1,uH _,uH _⟩⟩⟩⟩
theorem Js {d m n:Int} (hm:0<m) (hn:m<n):(0<=d->0<=d*m / n/\ d*m / n<=d)/\ (d<=0->d<=d*m / n/\ d*m / n<=0):=by
 have e:=Int.mul_ediv_add_emod (d*m) n
 have e1:=Int.emod_nonneg (d*m) (show n≠0 by omega)
 have e2:=Int.emod_lt_of_pos (d*m) (show 0<n by omega)
 refine ⟨fun hd=>⟨Int.ediv_nonneg (Int.mul_nonneg hd (by omega)) (by omega),?_⟩,fun hd=>⟨?_,?_⟩⟩
 ·have h1:d*m≤d*n:=Int.mul_le_mul_of_nonneg_left (by omega) hd
  exact Int.ediv_le_of_le_mul (by omega) h1
 ·have h1:d*n≤d*m:=Int.mul_le_mul_of_nonpos_left hd (by omega)
  exact Int.le_ediv_of_mul_le (by omega) h1
 ·have h1:d*m≤0*n:=by
   have:=Int.mul_nonneg (show 0<= -d by omega) (show 0<=m by omega)
   have e3: -d*m= -(d*m):=Int.neg_mul d m
   omega
  exact Int.ediv_le_of_le_mul (by omega) h1
theorem Kc {p a b:Int×Int} (hp:Sm p) (ha:Sm a) (hb:Sm b):find (p,a,b)=w7 p a b:=by
 have hd:=adi hp ha hb
 have hs:=Qz hb ha
 unfold find w7
 dsimp only [aq]
 rw [yX hp ha,yX hb ha,Q5 (by dsimp only;omega) (by dsimp only;omega) (by dsimp only;omega) (by dsimp only;omega),Q5 (by dsimp only;omega) (by dsimp only;omega) (by dsimp only;omega) (by dsimp only;omega)]
 have hA:sC (a,b,p)=(c8 a b p,0):=by rw [(bF a b p).2,if_pos ⟨ha,hb,hp⟩]
 rw [T4 0 hp ha,T4 1 hp hb,hA]
 have e1:(p.1- a.1)*(b.1- a.1)+(p.2- a.2)*(b.2- a.2)=AA p a b:=rfl
 have e2:(b.1- a.1)*(b.1- a.1)+(b.2- a.2)*(b.2- a.2)=Sq b a:=rfl
 rw [e1,e2]
 by_cases h1:AA p a b<=0
 ·rw [if_pos h1,if_pos (.inl h1)]
 ·by_cases h2:Sq b a=0
  ·rw [if_neg h1,if_pos (by simpa using h2),if_pos (.inr h2)]
  ·rw [if_neg h1,if_neg (by simpa using h2),if_neg (c:=AA p a b≤0∨Sq b a=0) (by omega)]
   by_cases h3:Sq b a<=AA p a b
   ·rw [if_pos h3,if_pos h3]
   ·rw [if_neg h3,if_neg h3]
    have m1:=jz (a:=b.1- a.1) (b:=AA p a b) (A:=8192) (B:=134217728) (by omega) (by omega) (by omega) (by omega)
    have m2:=jz (a:=b.2- a.2) (b:=AA p a b) (A:=8192) (B:=134217728) (by omega) (by omega) (by omega) (by omega)
    have dt:=iy ha hb hp
    have m3:=jz (a:=c8 a b p) (b:=c8 a b p) (A:=134217728) (B:=134217728) (by omega) (by omega) (by omega) (by omega)
    rw [ay (n:=(b.1- a.1)*AA p a b) (by omega) (by omega),ay (n:=(b.2- a.2)*AA p a b) (by omega) (by omega),F2 (by omega) (by omega) (by omega) (by omega),F2 (by omega) (by omega) (by omega) (by omega)]
    have q1:=Js (d:=b.1- a.1) (show 0<AA p a b by omega) (show AA p a b<Sq b a by omega)
    have q2:=Js (d:=b.2- a.2) (show 0<AA p a b by omega) (show AA p a b<Sq b a by omega)
    rw [ay (n:=a.1+_) (by rcases Int.le_total 0 (b.1- a.1) with h|h<;>omega) (by rcases Int.le_total 0 (b.1- a.1) with h|h<;>omega),ay (n:=a.2+_) (by rcases Int.le_total 0 (b.2- a.2) with h|h<;>omega) (by rcases Int.le_total 0 (b.2- a.2) with h|h<;>omega)]
    dsimp only
    rw [ay (by omega) (by omega)]
end Go.Proofs.YtfgdjlhilladhaaGreat
