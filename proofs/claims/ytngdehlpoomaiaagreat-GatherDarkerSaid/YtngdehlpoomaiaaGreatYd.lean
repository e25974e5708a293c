/- Plain laws: jobs; where ways begin, and end. -/
import Derived.Test.YtngdehlpoomaiaaGreatKa
import Derived.Test.YtngdehlpoomaiaaGreatLm
import Derived.Test.YtngdehlpoomaiaaGreatWb
noncomputable section
set_option linter.unusedSectionVars false
set_option linter.unusedVariables false
set_option linter.unusedSimpArgs false
namespace Go.Proofs.YtngdehlpoomaiaaGreat
open Go Go.Ev Go.Proofs
abbrev qw:Type:=Int×(P3×P3×Int×Int)
abbrev Jb:Type:=Int×(Int×Int×Int×List qw)
def fu (l:qw):Prop:=(1<=l.1/\ l.1<=3)/\ (0<=l.2.2.2.1/\ l.2.2.2.1<=255)/\ (0<=l.2.2.2.2/\ l.2.2.2.2<=1024)/\ (fM l.2.1/\ fM l.2.2.1)/\ (l.1=2\/ l.2.2.1≠(0,0,0))
instance (l:qw):Decidable (fu l):=by unfold fu;infer_instance
theorem Cw (n m:Int):r7 (n,m)=decide (0<=n/\ n<=m):=by
 unfold r7
 dsimp only
 by_cases h:n>=0
 ·rw [if_pos h,Bool.eq_iff_iff];simp;omega
 ·rw [if_neg h,Bool.eq_iff_iff];simp;omega
theorem pq (n m:Int):kp (n,m)=decide (0<=n/\ n<=m):=by
 unfold kp
 dsimp only
 by_cases h:n>=0
 ·rw [if_pos h,Bool.eq_iff_iff];simp;omega
 ·rw [if_neg h,Bool.eq_iff_iff];simp;omega
theorem BL (l:qw):ov l/\ Bv l=decide (fu l):=by
 obtain ⟨k,a,d,p,c⟩:=l
 obtain ⟨s1,s2⟩:=fX [a,d] (by simp)
 unfold ov Bv aB aj
 dsimp only
 rw [Cw,Cw,s2]
 refine ⟨fun _ _ _ _=>s1,?_⟩
 have hd:(!((d.1==(0:Int))&&((d.2.1==(0:Int))&&((d.2.2==(0:Int))&&true))))=decide (d≠(0,0,0)):=by
  obtain ⟨x,y,z⟩:=d
  rw [Bool.eq_iff_iff]
  simp
 have hs:(decide (∀p∈ [a,d],fM p))=decide (fM a/\ fM d):=by
  rw [Bool.eq_iff_iff];simp
 rw [hd,hs]
 unfold fu
 dsimp only
 by_cases h1:k>=1
 rotate_left
 ·rw [if_neg h1];exact (decide_eq_false fun h=>h1 h.1.1).symm
 rw [if_pos h1]
 by_cases h2:k<=3
 rotate_left
 ·rw [if_neg h2];exact (decide_eq_false fun h=>h2 h.1.2).symm
 rw [if_pos h2]
 by_cases h3:0<=p/\ p<=255
 rotate_left
 ·rw [decide_eq_false h3,if_neg (by decide)];exact (decide_eq_false fun h=>h3 h.2.1).symm
 rw [decide_eq_true h3,if_pos rfl]
 by_cases h4:0<=c/\ c<=1024
 rotate_left
 ·rw [decide_eq_false h4,if_neg (by decide)];exact (decide_eq_false fun h=>h4 h.2.2.1).symm
 rw [decide_eq_true h4,if_pos rfl]
 by_cases h5:fM a/\ fM d
 rotate_left
 ·rw [decide_eq_false h5,if_neg (by decide)]
  exact (decide_eq_false fun h=>h5 h.2.2.2.1).symm
 rw [decide_eq_true h5,if_pos rfl]
 by_cases h6:k=2
 ·rw [if_pos (by simp [h6])]
  exact (decide_eq_true ⟨⟨h1,h2⟩,h3,h4,h5,.inl h6⟩).symm
 ·rw [if_neg (by simp [h6])]
  by_cases h7:d≠(0,0,0)
  ·rw [decide_eq_true h7]
   exact (decide_eq_true ⟨⟨h1,h2⟩,h3,h4,h5,.inr h7⟩).symm
  ·rw [decide_eq_false h7]
   exact (decide_eq_false fun h=>h.2.2.2.2.elim h6 h7).symm
theorem adt (L:List qw) (hl:L.length<4611686018427387904):zy L/\ lis L=decide (∀l∈L,fu l):=by
 have key:zy L/\ lis L= !L.any (fun l=> !decide (fu l)):=by
  refine lX L hl _ _ _ (fun i hi=> ?_) (fun i v hv=> ?_) ?_
  ·unfold Fx
   intro h
   simp only [Int.toNat_natCast]
   exact ⟨⟨by omega,by omega⟩,by omega,by omega,(BL _).1⟩
  ·have hlt:=dA hv
   unfold pF
   rw [if_pos (by omega),Int.toNat_natCast,iW hv]
   unfold aj
   rw [(BL v).2]
  ·unfold pF
   rw [if_neg (by omega)]
 refine ⟨key.1,?_⟩
 rw [key.2,Bool.eq_iff_iff]
 simp
def Ux (j:Jb):Prop:=(0<=j.1/\ j.1<=64)/\ (0<=j.2.1/\ j.2.1<=2048)/\ (0<=j.2.2.1/\ j.2.2.1<=64)/\ (0<=j.2.2.2.1/\ j.2.2.2.1<=255)/\ j.2.2.2.2.length<=8/\ ∀l∈j.2.2.2.2,fu l
instance (j:Jb):Decidable (Ux j):=by unfold Ux;infer_instance
theorem Ll (j:Jb):vR j/\ gis j=decide (Ux j):=by
 obtain ⟨a,b,c,d,L⟩:=j
 unfold vR gis aB aj
 dsimp only
 rw [pq,pq,pq,pq]
 have hL:(((L.length:Nat):Int)<=8)->zy L/\ lis L=decide (∀l∈L,fu l):=fun h=>adt L (by omega)
 refine ⟨fun _ _ _ _ h=>(hL h).1,?_⟩
 unfold Ux
 dsimp only
 by_cases h1:0<=a/\ a<=64
 rotate_left
 ·rw [decide_eq_false h1,if_neg (by decide)];exact (decide_eq_false fun h=>h1 h.1).symm
 rw [decide_eq_true h1,if_pos rfl]
 by_cases h2:0<=b/\ b<=2048
 rotate_left
 ·rw [decide_eq_false h2,if_neg (by decide)];exact (decide_eq_false fun h=>h2 h.2.1).symm
 rw [decide_eq_true h2,if_pos rfl]
 by_cases h3:0<=c/\ c<=64
 rotate_left
 ·rw [decide_eq_false h3,if_neg (by decide)];exact (decide_eq_false fun h=>h3 h.2.2.1).symm
 rw [decide_eq_true h3,if_pos rfl]
 by_cases h4:0<=d/\ d<=255
 rotate_left
 ·rw [decide_eq_false h4,if_neg (by decide)];exact (decide_eq_false fun h=>h4 h.2.2.2.1).symm
 rw [decide_eq_true h4,if_pos rfl]
 by_cases h5:((L.length:Nat):Int)<=8
 rotate_left
 ·rw [if_neg h5];exact (decide_eq_false fun h=>h5 (by have:=h.2.2.2.2.1;omega)).symm
 rw [if_pos h5,(hL h5).2]
 by_cases h6: ∀l∈L,fu l
 ·rw [decide_eq_true h6];exact (decide_eq_true ⟨h1,h2,h3,h4,by omega,h6⟩).symm
 ·rw [decide_eq_false h6];exact (decide_eq_false fun h=>h6 h.2.2.2.2.2).symm
def In4 (p:P3):Prop:=(-4160<=p.1/\ p.1<=4160)/\ (-4160<=p.2.1/\ p.2.1<=4160)/\ (-4160<=p.2.2/\ p.2.2<=4160)
instance (p:P3):Decidable (In4 p):=by unfold In4;infer_instance
abbrev Ec:Type:=Jb×(P3×P3)
def bX (x:Ec):Int:=if¬Ux x.1 then 1 else if¬(In4 x.2.1/\ Nr x.2.2) then 5 else if x.2.2=(0,0,0) then 3 else 0
def gg (x:Ec):P3:=rz x.2.1 (cK x.2.2) x.1.2.2.1
theorem iy {x:Ec} (h:bX x=0):Ux x.1/\ In4 x.2.1/\ Nr x.2.2/\ x.2.2≠(0,0,0):=by
 unfold bX at h
 split at h
 ·cases h
 rename_i h1
 split at h
 ·cases h
 rename_i h2
 split at h
 ·cases h
 rename_i h3
 have h1:=Classical.not_not.1 h1
 have h2:=Classical.not_not.1 h2
 exact ⟨h1,h2.1,h2.2,h3⟩
theorem Um {x:Ec} (h:bX x=0):(-4224<=(gg x).1/\ (gg x).1<=4224)/\ (-4224<=(gg x).2.1/\ (gg x).2.1<=4224)/\ (-4224<=(gg x).2.2/\ (gg x).2.2<=4224):=by
 obtain ⟨h1,h2,h3,h4⟩:=iy h
 obtain ⟨_,_,u,_⟩:=gW h3 h4
 have hb:=h1.2.2.1
 have f: ∀w:Int,(-1024<=w/\ w<=1024)-> -64<=w*x.1.2.2.1 / 1024/\ w*x.1.2.2.1 / 1024<=64:=fun w hw=>by
  have:=wK (A:=1024) (B:=64) hw.1 hw.2 (by omega) hb.2
  omega
 have a:=f _ u.1
 have b:=f _ u.2.1
 have c:=f _ u.2.2
 have i1:=h2.1
 have i2:=h2.2.1
 have i3:=h2.2.2
 unfold gg rz
 dsimp only
 omega
theorem U3.fr {u:P3} (h:U3 u):Fr4 u:=⟨by have:=h.1;omega,by have:=h.2.1;omega,by have:=h.2.2;omega⟩
theorem Og (x:Ec):nR x/\ ((bX x=0/\ kR x=(false,(x.1.1,x.1.2.1,x.1.2.2.1,x.1.2.2.2.1),gg x,x.2.2))\/ (bX x≠0/\ kR x=(true,(bX x,0,0,0),(0,0,0),0,0,0))):=by
 obtain ⟨j,p,n⟩:=x
 obtain ⟨g1,g2⟩:=Ll j
 unfold nR kR aB aj bX
 dsimp only
 rw [g2]
 by_cases h1:Ux j
 rotate_left
 ·rw [decide_eq_false h1,if_pos h1]
  exact ⟨⟨g1,fun h=>absurd rfl h⟩,.inr ⟨by decide,rfl⟩⟩
 rw [decide_eq_true h1,if_neg (fun h=>h h1)]
 have hmin:(aY (aY p.1 p.2.1) p.2.2< -4160\/ aT (aT p.1 p.2.1) p.2.2>4160)↔ ¬In4 p:=by
  unfold In4 aY aT
  split<;>split<;>split<;>split<;>omega
 by_cases h2:In4 p
 rotate_left
 ·rw [if_pos (fun h=>h2 h.1)]
  by_cases h3:aY (aY p.1 p.2.1) p.2.2< -4160
  ·rw [if_pos h3]
   exact ⟨⟨g1,fun _ h=>absurd h3 h⟩,.inr ⟨by decide,rfl⟩⟩
  ·have h4:=(hmin.2 h2).resolve_left h3
   rw [if_neg h3,if_pos h4]
   exact ⟨⟨g1,fun _ _ h=>absurd h4 h⟩,.inr ⟨by decide,rfl⟩⟩
 have h3: ¬aY (aY p.1 p.2.1) p.2.2< -4160:=fun h=>hmin.1 (.inl h) h2
 have h4: ¬aT (aT p.1 p.2.1) p.2.2>4160:=fun h=>hmin.1 (.inr h) h2
 rw [if_neg h3,if_neg h4]
 by_cases h5:Nr n
 rotate_left
 ·obtain ⟨u1,u2⟩:=aa5 h5
  rw [u2,if_pos (fun h=>h5 h.2)]
  exact ⟨⟨g1,fun _ _ _=>⟨u1,fun h=>absurd h (by decide)⟩⟩,.inr ⟨by decide,rfl⟩⟩
 rw [if_neg (fun h=>h ⟨h2,h5⟩)]
 by_cases h6:n=(0,0,0)
 ·subst h6
  obtain ⟨u1,u2⟩:=KA
  rw [u2,if_pos (rfl:((0:Int),(0:Int),(0:Int))=(0,0,0))]
  exact ⟨⟨g1,fun _ _ _=>⟨u1,fun h=>absurd h (by decide)⟩⟩,.inr ⟨by decide,rfl⟩⟩
 ·obtain ⟨u1,u2,u3,u4⟩:=gW h5 h6
  have hb:=h1.2.2.1
  have hp:Nr p:=by
   have i1:=h2.1
   have i2:=h2.2.1
   have i3:=h2.2.2
   exact ⟨by omega,by omega,by omega⟩
  obtain ⟨b1,b2⟩:=Ep hp u3.fr (k:=j.2.2.1) ⟨hb.1,by omega⟩
  rw [u2,if_neg h6]
  dsimp only
  rw [b2]
  exact ⟨⟨g1,fun _ _ _=>⟨u1,fun _=>⟨FF.1,b1⟩⟩⟩,.inl ⟨rfl,by rfl⟩⟩
theorem wg (x:Ec):nQ x/\ mS x=bX x:=by
 obtain ⟨h1,⟨h2,h3⟩|⟨h2,h3⟩⟩:=Og x
 ·refine ⟨h1,?_⟩
  unfold mS
  rw [h3,h2,if_neg (fun h=>(by cases h))]
 ·refine ⟨h1,?_⟩
  unfold mS
  rw [h3,if_pos rfl]
theorem v8 {x:Ec} (h:bX x=0):nP x/\ zJ x=((x.1.1,x.1.2.1,x.1.2.2.1,x.1.2.2.2.1),gg x,x.2.2):=by
 obtain ⟨h1,⟨h2,h3⟩|⟨h2,h3⟩⟩:=Og x
 ·exact ⟨⟨h1,by rw [h3]⟩,by unfold zJ;rw [h3]⟩
 ·exact absurd h h2
theorem sJ (x:Ec):cQ x/\ eI x=if bX x=0 then (gg x,0) else ((0,0,0),bX x):=by
 obtain ⟨k1,k2⟩:=wg x
 unfold cQ eI sK yq aB aj
 rw [k2]
 dsimp only
 by_cases h:bX x=0
 ·obtain ⟨g1,g2⟩:=v8 h
  rw [if_pos h,if_pos h,g2]
  exact ⟨⟨k1,fun _=>g1⟩,rfl⟩
 ·rw [if_neg h,if_neg h]
  exact ⟨⟨k1,fun q=>absurd q h⟩,rfl⟩
def eu (n:Int) (bz nn:P3) (len:Int):List P3:=(D24.take n.toNat).map fun d=>rz bz (m0 nn d) len
theorem IL {a b c d:Int} {L:List qw} {bz n:P3} (ha:0<=a/\ a<=24) (hb:0<=b/\ b<=2048) (hp:Nr bz) (hn:Nr n) (h0:n≠(0,0,0)):
  qJ ((a,b,c,d,L),bz,n)/\ IK ((a,b,c,d,L),bz,n)=eu a bz n b:=by
 obtain ⟨d1,d2⟩:=Vv ha
 have hDl:(D24.take a.toNat).length<=24:=by rw [List.length_take,Sv];omega
 have hDi: ∀q∈D24.take a.toNat,InD q:=fun q hq=>Xp q (List.mem_of_mem_take hq)
 generalize hD:D24.take a.toNat=D at*
 have key:TR (ji ((a,b,c,d,L),bz,n)) (m7 ((a,b,c,d,L),bz,n)) ([],D,((D.length:Nat):Int),0) fun r=>r=eu a bz n b:=by
  refine eS D.length (fun i s=>s=((D.take i).map (fun d=>rz bz (m0 n d) b),D,((D.length:Nat):Int),(i:Int))) _ (fun i s hi hJ=> ?_) (fun s hJ=> ?_) rfl
  ·subst hJ
   have hin:InD (D.getD i (0,0)):=hDi _ (jr hi _)
   obtain ⟨w1,w2,w3⟩:=xK hn h0 hin
   obtain ⟨b1,b2⟩:=Ep hp w3 (k:=b) hb
   have hl:((D.take i).map (fun d=>rz bz (m0 n d) b)).length=i:=by rw [List.length_map,List.length_take];omega
   unfold m7 ji aB aj
   dsimp only
   simp only [Int.toNat_natCast]
   rw [if_pos (by omega),w2]
   dsimp only
   rw [b2,hl]
   refine ⟨fun _=>⟨⟨by omega,by omega⟩,hi,hi,w1,FF.1,b1,by omega⟩,.inl ⟨_,rfl,?_⟩⟩
   rw [fI hi (0,0),List.map_append,aC (by omega) (by omega)]
   rfl
  ·subst hJ
   refine ⟨?_,_,?_,rfl⟩
   ·unfold m7
    intro q
    dsimp only at q;omega
   ·unfold ji eu
    dsimp only
    rw [if_neg (by omega),List.take_length,hD]
 unfold qJ IK aB aj
 dsimp only
 rw [d2]
 dsimp only
 exact ⟨⟨d1,FF.1,key.1⟩,key.2⟩
theorem Bf {x:Ec} (hs:bX x=0->x.1.1<=24):jJ x/\ sP x=if bX x=0 then (eu x.1.1 (gg x) x.2.2 x.1.2.1,0) else ([],bX x):=by
 obtain ⟨k1,k2⟩:=wg x
 unfold jJ sP vI EL aB aj
 rw [k2]
 dsimp only
 by_cases h:bX x=0
 ·obtain ⟨g1,g2⟩:=v8 h
  obtain ⟨h1,h2,h3,h4⟩:=iy h
  have hst:=Um h
  obtain ⟨e1,e2⟩:=IL (a:=x.1.1) (b:=x.1.2.1) (c:=x.1.2.2.1) (d:=x.1.2.2.2.1) (L:=x.1.2.2.2.2) (bz:=gg x) (n:=x.2.2) ⟨h1.1.1,hs h⟩ h1.2.1 ⟨by omega,by omega,by omega⟩ h3 h4
  rw [if_pos h,if_pos h,g2]
  dsimp only
  rw [e2]
  exact ⟨⟨k1,fun _=>⟨g1,e1⟩⟩,rfl⟩
 ·rw [if_neg h,if_neg h]
  exact ⟨⟨k1,fun q=>absurd q h⟩,rfl⟩
end Go.Proofs.YtngdehlpoomaiaaGreat
namespace Go.Proofs.YtngdehlpoomaiaaGreat
open Go Go.Ev Go.Proofs
theorem aee (a b t0 t1 t2:P3):n6 t0 t1 t2 a- n6 t0 t1 t2 b= -(n6 a b t0 t1+n6 a b t1 t2+n6 a b t2 t0):=by
 unfold n6 dt EE sb;dsimp only;grind
theorem ajs (a b t0 t1 t2:P3):n6 t0 t1 t2 a*b.1- n6 t0 t1 t2 b*a.1= -(n6 a b t1 t2*t0.1+n6 a b t2 t0*t1.1+n6 a b t0 t1*t2.1):=by
 unfold n6 dt EE sb;dsimp only;grind
theorem ajt (a b t0 t1 t2:P3):n6 t0 t1 t2 a*b.2.1- n6 t0 t1 t2 b*a.2.1= -(n6 a b t1 t2*t0.2.1+n6 a b t2 t0*t1.2.1+n6 a b t0 t1*t2.2.1):=by
 unfold n6 dt EE sb;dsimp only;grind
theorem aju (a b t0 t1 t2:P3):n6 t0 t1 t2 a*b.2.2- n6 t0 t1 t2 b*a.2.2= -(n6 a b t1 t2*t0.2.2+n6 a b t2 t0*t1.2.2+n6 a b t0 t1*t2.2.2):=by
 unfold n6 dt EE sb;dsimp only;grind
theorem ML {x y r0 r1 r2 al bl t0 t1 t2 lo hi:Int} (hs:x- y=r0+r1+r2) (he:x*bl- y*al=r1*t0+r2*t1+r0*t2) (h0:0<=r0) (h1:0<=r1) (h2:0<=r2)
  (l0:lo<=t0) (l1:lo<=t1) (l2:lo<=t2) (u0:t0<=hi) (u1:t1<=hi) (u2:t2<=hi):lo*(x- y)<=al*(x- y)+x*(bl- al)/\ al*(x- y)+x*(bl- al)<=hi*(x- y):=by
 have e:al*(x- y)+x*(bl- al)=r1*t0+r2*t1+r0*t2:=by rw [<- he];grind
 rw [e,hs]
 have a1:=Int.mul_le_mul_of_nonneg_left l0 h1
 have a2:=Int.mul_le_mul_of_nonneg_left l1 h2
 have a3:=Int.mul_le_mul_of_nonneg_left l2 h0
 have b1:=Int.mul_le_mul_of_nonneg_left u0 h1
 have b2:=Int.mul_le_mul_of_nonneg_left u1 h2
 have b3:=Int.mul_le_mul_of_nonneg_left u2 h0
 have c1:lo*(r0+r1+r2)=r1*lo+r2*lo+r0*lo:=by grind
 have c2:hi*(r0+r1+r2)=r1*hi+r2*hi+r0*hi:=by grind
 rw [c1,c2]
 omega
theorem acZ {a b:P3} {t:T3} {bx:B3} (h:KM a b t) (hb: ∀p∈Kz t,MA bx.1 p/\ MA p bx.2): ∃n d,0<d/\ 0<=n/\ n<=d/\ InB a b bx n d:=by
 obtain ⟨⟨l01,l02,l03⟩,u01,u02,u03⟩:=hb t.1 (by simp [Kz])
 obtain ⟨⟨l11,l12,l13⟩,u11,u12,u13⟩:=hb t.2.1 (by simp [Kz])
 obtain ⟨⟨l21,l22,l23⟩,u21,u22,u23⟩:=hb t.2.2 (by simp [Kz])
 have es:=aee a b t.1 t.2.1 t.2.2
 have ex:=ajs a b t.1 t.2.1 t.2.2
 have ey:=ajt a b t.1 t.2.1 t.2.2
 have ez:=aju a b t.1 t.2.1 t.2.2
 unfold KM jS at h
 generalize n6 t.1 t.2.1 t.2.2 a=x at*
 generalize n6 t.1 t.2.1 t.2.2 b=y at*
 generalize n6 a b t.1 t.2.1=r0 at*
 generalize n6 a b t.2.1 t.2.2=r1 at*
 generalize n6 a b t.2.2 t.1=r2 at*
 obtain ⟨hs,hr⟩:=h
 rcases hs with ⟨h1,h2⟩|⟨h1,h2⟩
 ·have hr:0≤r0∧0≤r1∧0≤r2:=by omega
  refine ⟨-x,y- x,by omega,by omega,by omega,fun i hi=> ?_⟩
  have k: ∀al bl t0 t1 t2 lo hi:Int,x*bl- y*al= -(r1*t0+r2*t1+r0*t2)->lo<=t0->lo<=t1->lo<=t2->t0<=hi->t1<=hi->t2<=hi->lo*(y- x)<=al*(y- x)+ -x*(bl- al)/\ al*(y- x)+ -x*(bl- al)<=hi*(y- x):=fun al bl t0 t1 t2 lo hi he a1 a2 a3 b1 b2 b3=>by
   have:=ML (x:= -x) (y:= -y) (r0:=r0) (r1:=r1) (r2:=r2) (al:=al) (bl:=bl) (t0:=t0) (t1:=t1) (t2:=t2) (lo:=lo) (hi:=hi) (by omega) (by grind) hr.1 hr.2.1 hr.2.2 a1 a2 a3 b1 b2 b3
   rw [show-x- -y=y- x by omega] at this
   exact this
  match i,hi with
  |0,_=>exact k _ _ _ _ _ _ _ ex l01 l11 l21 u01 u11 u21
  |1,_=>exact k _ _ _ _ _ _ _ ey l02 l12 l22 u02 u12 u22
  |2,_=>exact k _ _ _ _ _ _ _ ez l03 l13 l23 u03 u13 u23
 ·have hr:r0≤0∧r1≤0∧r2≤0:=by omega
  refine ⟨x,x- y,by omega,by omega,by omega,fun i hi=> ?_⟩
  have k: ∀al bl t0 t1 t2 lo hi:Int,x*bl- y*al= -(r1*t0+r2*t1+r0*t2)->lo<=t0->lo<=t1->lo<=t2->t0<=hi->t1<=hi->t2<=hi->lo*(x- y)<=al*(x- y)+x*(bl- al)/\ al*(x- y)+x*(bl- al)<=hi*(x- y):=fun al bl t0 t1 t2 lo hi he a1 a2 a3 b1 b2 b3=>
   ML (r0:= -r0) (r1:= -r1) (r2:= -r2) (by omega) (by grind) (by omega) (by omega) (by omega) a1 a2 a3 b1 b2 b3
  match i,hi with
  |0,_=>exact k _ _ _ _ _ _ _ ex l01 l11 l21 u01 u11 u21
  |1,_=>exact k _ _ _ _ _ _ _ ey l02 l12 l22 u02 u12 u22
  |2,_=>exact k _ _ _ _ _ _ _ ez l03 l13 l23 u03 u13 u23
end Go.Proofs.YtngdehlpoomaiaaGreat
namespace Go.Proofs.YtngdehlpoomaiaaGreat
open Go Go.Ev Go.Proofs
abbrev ahK:Type:=List vy×(List T3×P3×P3)
def mQ (L:List T3) (a b:P3) (pl:List Int):Prop:= ∃i∈pl,KM a b (L.getD i.toNat zT)
instance (L:List T3) (a b:P3) (pl:List Int):Decidable (mQ L a b pl):=Classical.propDecidable _
theorem ajn {L:List T3} (hs:yA L) {i:Int} (h:0<=i/\ i<(L.length:Int)):SmT (L.getD i.toNat zT):=by
 have hm:=hs _ (jr (show i.toNat<L.length by omega) zT)
 exact ⟨hm _ (by simp [Kz]),hm _ (by simp [Kz]),hm _ (by simp [Kz])⟩
theorem K9 {G:List vy} {L:List T3} {a b:P3} (hs:yA L) (ha:fM a) (hb:fM b) {pl:List Int} (hi:Mm L pl) (hl:pl.length<=1000):
  lI (pl,G,L,a,b)/\ (qC (pl,G,L,a,b)=true↔mQ L a b pl):=by
 have hit: ∀i∈pl,vW ((G,L,a,b),i)/\ IU ((G,L,a,b),i)=decide (KM a b (L.getD i.toNat zT)):=fun i hm=>by
  have h:=hi i hm
  obtain ⟨h1,h2⟩:=acW ha hb (ajn hs h)
  unfold vW IU aj
  dsimp only
  have e:Y8 (a,b,L.getD i.toNat (((0:Int),(0:Int),(0:Int)),((0:Int),(0:Int),(0:Int)),(0:Int),(0:Int),(0:Int)))=_:=h2
  rw [e]
  exact ⟨⟨h,by omega,by omega,h1⟩,rfl⟩
 have hh:=ot pl (by omega) (fun i=>IU ((G,L,a,b),i)) (iG (pl,G,L,a,b)) (qe (pl,G,L,a,b)) (fun i hi=>by
   unfold qe
   intro h
   simp only [Int.toNat_natCast]
   dsimp only at h ⊢
   exact ⟨by omega,by omega,by omega,(hit _ (jr (by omega) 0)).1⟩) (fun i x hx=>by
   have hlt:=dA hx
   unfold iG aj
   dsimp only
   rw [if_pos (by omega),Int.toNat_natCast,iW hx]) (by
   unfold iG
   dsimp only
   rw [if_neg (by omega)])
 refine ⟨hh.1,?_⟩
 have e:Ra (pl,G,L,a,b)=_:=hh.2
 unfold qC aj
 rw [e]
 refine (iff_of_eq (congrArg (fun b:Bool=>b=true) (tO pl fun i=>IU ((G,L,a,b),i)))).trans ?_
 rw [List.any_eq_true]
 unfold mQ
 constructor
 ·rintro ⟨i,h1,h2⟩
  rw [(hit i h1).2] at h2
  exact ⟨i,h1,of_decide_eq_true h2⟩
 ·rintro ⟨i,h1,h2⟩
  exact ⟨i,h1,by rw [(hit i h1).2];exact decide_eq_true h2⟩
theorem Ht {x:ahK} {k c:Nat} {T:List Int} (hk:k<x.1.length) (hT:T.length<=20000) (hx:x.1.length<=10000) (hc:c<=100000)
  (h1:lu (x.2.2.1,x.2.2.2,(x.1.getD k zB).1)) (h2:(x.1.getD k zB).2.1=0->lI ((x.1.getD k zB).2.2.2,x)):
  gb x ((c:Int),T++ [(k:Int)])/\ cM x ((c:Int),T++ [(k:Int)])=
   (if (qi (x.2.2.1,x.2.2.2,(x.1.getD k zB).1)).1=true then (if (x.1.getD k zB).2.1=0 then (if qC ((x.1.getD k zB).2.2.2,x)=true then .inr (.inl ((c+1:Nat):Int)) else .inl (((c+1:Nat):Int),T))
    else .inl (((c+1:Nat):Int),T++ [(x.1.getD k zB).2.2.1,(x.1.getD k zB).2.1])) else .inl (((c+1:Nat):Int),T)):=by
 have e0:(((T++ [(k:Int)]).length:Nat):Int)=(T.length:Int)+1:=by simp
 have e1:au ((((T++ [(k:Int)]).length:Nat):Int)- 1)=(T.length:Int):=by rw [e0,aC (by omega) (by omega)];omega
 have e2:(T++ [(k:Int)]).getD T.length 0=(k:Int):=by simp
 have e3:(T++ [(k:Int)]).take T.length=T:=by simp
 have e4:au ((c:Int)+1)=((c+1:Nat):Int):=by rw [aC (by omega) (by omega)];rfl
 unfold gb cM aB aj
 dsimp only
 rw [e1]
 simp only [Int.toNat_natCast]
 rw [e2,e3,e4]
 simp only [Int.toNat_natCast]
 constructor
 ·intro _
  refine ⟨⟨by omega,by omega⟩,by simp,by simp,⟨by omega,by omega⟩,hk,hk,⟨by omega,by omega⟩,h1,fun _=>⟨fun q=>h2 (by simpa using q),fun _=>by omega⟩⟩
 ·rw [if_pos (by omega)]
  show (if (!(qi (x.2.2.1,x.2.2.2,(x.1.getD k zB).1)).1)=true then _ else _)=_
  cases (qi (x.2.2.1,x.2.2.2,(x.1.getD k zB).1)).1 with
  |false=>rfl
  |true=>
   rw [if_neg (by decide),if_pos rfl]
   by_cases hz:(x.1.getD k zB).2.1=0
   ·rw [if_pos hz]
    exact if_pos (by simpa using hz)
   ·rw [if_neg hz]
    exact if_neg (by simpa using hz)
theorem abk (x:ahK) (c:Int):gb x (c,[])/\ cM x (c,[])= .inr (.inr c):=by
 constructor
 ·unfold gb
  intro h
  exact absurd (show (0:Int)>0 from h) (by decide)
 ·unfold cM
  exact if_neg (show¬(0:Int)>0 by decide)
theorem mQ.mono {L:List T3} {a b:P3} {l m:List Int} (h:mQ L a b l) (hs: ∀i∈l,i∈m):mQ L a b m:=by
 obtain ⟨i,h1,h2⟩:=h
 exact ⟨i,hs i h1,h2⟩
theorem Ir {L:List T3} (hs:yA L) {a b:P3} (ha:fM a) (hb:fM b) {pl:List Int} (hi:Mm L pl) (hl:pl.length<=1000) (h0:pl≠ []):
  lu (a,b,fO (L,pl))/\ (mQ L a b pl->(qi (a,b,fO (L,pl))).1=true):=by
 have hB:=SK hs hi (by omega) h0
 obtain ⟨⟨s1,s2⟩,s3⟩:=hB.is (FT hs hi)
 obtain ⟨m1,m2⟩:=Wa ha hb s1 s2 s3
 refine ⟨m1,fun ⟨i,h1,h2⟩=>m2 (acZ h2 fun p hp=> ?_)⟩
 have hpt:p∈oA L pl:=List.mem_flatMap.2 ⟨i,h1,hp⟩
 exact ⟨hB.low p hpt,hB.high p hpt⟩
theorem abm {L:List T3} (hs:yA L) {a b:P3} (ha:fM a) (hb:fM b) {H:List vy} (hH:H.length<=10000) {s:Nat} {par:Int} {pl:List Int} {G:List vy} {N:List (List Int)} {U:List Int} (ht:jZ L s par pl G N U):
  Mm L pl->pl.length<=1000->pl≠ []->(∀k,k<G.length->H.getD (s+k) zB=G.getD k zB)->s+G.length<=H.length-> ∀(c:Nat) (T:List Int) (Post:Int⊕Int->Prop),c+G.length<=100000->T.length+G.length<=20000->
   (∀m:Nat,1<=m->m<=G.length->(mQ L a b pl->Post (.inl ((c+m:Nat):Int)))/\ (¬mQ L a b pl->TR (cM (H,L,a,b)) (gb (H,L,a,b)) (((c+m:Nat):Int),T) Post))->
   TR (cM (H,L,a,b)) (gb (H,L,a,b)) ((c:Int),T++ [(s:Int)]) Post:=by
 induction ht with
 |leaf s par pl h2=>
  intro hi hl h0 hH2 Mu c T Post hc hT hP
  have e:=hH2 0 (by simp)
  simp only [List.length_singleton] at Mu hc hT hP
  rw [Nat.add_zero,show ([(fO (L,pl),(0:Int),(0:Int),pl)]:List vy).getD 0 zB=(fO (L,pl),0,0,pl) from rfl] at e
  obtain ⟨m1,m2⟩:=Ir hs ha hb hi hl h0
  obtain ⟨c1,c2⟩:=K9 (G:=H) hs ha hb hi hl
  obtain ⟨r1,r2⟩:=Ht (x:=(H,L,a,b)) (k:=s) (c:=c) (T:=T) (by dsimp only;omega) (by omega) hH (by omega) (by dsimp only;rw [e];exact m1) (fun _=>by dsimp only;rw [e];exact c1)
  dsimp only at r2
  rw [e] at r2
  dsimp only at r2
  rw [if_pos rfl] at r2
  obtain ⟨q1,q2⟩:=hP 1 (Nat.le_refl _) (Nat.le_refl _)
  by_cases hh:mQ L a b pl
  ·rw [if_pos (m2 hh),if_pos (c2.2 hh)] at r2
   exact TR.stop r1 r2 (q1 hh)
  ·refine TR.go r1 ?_ (q2 hh)
   rw [r2]
   split
   ·rw [if_neg fun q=>hh (c2.1 q)]
   ·rfl
 |fork s par pl A0 B0 A B NA NB UA UB h2 hp hla hlb he hA hB Mv Mw=>
  intro hi hl h0 hH2 Mu c T Post hc hT hP
  have hlen:((fO (L,pl),((s+1:Nat):Int),((s+1+A.length:Nat):Int),([]:List Int))::(A++B)).length=1+A.length+B.length:=by simp;omega
  rw [hlen] at Mu hc hT hP hH2
  have e:=hH2 0 (by omega)
  rw [Nat.add_zero,show ((fO (L,pl),((s+1:Nat):Int),((s+1+A.length:Nat):Int),([]:List Int))::(A++B)).getD 0 zB=(fO (L,pl),((s+1:Nat):Int),((s+1+A.length:Nat):Int),[]) from rfl] at e
  have sA: ∀i∈A0,i∈pl:=fun i h=>hp.mem_iff.1 (List.mem_append.2 (.inl h))
  have sB: ∀i∈B0,i∈pl:=fun i h=>hp.mem_iff.1 (List.mem_append.2 (.inr h))
  obtain ⟨m1,m2⟩:=Ir hs ha hb hi hl h0
  obtain ⟨r1,r2⟩:=Ht (x:=(H,L,a,b)) (k:=s) (c:=c) (T:=T) (by dsimp only;omega) (by omega) hH (by omega) (by dsimp only;rw [e];exact m1) (fun q=>by
   dsimp only at q
   rw [e] at q
   dsimp only at q
   omega)
  dsimp only at r2
  rw [e] at r2
  dsimp only at r2
  rw [if_neg (show¬((s+1:Nat):Int)=0 by omega)] at r2
  by_cases hm:(qi (a,b,fO (L,pl))).1=true
  ·rw [if_pos hm] at r2
   refine TR.go r1 r2 ?_
   have eT:T++ [((s+1+A.length:Nat):Int),((s+1:Nat):Int)]=(T++ [((s+1+A.length:Nat):Int)])++ [((s+1:Nat):Int)]:=by simp
   rw [eT]
   refine Mv (fun i h=>hi i (sA i h)) (by omega) (fun q=>by rw [q] at hla;simp at hla;omega) (fun k hk=> ?_) (by omega) (c+1) _ Post (by omega) (by simp;omega) fun m g1 g2=>⟨fun hh=> ?_,fun hn=> ?_⟩
   ·have:=hH2 (1+k) (by omega)
    rw [gdA hk zB] at this
    rw [<- this];congr 1;omega
   ·have:=(hP (1+m) (by omega) (by omega)).1 (hh.mono sA)
    rw [show c+1+m=c+(1+m) by omega];exact this
   ·refine Mw (fun i h=>hi i (sB i h)) (by omega) (fun q=>by rw [q] at hlb;simp at hlb;omega) (fun k hk=> ?_) (by omega) (c+1+m) T Post (by omega) (by omega) fun m' g3 g4=> ?_
    ·have:=hH2 (1+A.length+k) (by omega)
     rw [gdB k _ rfl zB] at this
     rw [<- this];congr 1;omega
    ·have:=hP (1+m+m') (by omega) (by omega)
     rw [show c+1+m+m'=c+(1+m+m') by omega]
     refine ⟨fun hh=>this.1 (hh.mono sB),fun QN=>this.2 fun ⟨i,q1,q2⟩=> ?_⟩
     rcases List.mem_append.1 (hp.mem_iff.2 q1) with q|q
     ·exact hn ⟨i,q,q2⟩
     ·exact QN ⟨i,q,q2⟩
  ·rw [if_neg hm] at r2
   exact TR.go r1 r2 ((hP 1 (Nat.le_refl _) (by omega)).2 fun hh=>hm (m2 hh))
theorem abl {L:List T3} (hs:yA L) {a b:P3} (ha:fM a) (hb:fM b) {G:List vy} {N:List (List Int)} {U:List Int} (hG:G.length<=10000) {pl:List Int} (ht:jZ L 0 (-1) pl G N U) (hi:Mm L pl) (hl:pl.length<=1000) (h0:pl≠ []):
  BY (G,L,a,b)/\ ∃m:Nat,1<=m/\ m<=G.length/\ Uu (G,L,a,b)=(decide (mQ L a b pl),(m:Int)):=by
 have key:=abm hs ha hb hG ht hi hl h0 (fun k _=>by rw [Nat.zero_add]) (by omega) 0 [] (fun r=> ∃m:Nat,1<=m/\ m<=G.length/\ ((mQ L a b pl/\ r= .inl (m:Int))\/ (¬mQ L a b pl/\ r= .inr (m:Int)))) (by omega) (by simp;omega) fun m g1 g2=>⟨fun hh=>⟨m,g1,g2,.inl ⟨hh,by rw [Nat.zero_add]⟩⟩,fun hh=>by
  obtain ⟨w1,w2⟩:=abk (G,L,a,b) ((0+m:Nat):Int)
  exact TR.stop w1 w2 ⟨m,g1,g2,.inr ⟨hh,by rw [Nat.zero_add]⟩⟩⟩
 refine ⟨key.1,?_⟩
 obtain ⟨m,g1,g2,hr⟩:=key.2
 refine ⟨m,g1,g2,?_⟩
 unfold Uu aj
 have hr:(mQ L a b pl/\ run (cM (G,L,a,b)) (0,[0])= .inl (m:Int))\/ (¬mQ L a b pl/\ run (cM (G,L,a,b)) (0,[0])= .inr (m:Int)):=hr
 rcases hr with ⟨h1,h2⟩|⟨h1,h2⟩
 ·rw [h2]
  exact Prod.ext (decide_eq_true h1).symm rfl
 ·rw [h2]
  exact Prod.ext (decide_eq_false h1).symm rfl
end Go.Proofs.YtngdehlpoomaiaaGreat
