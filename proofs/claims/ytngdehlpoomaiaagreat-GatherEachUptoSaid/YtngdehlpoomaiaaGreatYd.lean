/- Plain laws: jobs; where ways begin, and end. -/
import Derived.Test.YtngdehlpoomaiaaGreatKa
import Derived.Test.YtngdehlpoomaiaaGreatLm
import Derived.Test.YtngdehlpoomaiaaGreatWb
noncomputable section
set_option linter.unusedSectionVars false
set_option linter.unusedVariables false
set_option linter.unusedSimpArgs false
namespace Go.Proofs.YtngdehlpoomaiaaGreat
open Go Go.Ev Go.Proofs
abbrev yV:Type:=Int×(P3×P3×Int×Int)
abbrev Jb:Type:=Int×(Int×Int×Int×List yV)
def fK (l:yV):Prop:=(1<=l.1/\ l.1<=3)/\ (0<=l.2.2.2.1/\ l.2.2.2.1<=255)/\ (0<=l.2.2.2.2/\ l.2.2.2.2<=1024)/\ (fF l.2.1/\ fF l.2.2.1)/\ (l.1=2\/ l.2.2.1≠(0,0,0))
instance (l:yV):Decidable (fK l):=by unfold fK;infer_instance
theorem CR (n m:Int):sq (n,m)=decide (0<=n/\ n<=m):=by
 unfold sq
 dsimp only
 by_cases h:n>=0
 ·rw [if_pos h,Bool.eq_iff_iff];simp;omega
 ·rw [if_neg h,Bool.eq_iff_iff];simp;omega
theorem pM (n m:Int):j6 (n,m)=decide (0<=n/\ n<=m):=by
 unfold j6
 dsimp only
 by_cases h:n>=0
 ·rw [if_pos h,Bool.eq_iff_iff];simp;omega
 ·rw [if_neg h,Bool.eq_iff_iff];simp;omega
theorem B7 (l:yV):oD l/\ BT l=decide (fK l):=by
 obtain ⟨k,a,d,p,c⟩:=l
 obtain ⟨s1,s2⟩:=fR [a,d] (by simp)
 unfold oD BT aC aq
 dsimp only
 rw [CR,CR,s2]
 refine ⟨fun _ _ _ _=>s1,?_⟩
 have hd:(!((d.1==(0:Int))&&((d.2.1==(0:Int))&&((d.2.2==(0:Int))&&true))))=decide (d≠(0,0,0)):=by
  obtain ⟨x,y,z⟩:=d
  rw [Bool.eq_iff_iff]
  simp
 have hs:(decide (∀p∈ [a,d],fF p))=decide (fF a/\ fF d):=by
  rw [Bool.eq_iff_iff];simp
 rw [hd,hs]
 unfold fK
 dsimp only
 by_cases h1:k>=1
 rotate_left
 ·rw [if_neg h1];exact (decide_eq_false fun h=>h1 h.1.1).symm
 rw [if_pos h1]
 by_cases h2:k<=3
 rotate_left
 ·rw [if_neg h2];exact (decide_eq_false fun h=>h2 h.1.2).symm
 rw [if_pos h2]
 by_cases h3:0<=p/\ p<=255
 rotate_left
 ·rw [decide_eq_false h3,if_neg (by decide)];exact (decide_eq_false fun h=>h3 h.2.1).symm
 rw [decide_eq_true h3,if_pos rfl]
 by_cases h4:0<=c/\ c<=1024
 rotate_left
 ·rw [decide_eq_false h4,if_neg (by decide)];exact (decide_eq_false fun h=>h4 h.2.2.1).symm
 rw [decide_eq_true h4,if_pos rfl]
 by_cases h5:fF a/\ fF d
 rotate_left
 ·rw [decide_eq_false h5,if_neg (by decide)]
  exact (decide_eq_false fun h=>h5 h.2.2.2.1).symm
 rw [decide_eq_true h5,if_pos rfl]
 by_cases h6:k=2
 ·rw [if_pos (by simp [h6])]
  exact (decide_eq_true ⟨⟨h1,h2⟩,h3,h4,h5,.inl h6⟩).symm
 ·rw [if_neg (by simp [h6])]
  by_cases h7:d≠(0,0,0)
  ·rw [decide_eq_true h7]
   exact (decide_eq_true ⟨⟨h1,h2⟩,h3,h4,h5,.inr h7⟩).symm
  ·rw [decide_eq_false h7]
   exact (decide_eq_false fun h=>h.2.2.2.2.elim h6 h7).symm
theorem aeF (L:List yV) (hl:L.length<4611686018427387904):zO L/\ lis L=decide (∀l∈L,fK l):=by
 have key:zO L/\ lis L= !L.any (fun l=> !decide (fK l)):=by
  refine jV L hl _ _ _ (fun i hi=> ?_) (fun i v hv=> ?_) ?_
  ·unfold F0
   intro h
   simp only [Int.toNat_natCast]
   exact ⟨⟨by omega,by omega⟩,by omega,by omega,(B7 _).1⟩
  ·have hlt:=c6 hv
   unfold pS
   rw [if_pos (by omega),Int.toNat_natCast,iS hv]
   unfold aq
   rw [(B7 v).2]
  ·unfold pS
   rw [if_neg (by omega)]
 refine ⟨key.1,?_⟩
 rw [key.2,Bool.eq_iff_iff]
 simp
def X1 (j:Jb):Prop:=(0<=j.1/\ j.1<=64)/\ (0<=j.2.1/\ j.2.1<=2048)/\ (0<=j.2.2.1/\ j.2.2.1<=64)/\ (0<=j.2.2.2.1/\ j.2.2.2.1<=255)/\ j.2.2.2.2.length<=8/\ ∀l∈j.2.2.2.2,fK l
instance (j:Jb):Decidable (X1 j):=by unfold X1;infer_instance
theorem DX (j:Jb):rV j/\ gis j=decide (X1 j):=by
 obtain ⟨a,b,c,d,L⟩:=j
 unfold rV gis aC aq
 dsimp only
 rw [pM,pM,pM,pM]
 have hL:(((L.length:Nat):Int)<=8)->zO L/\ lis L=decide (∀l∈L,fK l):=fun h=>aeF L (by omega)
 refine ⟨fun _ _ _ _ h=>(hL h).1,?_⟩
 unfold X1
 dsimp only
 by_cases h1:0<=a/\ a<=64
 rotate_left
 ·rw [decide_eq_false h1,if_neg (by decide)];exact (decide_eq_false fun h=>h1 h.1).symm
 rw [decide_eq_true h1,if_pos rfl]
 by_cases h2:0<=b/\ b<=2048
 rotate_left
 ·rw [decide_eq_false h2,if_neg (by decide)];exact (decide_eq_false fun h=>h2 h.2.1).symm
 rw [decide_eq_true h2,if_pos rfl]
 by_cases h3:0<=c/\ c<=64
 rotate_left
 ·rw [decide_eq_false h3,if_neg (by decide)];exact (decide_eq_false fun h=>h3 h.2.2.1).symm
 rw [decide_eq_true h3,if_pos rfl]
 by_cases h4:0<=d/\ d<=255
 rotate_left
 ·rw [decide_eq_false h4,if_neg (by decide)];exact (decide_eq_false fun h=>h4 h.2.2.2.1).symm
 rw [decide_eq_true h4,if_pos rfl]
 by_cases h5:((L.length:Nat):Int)<=8
 rotate_left
 ·rw [if_neg h5];exact (decide_eq_false fun h=>h5 (by have:=h.2.2.2.2.1;omega)).symm
 rw [if_pos h5,(hL h5).2]
 by_cases h6: ∀l∈L,fK l
 ·rw [decide_eq_true h6];exact (decide_eq_true ⟨h1,h2,h3,h4,by omega,h6⟩).symm
 ·rw [decide_eq_false h6];exact (decide_eq_false fun h=>h6 h.2.2.2.2.2).symm
def In4 (p:P3):Prop:=(-4160<=p.1/\ p.1<=4160)/\ (-4160<=p.2.1/\ p.2.1<=4160)/\ (-4160<=p.2.2/\ p.2.2<=4160)
instance (p:P3):Decidable (In4 p):=by unfold In4;infer_instance
abbrev Ez:Type:=Jb×(P3×P3)
def ik (x:Ez):Int:=if¬X1 x.1 then 1 else if¬(In4 x.2.1/\ Nr x.2.2) then 5 else if x.2.2=(0,0,0) then 3 else 0
def mQ (x:Ez):P3:=Il x.2.1 (cA x.2.2) x.1.2.2.1
theorem E5 {x:Ez} (h:ik x=0):X1 x.1/\ In4 x.2.1/\ Nr x.2.2/\ x.2.2≠(0,0,0):=by
 unfold ik at h
 split at h
 ·cases h
 rename_i h1
 split at h
 ·cases h
 rename_i h2
 split at h
 ·cases h
 rename_i h3
 have h1:=Classical.not_not.1 h1
 have h2:=Classical.not_not.1 h2
 exact ⟨h1,h2.1,h2.2,h3⟩
theorem agb {x:Ez} (h:ik x=0):(-4224<=(mQ x).1/\ (mQ x).1<=4224)/\ (-4224<=(mQ x).2.1/\ (mQ x).2.1<=4224)/\ (-4224<=(mQ x).2.2/\ (mQ x).2.2<=4224):=by
 obtain ⟨h1,h2,h3,h4⟩:=E5 h
 obtain ⟨_,_,u,_⟩:=gO h3 h4
 have hb:=h1.2.2.1
 have f: ∀w:Int,(-1024<=w/\ w<=1024)-> -64<=w*x.1.2.2.1 / 1024/\ w*x.1.2.2.1 / 1024<=64:=fun w hw=>by
  have:=w7 (A:=1024) (B:=64) hw.1 hw.2 (by omega) hb.2
  omega
 have a:=f _ u.1
 have b:=f _ u.2.1
 have c:=f _ u.2.2
 have i1:=h2.1
 have i2:=h2.2.1
 have i3:=h2.2.2
 unfold mQ Il
 dsimp only
 omega
theorem U3.fr {u:P3} (h:U3 u):Fr4 u:=⟨by have:=h.1;omega,by have:=h.2.1;omega,by have:=h.2.2;omega⟩
theorem O9 (x:Ez):nU x/\ ((ik x=0/\ kP x=(false,(x.1.1,x.1.2.1,x.1.2.2.1,x.1.2.2.2.1),mQ x,x.2.2))\/ (ik x≠0/\ kP x=(true,(ik x,0,0,0),(0,0,0),0,0,0))):=by
 obtain ⟨j,p,n⟩:=x
 obtain ⟨g1,g2⟩:=DX j
 unfold nU kP aC aq ik
 dsimp only
 rw [g2]
 by_cases h1:X1 j
 rotate_left
 ·rw [decide_eq_false h1,if_pos h1]
  exact ⟨⟨g1,fun h=>absurd rfl h⟩,.inr ⟨by decide,rfl⟩⟩
 rw [decide_eq_true h1,if_neg (fun h=>h h1)]
 have hmin:(bt (bt p.1 p.2.1) p.2.2< -4160\/ bf (bf p.1 p.2.1) p.2.2>4160)↔ ¬In4 p:=by
  unfold In4 bt bf
  split<;>split<;>split<;>split<;>omega
 by_cases h2:In4 p
 rotate_left
 ·rw [if_pos (fun h=>h2 h.1)]
  by_cases h3:bt (bt p.1 p.2.1) p.2.2< -4160
  ·rw [if_pos h3]
   exact ⟨⟨g1,fun _ h=>absurd h3 h⟩,.inr ⟨by decide,rfl⟩⟩
  ·have h4:=(hmin.2 h2).resolve_left h3
   rw [if_neg h3,if_pos h4]
   exact ⟨⟨g1,fun _ _ h=>absurd h4 h⟩,.inr ⟨by decide,rfl⟩⟩
 have h3: ¬bt (bt p.1 p.2.1) p.2.2< -4160:=fun h=>hmin.1 (.inl h) h2
 have h4: ¬bf (bf p.1 p.2.1) p.2.2>4160:=fun h=>hmin.1 (.inr h) h2
 rw [if_neg h3,if_neg h4]
 by_cases h5:Nr n
 rotate_left
 ·obtain ⟨u1,u2⟩:=ab1 h5
  rw [u2,if_pos (fun h=>h5 h.2)]
  exact ⟨⟨g1,fun _ _ _=>⟨u1,fun h=>absurd h (by decide)⟩⟩,.inr ⟨by decide,rfl⟩⟩
 rw [if_neg (fun h=>h ⟨h2,h5⟩)]
 by_cases h6:n=(0,0,0)
 ·subst h6
  obtain ⟨u1,u2⟩:=Lc
  rw [u2,if_pos (rfl:((0:Int),(0:Int),(0:Int))=(0,0,0))]
  exact ⟨⟨g1,fun _ _ _=>⟨u1,fun h=>absurd h (by decide)⟩⟩,.inr ⟨by decide,rfl⟩⟩
 ·obtain ⟨u1,u2,u3,u4⟩:=gO h5 h6
  have hb:=h1.2.2.1
  have hp:Nr p:=by
   have i1:=h2.1
   have i2:=h2.2.1
   have i3:=h2.2.2
   exact ⟨by omega,by omega,by omega⟩
  obtain ⟨b1,b2⟩:=ET hp u3.fr (k:=j.2.2.1) ⟨hb.1,by omega⟩
  rw [u2,if_neg h6]
  dsimp only
  rw [b2]
  exact ⟨⟨g1,fun _ _ _=>⟨u1,fun _=>⟨u5.1,b1⟩⟩⟩,.inl ⟨rfl,by rfl⟩⟩
theorem wH (x:Ez):lC x/\ kO x=ik x:=by
 obtain ⟨h1,⟨h2,h3⟩|⟨h2,h3⟩⟩:=O9 x
 ·refine ⟨h1,?_⟩
  unfold kO
  rw [h3,h2,if_neg (fun h=>(by cases h))]
 ·refine ⟨h1,?_⟩
  unfold kO
  rw [h3,if_pos rfl]
theorem wG {x:Ez} (h:ik x=0):lB x/\ th x=((x.1.1,x.1.2.1,x.1.2.2.1,x.1.2.2.2.1),mQ x,x.2.2):=by
 obtain ⟨h1,⟨h2,h3⟩|⟨h2,h3⟩⟩:=O9 x
 ·exact ⟨⟨h1,by rw [h3]⟩,by unfold th;rw [h3]⟩
 ·exact absurd h h2
theorem HA (x:Ez):dV x/\ jc x=if ik x=0 then (mQ x,0) else ((0,0,0),ik x):=by
 obtain ⟨k1,k2⟩:=wH x
 unfold dV jc sW yJ aC aq
 rw [k2]
 dsimp only
 by_cases h:ik x=0
 ·obtain ⟨g1,g2⟩:=wG h
  rw [if_pos h,if_pos h,g2]
  exact ⟨⟨k1,fun _=>g1⟩,rfl⟩
 ·rw [if_neg h,if_neg h]
  exact ⟨⟨k1,fun q=>absurd q h⟩,rfl⟩
def td (n:Int) (bz nn:P3) (len:Int):List P3:=(D24.take n.toNat).map fun d=>Il bz (m0 nn d) len
theorem V9 {a b c d:Int} {L:List yV} {bz n:P3} (ha:0<=a/\ a<=24) (hb:0<=b/\ b<=2048) (hp:Nr bz) (hn:Nr n) (h0:n≠(0,0,0)):
  qR ((a,b,c,d,L),bz,n)/\ Jo ((a,b,c,d,L),bz,n)=td a bz n b:=by
 obtain ⟨d1,d2⟩:=Wi ha
 have hDl:(D24.take a.toNat).length<=24:=by rw [List.length_take,Td];omega
 have hDi: ∀q∈D24.take a.toNat,InD q:=fun q hq=>X9 q (List.mem_of_mem_take hq)
 generalize hD:D24.take a.toNat=D at*
 have key:TR (je ((a,b,c,d,L),bz,n)) (m8 ((a,b,c,d,L),bz,n)) ([],D,((D.length:Nat):Int),0) fun r=>r=td a bz n b:=by
  refine eH D.length (fun i s=>s=((D.take i).map (fun d=>Il bz (m0 n d) b),D,((D.length:Nat):Int),(i:Int))) _ (fun i s hi hJ=> ?_) (fun s hJ=> ?_) rfl
  ·subst hJ
   have hin:InD (D.getD i (0,0)):=hDi _ (jl hi _)
   obtain ⟨w1,w2,w3⟩:=Fb hn h0 hin
   obtain ⟨b1,b2⟩:=ET hp w3 (k:=b) hb
   have hl:((D.take i).map (fun d=>Il bz (m0 n d) b)).length=i:=by rw [List.length_map,List.length_take];omega
   unfold m8 je aC aq
   dsimp only
   simp only [Int.toNat_natCast]
   rw [if_pos (by omega),w2]
   dsimp only
   rw [b2,hl]
   refine ⟨fun _=>⟨⟨by omega,by omega⟩,hi,hi,w1,u5.1,b1,by omega⟩,.inl ⟨_,rfl,?_⟩⟩
   rw [eA hi (0,0),List.map_append,aF (by omega) (by omega)]
   rfl
  ·subst hJ
   refine ⟨?_,_,?_,rfl⟩
   ·unfold m8
    intro q
    dsimp only at q;omega
   ·unfold je td
    dsimp only
    rw [if_neg (by omega),List.take_length,hD]
 unfold qR Jo aC aq
 dsimp only
 rw [d2]
 dsimp only
 exact ⟨⟨d1,u5.1,key.1⟩,key.2⟩
end Go.Proofs.YtngdehlpoomaiaaGreat
namespace Go.Proofs.YtngdehlpoomaiaaGreat
open Go Go.Ev Go.Proofs
theorem afn (a b t0 t1 t2:P3):om t0 t1 t2 a- om t0 t1 t2 b= -(om a b t0 t1+om a b t1 t2+om a b t2 t0):=by
 unfold om dt DO sb;dsimp only;grind
theorem akC (a b t0 t1 t2:P3):om t0 t1 t2 a*b.1- om t0 t1 t2 b*a.1= -(om a b t1 t2*t0.1+om a b t2 t0*t1.1+om a b t0 t1*t2.1):=by
 unfold om dt DO sb;dsimp only;grind
theorem akD (a b t0 t1 t2:P3):om t0 t1 t2 a*b.2.1- om t0 t1 t2 b*a.2.1= -(om a b t1 t2*t0.2.1+om a b t2 t0*t1.2.1+om a b t0 t1*t2.2.1):=by
 unfold om dt DO sb;dsimp only;grind
theorem akE (a b t0 t1 t2:P3):om t0 t1 t2 a*b.2.2- om t0 t1 t2 b*a.2.2= -(om a b t1 t2*t0.2.2+om a b t2 t0*t1.2.2+om a b t0 t1*t2.2.2):=by
 unfold om dt DO sb;dsimp only;grind
theorem ND {x y r0 r1 r2 al bl t0 t1 t2 lo hi:Int} (hs:x- y=r0+r1+r2) (he:x*bl- y*al=r1*t0+r2*t1+r0*t2) (h0:0<=r0) (h1:0<=r1) (h2:0<=r2)
  (l0:lo<=t0) (l1:lo<=t1) (l2:lo<=t2) (u0:t0<=hi) (u1:t1<=hi) (u2:t2<=hi):lo*(x- y)<=al*(x- y)+x*(bl- al)/\ al*(x- y)+x*(bl- al)<=hi*(x- y):=by
 have e:al*(x- y)+x*(bl- al)=r1*t0+r2*t1+r0*t2:=by rw [<- he];grind
 rw [e,hs]
 have a1:=Int.mul_le_mul_of_nonneg_left l0 h1
 have a2:=Int.mul_le_mul_of_nonneg_left l1 h2
 have a3:=Int.mul_le_mul_of_nonneg_left l2 h0
 have b1:=Int.mul_le_mul_of_nonneg_left u0 h1
 have b2:=Int.mul_le_mul_of_nonneg_left u1 h2
 have b3:=Int.mul_le_mul_of_nonneg_left u2 h0
 have c1:lo*(r0+r1+r2)=r1*lo+r2*lo+r0*lo:=by grind
 have c2:hi*(r0+r1+r2)=r1*hi+r2*hi+r0*hi:=by grind
 rw [c1,c2]
 omega
theorem aeb {a b:P3} {t:T3} {bx:B3} (h:Lq a b t) (hb: ∀p∈Lb t,Nm bx.1 p/\ Nm p bx.2): ∃n d,0<d/\ 0<=n/\ n<=d/\ InB a b bx n d:=by
 obtain ⟨⟨l01,l02,l03⟩,u01,u02,u03⟩:=hb t.1 (by simp [Lb])
 obtain ⟨⟨l11,l12,l13⟩,u11,u12,u13⟩:=hb t.2.1 (by simp [Lb])
 obtain ⟨⟨l21,l22,l23⟩,u21,u22,u23⟩:=hb t.2.2 (by simp [Lb])
 have es:=afn a b t.1 t.2.1 t.2.2
 have ex:=akC a b t.1 t.2.1 t.2.2
 have ey:=akD a b t.1 t.2.1 t.2.2
 have ez:=akE a b t.1 t.2.1 t.2.2
 unfold Lq jL at h
 generalize om t.1 t.2.1 t.2.2 a=x at*
 generalize om t.1 t.2.1 t.2.2 b=y at*
 generalize om a b t.1 t.2.1=r0 at*
 generalize om a b t.2.1 t.2.2=r1 at*
 generalize om a b t.2.2 t.1=r2 at*
 obtain ⟨hs,hr⟩:=h
 rcases hs with ⟨h1,h2⟩|⟨h1,h2⟩
 ·have hr:0≤r0∧0≤r1∧0≤r2:=by omega
  refine ⟨-x,y- x,by omega,by omega,by omega,fun i hi=> ?_⟩
  have k: ∀al bl t0 t1 t2 lo hi:Int,x*bl- y*al= -(r1*t0+r2*t1+r0*t2)->lo<=t0->lo<=t1->lo<=t2->t0<=hi->t1<=hi->t2<=hi->lo*(y- x)<=al*(y- x)+ -x*(bl- al)/\ al*(y- x)+ -x*(bl- al)<=hi*(y- x):=fun al bl t0 t1 t2 lo hi he a1 a2 a3 b1 b2 b3=>by
   have:=ND (x:= -x) (y:= -y) (r0:=r0) (r1:=r1) (r2:=r2) (al:=al) (bl:=bl) (t0:=t0) (t1:=t1) (t2:=t2) (lo:=lo) (hi:=hi) (by omega) (by grind) hr.1 hr.2.1 hr.2.2 a1 a2 a3 b1 b2 b3
   rw [show-x- -y=y- x by omega] at this
   exact this
  match i,hi with
  |0,_=>exact k _ _ _ _ _ _ _ ex l01 l11 l21 u01 u11 u21
  |1,_=>exact k _ _ _ _ _ _ _ ey l02 l12 l22 u02 u12 u22
  |2,_=>exact k _ _ _ _ _ _ _ ez l03 l13 l23 u03 u13 u23
 ·have hr:r0≤0∧r1≤0∧r2≤0:=by omega
  refine ⟨x,x- y,by omega,by omega,by omega,fun i hi=> ?_⟩
  have k: ∀al bl t0 t1 t2 lo hi:Int,x*bl- y*al= -(r1*t0+r2*t1+r0*t2)->lo<=t0->lo<=t1->lo<=t2->t0<=hi->t1<=hi->t2<=hi->lo*(x- y)<=al*(x- y)+x*(bl- al)/\ al*(x- y)+x*(bl- al)<=hi*(x- y):=fun al bl t0 t1 t2 lo hi he a1 a2 a3 b1 b2 b3=>
   ND (r0:= -r0) (r1:= -r1) (r2:= -r2) (by omega) (by grind) (by omega) (by omega) (by omega) a1 a2 a3 b1 b2 b3
  match i,hi with
  |0,_=>exact k _ _ _ _ _ _ _ ex l01 l11 l21 u01 u11 u21
  |1,_=>exact k _ _ _ _ _ _ _ ey l02 l12 l22 u02 u12 u22
  |2,_=>exact k _ _ _ _ _ _ _ ez l03 l13 l23 u03 u13 u23
end Go.Proofs.YtngdehlpoomaiaaGreat
namespace Go.Proofs.YtngdehlpoomaiaaGreat
open Go Go.Ev Go.Proofs
abbrev aiR:Type:=List vQ×(List T3×P3×P3)
def mR (L:List T3) (a b:P3) (pl:List Int):Prop:= ∃i∈pl,Lq a b (L.getD i.toNat zT)
instance (L:List T3) (a b:P3) (pl:List Int):Decidable (mR L a b pl):=Classical.propDecidable _
theorem aga {L:List T3} (hs:yQ L) {i:Int} (h:0<=i/\ i<(L.length:Int)):SmT (L.getD i.toNat zT):=by
 have hm:=hs _ (jl (show i.toNat<L.length by omega) zT)
 exact ⟨hm _ (by simp [Lb]),hm _ (by simp [Lb]),hm _ (by simp [Lb])⟩
theorem LQ {G:List vQ} {L:List T3} {a b:P3} (hs:yQ L) (ha:fF a) (hb:fF b) {pl:List Int} (hi:Na L pl) (hl:pl.length<=1000):
  lK (pl,G,L,a,b)/\ (qL (pl,G,L,a,b)=true↔mR L a b pl):=by
 have hit: ∀i∈pl,wA ((G,L,a,b),i)/\ Jt ((G,L,a,b),i)=decide (Lq a b (L.getD i.toNat zT)):=fun i hm=>by
  have h:=hi i hm
  obtain ⟨h1,h2⟩:=ad8 ha hb (aga hs h)
  unfold wA Jt aq
  dsimp only
  have e:ZS (a,b,L.getD i.toNat (((0:Int),(0:Int),(0:Int)),((0:Int),(0:Int),(0:Int)),(0:Int),(0:Int),(0:Int)))=_:=h2
  rw [e]
  exact ⟨⟨h,by omega,by omega,h1⟩,rfl⟩
 have hh:=oB pl (by omega) (fun i=>Jt ((G,L,a,b),i)) (iC (pl,G,L,a,b)) (qt (pl,G,L,a,b)) (fun i hi=>by
   unfold qt
   intro h
   simp only [Int.toNat_natCast]
   dsimp only at h ⊢
   exact ⟨by omega,by omega,by omega,(hit _ (jl (by omega) 0)).1⟩) (fun i x hx=>by
   have hlt:=c6 hx
   unfold iC aq
   dsimp only
   rw [if_pos (by omega),Int.toNat_natCast,iS hx]) (by
   unfold iC
   dsimp only
   rw [if_neg (by omega)])
 refine ⟨hh.1,?_⟩
 have e:RZ (pl,G,L,a,b)=_:=hh.2
 unfold qL aq
 rw [e]
 refine (iff_of_eq (congrArg (fun b:Bool=>b=true) (uk pl fun i=>Jt ((G,L,a,b),i)))).trans ?_
 rw [List.any_eq_true]
 unfold mR
 constructor
 ·rintro ⟨i,h1,h2⟩
  rw [(hit i h1).2] at h2
  exact ⟨i,h1,of_decide_eq_true h2⟩
 ·rintro ⟨i,h1,h2⟩
  exact ⟨i,h1,by rw [(hit i h1).2];exact decide_eq_true h2⟩
theorem HZ {x:aiR} {k c:Nat} {T:List Int} (hk:k<x.1.length) (hT:T.length<=20000) (hx:x.1.length<=10000) (hc:c<=100000)
  (h1:lz (x.2.2.1,x.2.2.2,(x.1.getD k zB).1)) (h2:(x.1.getD k zB).2.1=0->lK ((x.1.getD k zB).2.2.2,x)):
  fW x ((c:Int),T++ [(k:Int)])/\ cC x ((c:Int),T++ [(k:Int)])=
   (if (qu (x.2.2.1,x.2.2.2,(x.1.getD k zB).1)).1=true then (if (x.1.getD k zB).2.1=0 then (if qL ((x.1.getD k zB).2.2.2,x)=true then .inr (.inl ((c+1:Nat):Int)) else .inl (((c+1:Nat):Int),T))
    else .inl (((c+1:Nat):Int),T++ [(x.1.getD k zB).2.2.1,(x.1.getD k zB).2.1])) else .inl (((c+1:Nat):Int),T)):=by
 have e0:(((T++ [(k:Int)]).length:Nat):Int)=(T.length:Int)+1:=by simp
 have e1:av ((((T++ [(k:Int)]).length:Nat):Int)- 1)=(T.length:Int):=by rw [e0,aF (by omega) (by omega)];omega
 have e2:(T++ [(k:Int)]).getD T.length 0=(k:Int):=by simp
 have e3:(T++ [(k:Int)]).take T.length=T:=by simp
 have e4:av ((c:Int)+1)=((c+1:Nat):Int):=by rw [aF (by omega) (by omega)];rfl
 unfold fW cC aC aq
 dsimp only
 rw [e1]
 simp only [Int.toNat_natCast]
 rw [e2,e3,e4]
 simp only [Int.toNat_natCast]
 constructor
 ·intro _
  refine ⟨⟨by omega,by omega⟩,by simp,by simp,⟨by omega,by omega⟩,hk,hk,⟨by omega,by omega⟩,h1,fun _=>⟨fun q=>h2 (by simpa using q),fun _=>by omega⟩⟩
 ·rw [if_pos (by omega)]
  show (if (!(qu (x.2.2.1,x.2.2.2,(x.1.getD k zB).1)).1)=true then _ else _)=_
  cases (qu (x.2.2.1,x.2.2.2,(x.1.getD k zB).1)).1 with
  |false=>rfl
  |true=>
   rw [if_neg (by decide),if_pos rfl]
   by_cases hz:(x.1.getD k zB).2.1=0
   ·rw [if_pos hz]
    exact if_pos (by simpa using hz)
   ·rw [if_neg hz]
    exact if_neg (by simpa using hz)
theorem aci (x:aiR) (c:Int):fW x (c,[])/\ cC x (c,[])= .inr (.inr c):=by
 constructor
 ·unfold fW
  intro h
  exact absurd (show (0:Int)>0 from h) (by decide)
 ·unfold cC
  exact if_neg (show¬(0:Int)>0 by decide)
theorem mR.mono {L:List T3} {a b:P3} {l m:List Int} (h:mR L a b l) (hs: ∀i∈l,i∈m):mR L a b m:=by
 obtain ⟨i,h1,h2⟩:=h
 exact ⟨i,hs i h1,h2⟩
theorem I7 {L:List T3} (hs:yQ L) {a b:P3} (ha:fF a) (hb:fF b) {pl:List Int} (hi:Na L pl) (hl:pl.length<=1000) (h0:pl≠ []):
  lz (a,b,fH (L,pl))/\ (mR L a b pl->(qu (a,b,fH (L,pl))).1=true):=by
 have hB:=Tv hs hi (by omega) h0
 obtain ⟨⟨s1,s2⟩,s3⟩:=hB.is (Gn hs hi)
 obtain ⟨m1,m2⟩:=WX ha hb s1 s2 s3
 refine ⟨m1,fun ⟨i,h1,h2⟩=>m2 (aeb h2 fun p hp=> ?_)⟩
 have hpt:p∈oI L pl:=List.mem_flatMap.2 ⟨i,h1,hp⟩
 exact ⟨hB.low p hpt,hB.high p hpt⟩
theorem ack {L:List T3} (hs:yQ L) {a b:P3} (ha:fF a) (hb:fF b) {H:List vQ} (hH:H.length<=10000) {s:Nat} {par:Int} {pl:List Int} {G:List vQ} {N:List (List Int)} {U:List Int} (ht:jR L s par pl G N U):
  Na L pl->pl.length<=1000->pl≠ []->(∀k,k<G.length->H.getD (s+k) zB=G.getD k zB)->s+G.length<=H.length-> ∀(c:Nat) (T:List Int) (Post:Int⊕Int->Prop),c+G.length<=100000->T.length+G.length<=20000->
   (∀m:Nat,1<=m->m<=G.length->(mR L a b pl->Post (.inl ((c+m:Nat):Int)))/\ (¬mR L a b pl->TR (cC (H,L,a,b)) (fW (H,L,a,b)) (((c+m:Nat):Int),T) Post))->
   TR (cC (H,L,a,b)) (fW (H,L,a,b)) ((c:Int),T++ [(s:Int)]) Post:=by
 induction ht with
 |leaf s par pl h2=>
  intro hi hl h0 hH2 Ng c T Post hc hT hP
  have e:=hH2 0 (by simp)
  simp only [List.length_singleton] at Ng hc hT hP
  rw [Nat.add_zero,show ([(fH (L,pl),(0:Int),(0:Int),pl)]:List vQ).getD 0 zB=(fH (L,pl),0,0,pl) from rfl] at e
  obtain ⟨m1,m2⟩:=I7 hs ha hb hi hl h0
  obtain ⟨c1,c2⟩:=LQ (G:=H) hs ha hb hi hl
  obtain ⟨r1,r2⟩:=HZ (x:=(H,L,a,b)) (k:=s) (c:=c) (T:=T) (by dsimp only;omega) (by omega) hH (by omega) (by dsimp only;rw [e];exact m1) (fun _=>by dsimp only;rw [e];exact c1)
  dsimp only at r2
  rw [e] at r2
  dsimp only at r2
  rw [if_pos rfl] at r2
  obtain ⟨q1,q2⟩:=hP 1 (Nat.le_refl _) (Nat.le_refl _)
  by_cases hh:mR L a b pl
  ·rw [if_pos (m2 hh),if_pos (c2.2 hh)] at r2
   exact TR.stop r1 r2 (q1 hh)
  ·refine TR.go r1 ?_ (q2 hh)
   rw [r2]
   split
   ·rw [if_neg fun q=>hh (c2.1 q)]
   ·rfl
 |fork s par pl A0 B0 A B NA NB UA UB h2 hp hla hlb he hA hB Nh Ni=>
  intro hi hl h0 hH2 Ng c T Post hc hT hP
  have hlen:((fH (L,pl),((s+1:Nat):Int),((s+1+A.length:Nat):Int),([]:List Int))::(A++B)).length=1+A.length+B.length:=by simp;omega
  rw [hlen] at Ng hc hT hP hH2
  have e:=hH2 0 (by omega)
  rw [Nat.add_zero,show ((fH (L,pl),((s+1:Nat):Int),((s+1+A.length:Nat):Int),([]:List Int))::(A++B)).getD 0 zB=(fH (L,pl),((s+1:Nat):Int),((s+1+A.length:Nat):Int),[]) from rfl] at e
  have sA: ∀i∈A0,i∈pl:=fun i h=>hp.mem_iff.1 (List.mem_append.2 (.inl h))
  have sB: ∀i∈B0,i∈pl:=fun i h=>hp.mem_iff.1 (List.mem_append.2 (.inr h))
  obtain ⟨m1,m2⟩:=I7 hs ha hb hi hl h0
  obtain ⟨r1,r2⟩:=HZ (x:=(H,L,a,b)) (k:=s) (c:=c) (T:=T) (by dsimp only;omega) (by omega) hH (by omega) (by dsimp only;rw [e];exact m1) (fun q=>by
   dsimp only at q
   rw [e] at q
   dsimp only at q
   omega)
  dsimp only at r2
  rw [e] at r2
  dsimp only at r2
  rw [if_neg (show¬((s+1:Nat):Int)=0 by omega)] at r2
  by_cases hm:(qu (a,b,fH (L,pl))).1=true
  ·rw [if_pos hm] at r2
   refine TR.go r1 r2 ?_
   have eT:T++ [((s+1+A.length:Nat):Int),((s+1:Nat):Int)]=(T++ [((s+1+A.length:Nat):Int)])++ [((s+1:Nat):Int)]:=by simp
   rw [eT]
   refine Nh (fun i h=>hi i (sA i h)) (by omega) (fun q=>by rw [q] at hla;simp at hla;omega) (fun k hk=> ?_) (by omega) (c+1) _ Post (by omega) (by simp;omega) fun m g1 g2=>⟨fun hh=> ?_,fun hn=> ?_⟩
   ·have:=hH2 (1+k) (by omega)
    rw [gdA hk zB] at this
    rw [<- this];congr 1;omega
   ·have:=(hP (1+m) (by omega) (by omega)).1 (hh.mono sA)
    rw [show c+1+m=c+(1+m) by omega];exact this
   ·refine Ni (fun i h=>hi i (sB i h)) (by omega) (fun q=>by rw [q] at hlb;simp at hlb;omega) (fun k hk=> ?_) (by omega) (c+1+m) T Post (by omega) (by omega) fun m' g3 g4=> ?_
    ·have:=hH2 (1+A.length+k) (by omega)
     rw [gdB k _ rfl zB] at this
     rw [<- this];congr 1;omega
    ·have:=hP (1+m+m') (by omega) (by omega)
     rw [show c+1+m+m'=c+(1+m+m') by omega]
     refine ⟨fun hh=>this.1 (hh.mono sB),fun RH=>this.2 fun ⟨i,q1,q2⟩=> ?_⟩
     rcases List.mem_append.1 (hp.mem_iff.2 q1) with q|q
     ·exact hn ⟨i,q,q2⟩
     ·exact RH ⟨i,q,q2⟩
  ·rw [if_neg hm] at r2
   exact TR.go r1 r2 ((hP 1 (Nat.le_refl _) (by omega)).2 fun hh=>hm (m2 hh))
theorem acj {L:List T3} (hs:yQ L) {a b:P3} (ha:fF a) (hb:fF b) {G:List vQ} {N:List (List Int)} {U:List Int} (hG:G.length<=10000) {pl:List Int} (ht:jR L 0 (-1) pl G N U) (hi:Na L pl) (hl:pl.length<=1000) (h0:pl≠ []):
  Cm (G,L,a,b)/\ ∃m:Nat,1<=m/\ m<=G.length/\ Vl (G,L,a,b)=(decide (mR L a b pl),(m:Int)):=by
 have key:=ack hs ha hb hG ht hi hl h0 (fun k _=>by rw [Nat.zero_add]) (by omega) 0 [] (fun r=> ∃m:Nat,1<=m/\ m<=G.length/\ ((mR L a b pl/\ r= .inl (m:Int))\/ (¬mR L a b pl/\ r= .inr (m:Int)))) (by omega) (by simp;omega) fun m g1 g2=>⟨fun hh=>⟨m,g1,g2,.inl ⟨hh,by rw [Nat.zero_add]⟩⟩,fun hh=>by
  obtain ⟨w1,w2⟩:=aci (G,L,a,b) ((0+m:Nat):Int)
  exact TR.stop w1 w2 ⟨m,g1,g2,.inr ⟨hh,by rw [Nat.zero_add]⟩⟩⟩
 refine ⟨key.1,?_⟩
 obtain ⟨m,g1,g2,hr⟩:=key.2
 refine ⟨m,g1,g2,?_⟩
 unfold Vl aq
 have hr:(mR L a b pl/\ run (cC (G,L,a,b)) (0,[0])= .inl (m:Int))\/ (¬mR L a b pl/\ run (cC (G,L,a,b)) (0,[0])= .inr (m:Int)):=hr
 rcases hr with ⟨h1,h2⟩|⟨h1,h2⟩
 ·rw [h2]
  exact Prod.ext (decide_eq_true h1).symm rfl
 ·rw [h2]
  exact Prod.ext (decide_eq_false h1).symm rfl
end Go.Proofs.YtngdehlpoomaiaaGreat
