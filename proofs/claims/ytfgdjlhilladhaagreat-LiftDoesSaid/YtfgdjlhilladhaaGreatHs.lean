/- Plain laws: what a texel looks at is never refused; triangles of an atlas lie in it. -/
import Derived.Test.YtfgdjlhilladhaaGreatGi
import Derived.Test.YtfgdjlhilladhaaGreatLb
import Derived.Test.YtfgdjlhilladhaaGreatHv
import Derived.Test.YtfgdjlhilladhaaGreatHd
noncomputable section
set_option linter.unusedSectionVars false
set_option linter.unusedVariables false
set_option linter.unusedSimpArgs false
namespace Go.Proofs.YtfgdjlhilladhaaGreat
open Go Go.Ev Go.Proofs
theorem Rd {p a b:Int×Int} (ha:Sm a) (hb:Sm b):Sm (w7 p a b).1:=by
 unfold w7
 by_cases h1:AA p a b<=0\/ Sq b a=0
 ·rw [if_pos h1];exact ha
 ·rw [if_neg h1]
  by_cases h2:Sq b a<=AA p a b
  ·rw [if_pos h2];exact hb
  ·rw [if_neg h2]
   have q1:=Js (d:=b.1- a.1) (show 0<AA p a b by omega) (show AA p a b<Sq b a by omega)
   have q2:=Js (d:=b.2- a.2) (show 0<AA p a b by omega) (show AA p a b<Sq b a by omega)
   obtain ⟨⟨a1,a2⟩,a3,a4⟩:=ha
   obtain ⟨⟨b1,b2⟩,b3,b4⟩:=hb
   refine ⟨?_,?_⟩
   ·dsimp only;rcases Int.le_total 0 (b.1- a.1) with h|h<;>omega
   ·dsimp only;rcases Int.le_total 0 (b.2- a.2) with h|h<;>omega
theorem agI {p a b c:Int×Int} (ha:Sm a) (hb:Sm b) (hc:Sm c):Sm (SW p a b c).1:=by
 have h1:=Rd (p:=p) ha hb
 have h2:=Rd (p:=p) hb hc
 have h3:=Rd (p:=p) hc ha
 have pk1: ∀u v:(Int×Int)×(Int×Int×Int),Sm u.1->Sm v.1->Sm (pick u v).1:=fun u v hu hv=>by
  unfold pick
  by_cases h:sg (v.2.2.1*u.2.2.2- u.2.2.1*v.2.2.2)<0
  ·rw [if_pos h];exact hv
  ·rw [if_neg h];exact hu
 exact pk1 _ _ (pk1 _ _ h1 h2) h3
theorem al8 {x y:Int} {a b c:Int×Int} (h:InT x y) (ha:Sm a) (hb:Sm b) (hc:Sm c):Sm (Qp x y a b c):=by
 unfold Qp
 split
 ·exact ac7 h
 ·exact agI ha hb hc
theorem TO {x y:Int} {t:T2} {s:P3×(P3×P3)} (h:InT x y) (hr:Right t.1 t.2.1 t.2.2) (hs:Cw s.1/\ Cw s.2.1/\ Cw s.2.2):(iz (x,y,t,s)).2=0:=by
 obtain ⟨a,b,c⟩:=t
 obtain ⟨u,v,w⟩:=s
 rw [B0,if_pos h,if_pos hr,zV,if_pos (al8 h hr.1.1 hr.1.2.1 hr.1.2.2),if_pos hs,if_pos hr]
theorem X3 {a b c:P2} {u v:Int} (hr:c8 a b c≠0):c8 (a.1+u,a.2+v) (b.1+u,b.2+v) (c.1+u,c.2+v)≠0:=by
 have:c8 (a.1+u,a.2+v) (b.1+u,b.2+v) (c.1+u,c.2+v)=c8 a b c:=by unfold c8;grind
 rw [this];exact hr
theorem amb {a:GR} (hA:qt a) {t:T2} (ht:t∈sL a.2.2.2.1 a.2.2.2.2 a.2.2.1 a.2.2.2.1.length):AJ a.1 a.2.1 t/\ mright t=true:=by
 obtain ⟨i,hi,e⟩:=List.getElem_of_mem ht
 obtain ⟨j,h1,_,h3,_⟩:=ai0 hA.rgt a.2.2.2.2 a.2.2.1 a.2.2.2.1.length (Nat.le_refl _) i hi
 have e2:(sL a.2.2.2.1 a.2.2.2.2 a.2.2.1 a.2.2.2.1.length).getD i zT=t:=by rw [List.getD_eq_getElem?_getD,List.getElem?_eq_getElem hi,e];rfl
 rw [e2] at h3
 obtain ⟨⟨r1,r2⟩,⟨r3,r4⟩,r5,r6⟩:=hA.ahX h1
 have hn:=hA.num
 obtain ⟨⟨w1,w2⟩,⟨g1,g2⟩,p1,p2⟩:=hn
 have k0:=WG hA h1 h3 (k:=0) (by decide)
 have k1:=WG hA h1 h3 (k:=1) (by decide)
 have k2:=WG hA h1 h3 (k:=2) (by decide)
 simp only [pk,Inn,if_pos,if_neg,Nat.one_ne_zero,show¬(2:Nat)=0 by decide,show¬(2:Nat)=1 by decide,if_false] at k0 k1 k2
 have hI:AJ a.1 a.2.1 t:=by
  refine ⟨⟨⟨?_,?_⟩,?_,?_⟩,⟨⟨?_,?_⟩,?_,?_⟩,⟨?_,?_⟩,?_,?_⟩<;>omega
 refine ⟨hI,?_⟩
 obtain ⟨⟨⟨i1,i2⟩,i3,i4⟩,⟨⟨i5,i6⟩,i7,i8⟩,⟨i9,i10⟩,i11,i12⟩:=id hI
 obtain ⟨u,hu,rfl⟩:=List.mem_map.1 h3
 have hp:=(hA.rgt.all _ (cq h1 zP)).right u hu
 have adX:=hA.way h1
 obtain ⟨⟨⟨s1,s2⟩,s3,s4⟩,hne⟩:=id hp
 have hm: ∀q:P2,Sm q->eI (q,dx a.2.2.2.2 a.2.2.1 j)=(q.1+(dx a.2.2.2.2 a.2.2.1 j).1,q.2+(dx a.2.2.2.2 a.2.2.1 j).2):=fun q hq=>by
  unfold eI
  dsimp only
  rw [ay (n:=q.1+(dx a.2.2.2.2 a.2.2.1 j).1) (by omega) (by omega),ay (n:=q.2+(dx a.2.2.2.2 a.2.2.1 j).2) (by omega) (by omega)]
 have hd:=X3 (u:=(dx a.2.2.2.2 a.2.2.1 j).1) (v:=(dx a.2.2.2.2 a.2.2.1 j).2) hne
 have hR:Right (w4 (fun p=>eI (p,dx a.2.2.2.2 a.2.2.1 j)) u).1 (w4 (fun p=>eI (p,dx a.2.2.2.2 a.2.2.1 j)) u).2.1 (w4 (fun p=>eI (p,dx a.2.2.2.2 a.2.2.1 j)) u).2.2:=by
  refine ⟨⟨⟨?_,?_⟩,⟨?_,?_⟩,⟨?_,?_⟩⟩,?_⟩
  rotate_right
  ·show c8 (eI (u.1,dx a.2.2.2.2 a.2.2.1 j)) (eI (u.2.1,dx a.2.2.2.2 a.2.2.1 j)) (eI (u.2.2,dx a.2.2.2.2 a.2.2.1 j))≠0
   rw [hm _ hp.1.1,hm _ hp.1.2.1,hm _ hp.1.2.2]
   exact hd
  all_goals omega
 have e3:=iA (w4 (fun p=>eI (p,dx a.2.2.2.2 a.2.2.1 j)) u).1 (w4 (fun p=>eI (p,dx a.2.2.2.2 a.2.2.1 j)) u).2.1 (w4 (fun p=>eI (p,dx a.2.2.2.2 a.2.2.1 j)) u).2.2
 exact e3.trans (decide_eq_true hR)
theorem agQ {W H x y:Nat} (hw:pM (W:Int)) (hh:pM (H:Int)) (hx:x<256) (hy:y<256) {t:T2} (hT:AJ W H t) (hr:mright t=true) (hc:I7 x y t=true):QG t x y:=by
 obtain ⟨⟨⟨n1,n2⟩,n3,n4⟩,_⟩:=(YK hx hy hr).1 hc
 obtain ⟨⟨p1,p2⟩,⟨p3,p4⟩,p5,p6⟩:=hT
 obtain ⟨⟨x1,x2,x3,x4,x5⟩,x6,x7,x8,x9,x10⟩:=Jo hw p1 p3 p5
 obtain ⟨⟨y1,y2,y3,y4,y5⟩,y6,y7,y8,y9,y10⟩:=Jo hh p2 p4 p6
 obtain ⟨w1,w2⟩:=hw
 obtain ⟨h1,h2⟩:=hh
 have q1:Y5 t=_:=x1
 have q2:hix t=_:=x6
 have q3:Y6 t=_:=y1
 have q4:hiy t=_:=y6
 have m1:=fN (aj (Y5 t- 1)) 0
 have m2:=fN (aj (Y6 t- 1)) 0
 have e1:aj (Y5 t- 1)=Y5 t- 1:=ay (by omega) (by omega)
 have e2:aj (Y6 t- 1)=Y6 t- 1:=ay (by omega) (by omega)
 unfold QG
 omega
def Kh (l:List T2) (x y:Nat):Int:=match l.findIdx? (fun t=>I7 x y t) with|some j=>(j:Int)|none=> -1
theorem aeM {W H:Nat} (hw:pM (W:Int)) (hh:pM (H:Int)) {l:List T2} (hR:Rt W H l) {o:List Int} (hO:Own W H l o) {n:Nat} (hn:n<W*H):o.getD n 0=Kh l (n % W) (n / W):=by
 have hW:0<W:=by rcases Nat.eq_zero_or_pos W with e|e;subst e;simp at hn;exact e
 have hx:n % W<256:=by have:=Nat.mod_lt n hW;have:=hw.2;omega
 have hy:n / W<256:=by have:n / W<H:=(Nat.div_lt_iff_lt_mul hW).2 (by rw [Nat.mul_comm];exact hn);have:=hh.2;omega
 have hB: ∀j,j<l.length->I7 (n % W) (n / W) (l.getD j zT)=true->QG (l.getD j zT) (n % W) (n / W):=fun j hj hc=>by
  obtain ⟨a,b⟩:=hR _ (cq hj zT)
  exact agQ hw hh hx hy a b hc
 have gD: ∀j (hj:j<l.length),l.getD j zT=l[j]:=fun j hj=>by rw [List.getD_eq_getElem?_getD,List.getElem?_eq_getElem hj];rfl
 unfold Kh
 cases hf:l.findIdx? (fun t=>I7 (n % W) (n / W) t) with
 |none=>
  rw [List.findIdx?_eq_none_iff] at hf
  rcases hO.has n hn with h|⟨j,h1,_,h3⟩
  ·exact h
  ·have:=hf _ (cq h1 zT)
   rw [this] at h3;cases h3
 |some j=>
  rw [List.findIdx?_eq_some_iff_getElem] at hf
  obtain ⟨h1,h2,h3⟩:=hf
  rw [<- gD j h1] at h2
  have hne:=hO.all n hn j h1 (hB j h1 h2) h2
  rcases hO.has n hn with h|⟨k,k1,k2,k3⟩
  ·exact absurd h hne
  ·rw [k2]
   dsimp only
   rcases Nat.lt_trichotomy k j with h|h|h
   ·have:=h3 k h
    rw [<- gD k k1] at this
    exact absurd k3 this
   ·rw [h]
   ·have:=hO.lst n hn k k2 j h (hB j h1 h2)
    rw [h2] at this;cases this
end Go.Proofs.YtfgdjlhilladhaaGreat
namespace Go.Proofs.YtfgdjlhilladhaaGreat
open Go Go.Ev Go.Proofs
theorem AE {α:Type} {v:α} {f:α->Prop} (h:f v):az v f:=h
theorem xY {α β:Type} (v:α) (f:α->β):aq v f=f v:=rfl
theorem akc {X Y:Int} (hX:0<=X/\ X<=4080) (hY:0<=Y/\ Y<=4080): ∀p∈YD X Y,Sm p:=fun p hp=>by
 simp only [YD,List.mem_cons,List.not_mem_nil,or_false] at hp
 rcases hp with rfl|rfl|rfl|rfl<;>(unfold Sm;dsimp only;omega)
theorem afq {x y:Nat} (hx:x<256) (hy:y<256) {t:T2} (hr:mright t=true):
  nW ((x:Int),(y:Int),t)/\ (uh ((x:Int),(y:Int),t)).1=I7 x y t:=by
 have e1:aj (16*(x:Int))=16*(x:Int):=ay (by omega) (by omega)
 have e2:aj (16*(y:Int))=16*(y:Int):=ay (by omega) (by omega)
 have e3:aj (16*(x:Int)+16)=16*(x:Int)+16:=ay (by omega) (by omega)
 have e4:aj (16*(y:Int)+16)=16*(y:Int)+16:=ay (by omega) (by omega)
 have s1:Sm (16*(x:Int),16*(y:Int)):=by unfold Sm;dsimp only;omega
 have s2:Sm (16*(x:Int)+16,16*(y:Int)+16):=by unfold Sm;dsimp only;omega
 have hR:M1 t:=of_decide_eq_true ((iA t.1 t.2.1 t.2.2).symm.trans hr)
 have hr2:cW t=true:=(jP t.1 t.2.1 t.2.2).trans (decide_eq_true hR)
 have hsm:=akc (X:=16*(x:Int)) (Y:=16*(y:Int)) ⟨by omega,by omega⟩ ⟨by omega,by omega⟩
 obtain ⟨q1,q2⟩:=B7 hR (YD (16*(x:Int)) (16*(y:Int))) false hsm (by simp [YD])
 have q2:fF (t,YD (16*(x:Int)) (16*(y:Int)),false)=BF t.1 t.2.1 t.2.2 0 (YD (16*(x:Int)) (16*(y:Int))):=q2
 have hm:=B3 (a:=t.1) (b:=t.2.1) (c:=t.2.2) hR 0 (YD (16*(x:Int)) (16*(y:Int))) hsm (by simp [YD])
 have hcv:=YK hx hy hr
 rw [show vg (t,0,YD (16*(x:Int)) (16*(y:Int)))=BF t.1 t.2.1 t.2.2 0 (YD (16*(x:Int)) (16*(y:Int))) from hm] at hcv
 generalize hO:BF t.1 t.2.1 t.2.2 0 (YD (16*(x:Int)) (16*(y:Int)))=B at*
 unfold YD at q1 q2
 have f0: ¬((!true)=true):=by decide
 refine ⟨?_,?_⟩
 ·unfold nW az
  dsimp only
  rw [e1,e2]
  intro _ _ _ _ _
  unfold sZ az
  dsimp only
  rw [e3,e4]
  exact fun _ _ _ _ _ _ _ _ _=>q1
 ·unfold uh aq
  dsimp only
  rw [if_neg (by omega),if_neg (by omega),if_neg (by omega),if_neg (by omega),hr2,if_neg f0,e1,e2]
  unfold Gi aq
  dsimp only
  rw [if_neg (by decide),if_neg (by decide),e3,e4,dk,dk,decide_eq_true s1,decide_eq_true s2,hr2,if_neg f0,if_neg f0,if_neg f0,q2]
  unfold acV at hcv
  by_cases c1:aG (aG t.1.1 t.2.1.1) t.2.2.1>16*(x:Int)+16
  ·rw [if_pos c1,Bool.eq_iff_iff,hcv]
   exact ⟨fun q=>(by cases q),fun q=>absurd q.1.1.1 (by omega)⟩
  ·rw [if_neg c1]
   by_cases c2:aG (aG t.1.2 t.2.1.2) t.2.2.2>16*(y:Int)+16
   ·rw [if_pos c2,Bool.eq_iff_iff,hcv]
    exact ⟨fun q=>(by cases q),fun q=>absurd q.1.2.1 (by omega)⟩
   ·rw [if_neg c2]
    by_cases c3:aI (aI t.1.1 t.2.1.1) t.2.2.1<16*(x:Int)
    ·rw [if_pos c3,Bool.eq_iff_iff,hcv]
     exact ⟨fun q=>(by cases q),fun q=>absurd q.1.1.2 (by omega)⟩
    ·rw [if_neg c3]
     by_cases c4:aI (aI t.1.2 t.2.1.2) t.2.2.2<16*(y:Int)
     ·rw [if_pos c4,Bool.eq_iff_iff,hcv]
      exact ⟨fun q=>(by cases q),fun q=>absurd q.1.2.2 (by omega)⟩
     ·rw [if_neg c4,Bool.eq_iff_iff,hcv]
      dsimp only
      rw [Bool.not_eq_true']
      exact ⟨fun q=>⟨⟨⟨by omega,by omega⟩,by omega,by omega⟩,q⟩,fun q=>q.2⟩
theorem anU (t:T2) {k:Nat} (h:k<3):List.getD [t.1.1,t.1.2,t.2.1.1,t.2.1.2,t.2.2.1,t.2.2.2] (0+k*2+0) 0=(pk t k).1/\ List.getD [t.1.1,t.1.2,t.2.1.1,t.2.1.2,t.2.2.1,t.2.2.2] (0+k*2+1) 0=(pk t k).2:=by
 have:k=0\/ k=1\/ k=2:=by omega
 rcases this with rfl|rfl|rfl<;>exact ⟨rfl,rfl⟩
theorem aj0 {w h:Int} {t:T2} (hT:AJ w h t) {k:Nat} (hk:k<3):InP w h (pk t k):=by
 have:k=0\/ k=1\/ k=2:=by omega
 rcases this with rfl|rfl|rfl
 ·exact hT.1
 ·exact hT.2.1
 ·exact hT.2.2
theorem afw {w h:Int} (hw:pM w) (hh:pM h) {t:T2} (hT:AJ w h t) (hr:mright t=true):s7 (w,h,t)/\ uj (w,h,t)=true:=by
 have w1:=hw.1
 have w2:=hw.2
 have h1:=hh.1
 have h2:=hh.2
 have ew:aj (16*w)=16*w:=ay (by omega) (by omega)
 have eh:aj (16*h)=16*h:=ay (by omega) (by omega)
 have hR:M1 t:=of_decide_eq_true ((iA t.1 t.2.1 t.2.2).symm.trans hr)
 have hr2:cW t=true:=(jP t.1 t.2.1 t.2.2).trans (decide_eq_true hR)
 have key:TR (fP (w,h,t)) (jU (w,h,t)) 0 fun r=>r= .inr ():=by
  refine bg 3 (fun i s=>s=(i:Int)) _ (fun i s hi hj=> ?_) (fun s hj=> ?_) rfl
  ·subst hj
   obtain ⟨⟨p1,p2⟩,p3,p4⟩:=aj0 hT hi
   obtain ⟨g1,g2⟩:=anU t hi
   refine ⟨?_,.inl ⟨_,?_,rfl⟩⟩
   ·unfold jU
    intro _
    dsimp only
    rw [Int.toNat_natCast]
    exact ⟨by omega,by omega,fun _=>⟨by omega,by omega,fun _=>⟨by omega,by omega,fun _=>⟨by omega,by omega⟩⟩⟩⟩
   ·unfold fP
    dsimp only
    rw [if_pos (by omega),Int.toNat_natCast,g1,g2,ew,eh,if_neg (by omega),if_neg (by omega),if_neg (by omega),if_neg (by omega),lO hi (by decide)]
  ·subst hj
   refine ⟨?_,_,?_,rfl⟩
   ·unfold jU
    intro q
    exact absurd q (by decide)
   ·unfold fP
    rw [if_neg (by decide)]
 refine ⟨key.1,?_⟩
 unfold uj aq
 rw [key.2]
 exact hr2
theorem adC {l:List T2} {x y i:Nat} (hn: ∀j,j<i->I7 x y (l.getD j zT)=false) (hi:i<l.length) (hc:I7 x y (l.getD i zT)=true):Kh l x y=(i:Int):=by
 have gD: ∀j (hj:j<l.length),l.getD j zT=l[j]:=fun j hj=>by rw [List.getD_eq_getElem?_getD,List.getElem?_eq_getElem hj];rfl
 have e:l.findIdx? (fun t=>I7 x y t)=some i:=by
  rw [List.findIdx?_eq_some_iff_getElem]
  refine ⟨hi,by rw [<- gD i hi];exact hc,fun j hj=> ?_⟩
  rw [<- gD j (by omega),hn j hj];decide
 unfold Kh
 rw [e]
theorem adB {l:List T2} {x y:Nat} (hn: ∀j,j<l.length->I7 x y (l.getD j zT)=false):Kh l x y= -1:=by
 have gD: ∀j (hj:j<l.length),l.getD j zT=l[j]:=fun j hj=>by rw [List.getD_eq_getElem?_getD,List.getElem?_eq_getElem hj];rfl
 have e:l.findIdx? (fun t=>I7 x y t)=none:=by
  rw [List.findIdx?_eq_none_iff]
  intro t ht
  obtain ⟨j,hj,rfl⟩:=List.getElem_of_mem ht
  rw [<- gD j hj];exact hn j hj
 unfold Kh
 rw [e]
def owns (W:Nat) (l:List T2) (N:Nat):List Int:=(List.range N).map fun n=>Kh l (n % W) (n / W)
theorem KW (W:Nat) (l:List T2) (N:Nat):(owns W l N).length=N:=by simp [owns]
theorem Ub (W:Nat) (l:List T2) {N n:Nat} (hn:n<N):(owns W l N).getD n 0=Kh l (n % W) (n / W):=by
 unfold owns
 rw [List.getD_eq_getElem?_getD,List.getElem?_map,List.getElem?_range hn];rfl
section
variable {W H:Nat} (hw:pM (W:Int)) (hh:pM (H:Int)) (l:List T2) (hl:l.length<4611686018427387904) (hR:Rt W H l)
include hw hh hl hR
theorem ah5 (o:List Int) (x y:Nat) (hx:x<W) (hy:y<H):
  TR (cK ((W:Int),(H:Int),l)) (eU ((W:Int),(H:Int),l)) (o,(y:Int),(x:Int),-1,0) fun r=>r=(o,(y:Int),(x:Int),Kh l x y):=by
 have w2:=hw.2
 have h2:=hh.2
 have hx2:x<256:=by omega
 have hy2:y<256:=by omega
 refine bg l.length (fun i s=>(s=(o,(y:Int),(x:Int),-1,(i:Int))/\ ∀j,j<i->I7 x y (l.getD j zT)=false)\/ (s=(o,(y:Int),(x:Int),Kh l x y,(i:Int))/\ 0<=Kh l x y)) _ (fun i s hi hj=> ?_) (fun s hj=> ?_) (.inl ⟨rfl,fun j hj=>absurd hj (Nat.not_lt_zero _)⟩)
 ·rcases hj with ⟨e,hn⟩|⟨e,hn⟩
  ·subst e
   obtain ⟨c1,c2⟩:=afq hx2 hy2 (hR _ (cq hi zT)).2
   refine ⟨?_,.inl ?_⟩
   ·unfold eU
    intro _ _
    dsimp only
    rw [Int.toNat_natCast]
    exact ⟨⟨by omega,by omega⟩,hi,hi,c1⟩
   ·unfold cK aq
    dsimp only
    rw [if_pos (by omega),if_pos (by decide),Int.toNat_natCast,show (uh ((x:Int),(y:Int),l.getD i ((0,0),(0,0),0,0))).1=_ from c2,lO hi hl]
    cases hc:I7 x y (l.getD i zT) with
    |true=>
     rw [if_pos rfl]
     have e:=adC hn hi hc
     exact ⟨_,rfl,.inr ⟨by rw [e],by rw [e];omega⟩⟩
    |false=>
     rw [if_neg (by decide)]
     refine ⟨_,rfl,.inl ⟨rfl,fun j hj=> ?_⟩⟩
     rcases Nat.lt_or_ge j i with q|q
     ·exact hn j q
     ·rw [show j=i by omega];exact hc
  ·subst e
   refine ⟨?_,.inr ⟨_,?_,rfl⟩⟩
   ·unfold eU
    intro _ q
    dsimp only at q;omega
   ·unfold cK
    dsimp only
    rw [if_pos (by omega),if_neg (by omega)]
 ·rcases hj with ⟨e,hn⟩|⟨e,hn⟩
  ·subst e
   refine ⟨?_,_,?_,rfl⟩
   ·unfold eU
    intro q
    dsimp only at q;omega
   ·unfold cK
    dsimp only
    rw [if_neg (by omega),adB hn]
  ·subst e
   refine ⟨?_,_,?_,rfl⟩
   ·unfold eU
    intro q
    dsimp only at q;omega
   ·unfold cK
    dsimp only
    rw [if_neg (by omega)]
theorem ah4 (y:Nat) (hy:y<H):
  TR (fQ ((W:Int),(H:Int),l)) (jX ((W:Int),(H:Int),l)) ((owns W l (W*H)).take (y*W),(y:Int),0) fun r=>r=((owns W l (W*H)).take ((y+1)*W),(y:Int)):=by
 have w2:=hw.2
 have h2:=hh.2
 have hm:W*H<=256*256:=Nat.mul_le_mul (by omega) (by omega)
 refine bg W (fun k s=>s=((owns W l (W*H)).take (y*W+k),(y:Int),(k:Int))) _ (fun k s hk hj=> ?_) (fun s hj=> ?_) rfl
 ·subst hj
  have hlt:=Ko hk hy
  have key:=ah5 hw hh l hl hR ((owns W l (W*H)).take (y*W+k)) k y hk hy
  have hlen:=KW W l (W*H)
  have hg:=Ub W l hlt
  rw [rM hk,rN hk] at hg
  refine ⟨?_,.inl ⟨_,?_,rfl⟩⟩
  ·unfold jX az
   intro _
   dsimp only
   rw [key.2]
   refine ⟨key.1,?_⟩
   dsimp only
   rw [List.length_take];omega
  ·unfold fQ aq
   dsimp only
   rw [if_pos (by omega),key.2]
   dsimp only
   rw [lO hk (by omega),<- Nat.add_assoc,eV (by rw [hlen];exact hlt) 0,hg]
 ·subst hj
  refine ⟨?_,_,?_,rfl⟩
  ·unfold jX
   intro q
   dsimp only at q;omega
  ·unfold fQ
   dsimp only
   rw [if_neg (by omega),show (y+1)*W=y*W+W by rw [Nat.add_mul,Nat.one_mul]]
theorem afA:nX ((W:Int),(H:Int),l)/\ uk ((W:Int),(H:Int),l)=(owns W l (W*H),0):=by
 have w1:=hw.1
 have w2:=hw.2
 have h1:=hh.1
 have h2:=hh.2
 have k0:TR (dQ ((W:Int),(H:Int),l)) (jV ((W:Int),(H:Int),l)) 0 fun r=>r= .inr ():=by
  refine bg l.length (fun i s=>s=(i:Int)) _ (fun i s hi hj=> ?_) (fun s hj=> ?_) rfl
  ·subst hj
   obtain ⟨a,b⟩:=hR _ (cq hi zT)
   obtain ⟨c1,c2⟩:=afw hw hh a b
   refine ⟨?_,.inl ⟨_,?_,rfl⟩⟩
   ·unfold jV
    intro _
    dsimp only
    rw [Int.toNat_natCast]
    exact ⟨⟨by omega,by omega⟩,hi,hi,c1⟩
   ·unfold dQ aq
    dsimp only
    rw [if_pos (by omega),Int.toNat_natCast,show uj ((W:Int),(H:Int),l.getD i ((0,0),(0,0),0,0))=true from c2,if_neg (by decide),lO hi hl]
  ·subst hj
   refine ⟨?_,_,?_,rfl⟩
   ·unfold jV
    intro q
    dsimp only at q;omega
   ·unfold dQ
    dsimp only
    rw [if_neg (by omega)]
 have k2:TR (dR ((W:Int),(H:Int),l)) (jW ((W:Int),(H:Int),l)) ([],0) fun r=>r=owns W l (W*H):=by
  refine bg H (fun y s=>s=((owns W l (W*H)).take (y*W),(y:Int))) _ (fun y s hy hj=> ?_) (fun s hj=> ?_) (by rw [Nat.zero_mul];rfl)
  ·subst hj
   have key:=ah4 hw hh l hl hR y hy
   refine ⟨?_,.inl ⟨_,?_,rfl⟩⟩
   ·unfold jW
    intro _
    exact key.1
   ·unfold dR aq
    dsimp only
    rw [if_pos (by omega),key.2]
    dsimp only
    rw [lO hy (by omega)]
  ·subst hj
   refine ⟨?_,_,?_,rfl⟩
   ·unfold jW
    intro q
    dsimp only at q;omega
   ·unfold dR
    dsimp only
    rw [if_neg (by omega),List.take_of_length_le (by rw [KW,Nat.mul_comm];exact Nat.le_refl _)]
 unfold nX uk az aq
 dsimp only
 rw [if_neg (by omega),if_neg (by omega),if_neg (by omega),if_neg (by omega),k0.2]
 refine ⟨fun _ _ _ _=>⟨k0.1,k2.1⟩,?_⟩
 show (run (dR ((W:Int),(H:Int),l)) ([],0),(0:Int))=_
 rw [k2.2]
end
end Go.Proofs.YtfgdjlhilladhaaGreat
