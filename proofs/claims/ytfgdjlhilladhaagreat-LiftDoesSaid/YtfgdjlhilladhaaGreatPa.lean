/- Plain laws: sums, products and order of numbers as digits; fractions compared by them. -/
import Derived.Test.YtfgdjlhilladhaaGreatHn
import Derived.Test.YtfgdjlhilladhaaGreatDb0
import Derived.Test.YtfgdjlhilladhaaGreatQa
noncomputable section
set_option linter.unusedSectionVars false
set_option linter.unusedVariables false
set_option linter.unusedSimpArgs false
namespace Go.Proofs.YtfgdjlhilladhaaGreat
open Go Go.Ev Go.Proofs
theorem Y8 (a b:List Int):aI (a.length:Int) (b.length:Int)=((max a.length b.length:Nat):Int):=by unfold aI;split<;>omega
theorem afM (a b:Bool×List Int) (ha:rh a.2) (hb:rh b.2) (la:a.2.length<1000) (lb:b.2.length<1000):vF (a,b)/\ (Gn (a,b)>=0↔V b.2<=V a.2):=by
 obtain ⟨h1,h2⟩:=cV (step:=gX (a,b)) (pre:=tf (a,b)) (fun s=> ∃k:Nat,s=(k:Int)- 1/\ k<1000/\ V (a.2.drop k)=V (b.2.drop k)) (fun s=>(s+1).toNat)
  (fun r=>match r with| .inl v=>(v= -1/\ V a.2<V b.2)\/ (v=1/\ V b.2<V a.2)| .inr _=>V a.2=V b.2) (fun s ⟨k,e,hk,hz⟩=>by
   subst e
   match k with
   |0=>
    refine ⟨fun h=>absurd h (by decide),fun s' h=> ?_,fun r h=> ?_⟩<;>unfold gX at h<;>rw [if_neg (by decide)] at h
    ·cases h
    ·cases h
     simpa using hz
   |k+1=>
    have e:(((k+1:Nat):Int)- 1)=(k:Int):=by omega
    unfold gX tf
    dsimp only [aq,az]
    rw [e,(fC a k).2,(fC b k).2]
    have pa:=(fC a k).1
    have pb:=(fC b k).1
    refine ⟨fun _=>⟨pa,pb,fun _=>⟨pa,pb⟩⟩,?_⟩
    rw [if_pos (by omega)]
    have va:=VU a.2 k
    have vb:=VU b.2 k
    have sa:=Cz a.2 k
    have sb:=Cz b.2 k
    have ta:=FK ha k
    have tb:=FK hb k
    have hp:=DA k
    have key: ∀u v x y:Int,0<=x->y<10^k->u<v->y+10^k*u<x+10^k*v:=fun u v x y hx hy huv=>by
     have:=Int.mul_le_mul_of_nonneg_left (show u+1<=v by omega) (Int.le_of_lt hp)
     rw [Int.mul_add,Int.mul_one] at this
     omega
    refine ⟨fun s' h=> ?_,fun r h=> ?_⟩
    ·split at h
     ·cases h
     ·split at h
      ·cases h
      ·cases h
       refine ⟨⟨k,by rw [ay (by omega) (by omega)],by omega,?_⟩,by rw [ay (by omega) (by omega)];omega⟩
       rw [va,vb,hz];omega
    ·split at h
     ·rename_i hlt
      cases h
      refine .inl ⟨rfl,?_⟩
      rw [sa,sb]
      exact key _ _ _ _ tb.1 ta.2 (by rw [va,vb,hz];omega)
     ·split at h
      ·rename_i hgt
       cases h
       refine .inr ⟨rfl,?_⟩
       rw [sa,sb]
       exact key _ _ _ _ ta.1 tb.2 (by rw [va,vb,hz];omega)
      ·cases h) (aj ((aI (a.2.length:Int) (b.2.length:Int))- 1)) ⟨max a.2.length b.2.length,by rw [Y8,ay (by omega) (by omega)],by omega,by rw [List.drop_eq_nil_of_le (by omega),List.drop_eq_nil_of_le (by omega)]⟩
 refine ⟨h1,?_⟩
 unfold Gn
 dsimp only [aq]
 generalize run (gX (a,b)) _=r at h2 ⊢
 cases r with
 |inl v=>
  have h2:(v= -1/\ V a.2<V b.2)\/ (v=1/\ V b.2<V a.2):=h2
  show v>=0↔_
  omega
 |inr _=>
  have h2:V a.2=V b.2:=h2
  show (0:Int)>=0↔_
  omega
theorem Ud (a b:Bool×List Int) (ha:rh a.2) (hb:rh b.2) (la:a.2.length<1000) (lb:b.2.length<1000):vD (a,b)/\ V (vC (a,b))=V a.2+V b.2/\ rh (vC (a,b))/\ (vC (a,b)).length<=max a.2.length b.2.length+1:=by
 obtain ⟨h1,h2⟩:=cV (step:=mq (a,b)) (pre:=s9 (a,b))
  (fun s=> ∃k:Nat,s.2.2=k/\ k<=max a.2.length b.2.length+1/\ s.1.length=k/\ rh s.1/\ (0<=s.2.1/\ s.2.1<=1)/\ (k=max a.2.length b.2.length+1->s.2.1=0)/\ V s.1+10^k*s.2.1=V (a.2.take k)+V (b.2.take k))
  (fun s=>max a.2.length b.2.length+1- s.2.2.toNat) (fun r=>V r=V a.2+V b.2/\ rh r/\ r.length<=max a.2.length b.2.length+1) (fun s ⟨k,e,hk,hl,hd,hc,hz,hv⟩=>by
   obtain ⟨out,c,i⟩:=s
   dsimp only at e hl hd hc hz hv
   subst e
   unfold mq s9
   dsimp only [aq,az]
   rw [(fC a k).2,(fC b k).2,Y8,ay (n:=((max a.2.length b.2.length:Nat):Int)+1) (by omega) (by omega)]
   have da:=uZ ha k
   have db:=uZ hb k
   refine ⟨fun h=>⟨(fC a k).1,(fC b k).1,by omega⟩,fun s' h=> ?_,fun r h=> ?_⟩
   ·split at h
    ·rename_i hlt
     cases h
     rw [ay (n:=a.2.getD k 0+b.2.getD k 0) (by omega) (by omega),ay (n:=a.2.getD k 0+b.2.getD k 0+c) (by omega) (by omega),Int.tdiv_eq_ediv_of_nonneg (by omega),Int.tmod_eq_emod_of_nonneg (by omega),ay (n:=(k:Int)+1) (by omega) (by omega),ay (by omega) (by omega)]
     refine ⟨⟨k+1,by simp,by omega,by simp [hl],fun d hd'=> ?_,by dsimp only;omega,fun hk'=> ?_,?_⟩,by dsimp only;omega⟩
     ·rcases List.mem_append.1 hd' with h'|h'
      ·exact hd d h'
      ·rw [List.mem_singleton] at h';omega
     ·have z1:a.2.getD k 0=0:=Ki (by omega)
      have z2:b.2.getD k 0=0:=Ki (by omega)
      dsimp only
      omega
     ·rw [SY,hl,BG,BG,l9]
      simp only [V]
      have hx:=Int.mul_ediv_add_emod (a.2.getD k 0+b.2.getD k 0+c) 10
      generalize (a.2.getD k 0+b.2.getD k 0+c) / 10=q at*
      generalize (a.2.getD k 0+b.2.getD k 0+c) % 10=r at*
      generalize (10:Int)^k=t at*
      have:t*(10*q+r)=t*(a.2.getD k 0+b.2.getD k 0+c):=by rw [hx]
      grind
    ·cases h
   ·split at h
    ·cases h
    ·rename_i hge
     cases h
     have hk':k=max a.2.length b.2.length+1:=by omega
     have hc0:=hz hk'
     rw [hc0,Int.mul_zero,Int.add_zero,List.take_of_length_le (by omega),List.take_of_length_le (by omega)] at hv
     exact ⟨hv,hd,by omega⟩) ([],0,0) ⟨0,rfl,by omega,rfl,(fun d hd=>by cases hd),⟨by decide,by decide⟩,fun h=>by omega,by simp [V]⟩
 exact ⟨h1,h2⟩
theorem zN (a b:Bool×List Int) (ha:rh a.2) (hb:rh b.2) (la:a.2.length<1000) (lb:b.2.length<1000) (hle:V b.2<=V a.2):lI (a,b)/\ V (nY (a,b))=V a.2- V b.2/\ rh (nY (a,b))/\ (nY (a,b)).length<=1000:=by
 obtain ⟨h1,h2⟩:=cV (step:=kP (a,b)) (pre:=qN (a,b))
  (fun s=> ∃k:Nat,s.2.2=k/\ k<=a.2.length/\ s.1.length=k/\ rh s.1/\ (0<=s.2.1/\ s.2.1<=1)/\ V s.1=V (a.2.take k)- V (b.2.take k)+10^k*s.2.1)
  (fun s=>a.2.length- s.2.2.toNat) (fun r=>V r=V a.2- V b.2/\ rh r/\ r.length<=1000) (fun s ⟨k,e,hk,hl,hd,hc,hv⟩=>by
   obtain ⟨out,c,i⟩:=s
   dsimp only at e hl hd hc hv
   subst e
   unfold kP qN
   dsimp only [aq,az]
   rw [(fC a k).2,(fC b k).2]
   have da:=uZ ha k
   have db:=uZ hb k
   rw [ay (n:=a.2.getD k 0- b.2.getD k 0) (by omega) (by omega),ay (n:=a.2.getD k 0- b.2.getD k 0- c) (by omega) (by omega)]
   refine ⟨fun h=>⟨(fC a k).1,(fC b k).1,fun _=>by omega,fun _=>by omega⟩,fun s' h=> ?_,fun r h=> ?_⟩
   ·split at h
    ·rename_i hlt
     have key: ∀x c':Int,0<=x/\ x<=9->x- 10*c'=a.2.getD k 0- b.2.getD k 0- c->0<=c'/\ c'<=1->(∃k':Nat,(((k:Int)+1)=(k':Int))/\ k'<=a.2.length/\ (out++ [x]).length=k'/\ rh (out++ [x])/\ (0<=c'/\ c'<=1)/\ V (out++ [x])=V (a.2.take k')- V (b.2.take k')+10^k'*c'):=fun x c' hx hxc Wo=>by
      refine ⟨k+1,by simp,by omega,by simp [hl],fun d hd'=> ?_,Wo,?_⟩
      ·rcases List.mem_append.1 hd' with h'|h'
       ·exact hd d h'
       ·rw [List.mem_singleton] at h';omega
      ·rw [SY,hl,BG,BG,l9,hv]
       simp only [V]
       have:x=a.2.getD k 0- b.2.getD k 0- c+10*c':=by omega
       rw [this]
       grind
     split at h
     ·cases h
      rw [ay (n:=(k:Int)+1) (by omega) (by omega),ay (by omega) (by omega)]
      exact ⟨key _ 1 (by omega) (by omega) (by omega),by dsimp only;omega⟩
     ·cases h
      rw [ay (n:=(k:Int)+1) (by omega) (by omega)]
      exact ⟨key _ 0 (by omega) (by omega) (by omega),by dsimp only;omega⟩
    ·cases h
   ·split at h
    ·split at h<;>cases h
    ·rename_i hge
     cases h
     have hk':k=a.2.length:=by omega
     have sb:=Cz b.2 k
     have tb:=FK hb k
     have dn:=M3 (agT hb k).nn
     have va:=agC ha
     have vo:=agC hd
     rw [hl] at vo
     rw [<- hk'] at va
     have hp:=DA k
     rw [List.take_of_length_le (by omega)] at hv
     have hdz:V (b.2.drop k)=0:=by
      rcases Int.lt_or_eq_of_le dn with h|h
      ·have:=Int.mul_le_mul_of_nonneg_left (show (1:Int)≤V (b.2.drop k) by omega) (Int.le_of_lt hp)
       omega
      ·exact h.symm
     rw [hdz,Int.mul_zero,Int.add_zero] at sb
     have hc0:c=0:=by
      have:c=0\/ c=1:=by omega
      rcases this with h|h
      ·exact h
      ·rw [h,Int.mul_one] at hv;omega
     rw [hc0,Int.mul_zero,Int.add_zero,<- sb] at hv
     exact ⟨hv,hd,by omega⟩) ([],0,0) ⟨0,rfl,by omega,rfl,(fun d hd=>by cases hd),⟨by decide,by decide⟩,by simp [V]⟩
 exact ⟨h1,h2⟩
def NY (a:Bool×List Int):Int:=if a.1=true then-V a.2 else V a.2
theorem ZY (a b:Bool×List Int) (ha:rh a.2) (hb:rh b.2) (la:a.2.length<1000) (lb:b.2.length<1000):lJ (a,b)/\ (qO (a,b)).1=decide (NY a+NY b<0):=by
 obtain ⟨p1,p2,p3,p4⟩:=Ud a b ha hb la lb
 obtain ⟨z1,z2⟩:=afM a b ha hb la lb
 have na:=M3 ha.nn
 have nb:=M3 hb.nn
 have tr: ∀(s:Bool) (d:List Int),rh d->d.length<=1000->b8 (s,d)/\ (gh (s,d)).1=(s&&decide (0<V d)):=fun s d hd hl=>by
  obtain ⟨t1,d',t2,_⟩:=zb s d hd.nn (by omega)
  exact ⟨t1,by rw [t2]⟩
 refine ⟨⟨fun _=>⟨p1,(tr _ _ p3 (by omega)).1⟩,fun _=>⟨z1,fun h=> ?_,fun h=> ?_⟩⟩,?_⟩
 ·obtain ⟨m1,m2,m3,m4⟩:=zN a b ha hb la lb (z2.1 h)
  exact ⟨m1,(tr _ _ m3 m4).1⟩
 ·obtain ⟨m1,m2,m3,m4⟩:=zN b a hb ha lb la (by have: ¬V b.2≤V a.2:=fun hh=>h (z2.2 hh);omega)
  exact ⟨m1,(tr _ _ m3 m4).1⟩
 ·unfold qO NY
  dsimp only [aq]
  split
  ·rename_i hs
   rw [(tr _ _ p3 (by omega)).2,p2]
   have hs:a.1=b.1:=by simpa using hs
   rw [<- hs]
   cases a.1
   ·simp;omega
   ·simp;omega
  ·rename_i hs
   split
   ·rename_i h
    have hle:=z2.1 h
    obtain ⟨m1,m2,m3,m4⟩:=zN a b ha hb la lb hle
    rw [(tr _ _ m3 m4).2,m2]
    cases ea:a.1<;>cases eb:b.1<;>rw [ea,eb] at hs<;>simp at hs ⊢ <;>omega
   ·rename_i h
    have hle: ¬V b.2<=V a.2:=fun hh=>h (z2.2 hh)
    obtain ⟨m1,m2,m3,m4⟩:=zN b a hb ha lb la (by omega)
    rw [(tr _ _ m3 m4).2,m2]
    cases ea:a.1<;>cases eb:b.1<;>rw [ea,eb] at hs<;>simp at hs ⊢ <;>omega
theorem KG (a b:Bool×List Int) (ha:rh a.2) (hb:rh b.2) (la:a.2.length<1000) (lb:b.2.length<1000):qM (a,b)/\ Cd (a,b)=decide (NY a<NY b):=by
 obtain ⟨t1,d,t2,t3,t4,t5⟩:=zb (!b.1) b.2 hb.nn (by omega)
 have ho:p9 b=((!b.1)&&decide (0<V b.2),d):=by unfold p9;dsimp only [aq];exact t2
 have hd:rh d:=fun x hx=>hb x (t4 x hx)
 obtain ⟨s1,s2⟩:=ZY a ((!b.1)&&decide (0<V b.2),d) ha hd la (by dsimp only;omega)
 have nb:=M3 hb.nn
 have hv:NY ((!b.1)&&decide (0<V b.2),d)= -NY b:=by
  unfold NY
  dsimp only
  rw [t3]
  cases b.1<;>simp<;>omega
 refine ⟨⟨t1,?_⟩,?_⟩
 ·unfold az
  rw [ho]
  exact s1
 ·unfold Cd
  dsimp only [aq]
  rw [ho,s2,hv,Bool.eq_iff_iff,decide_eq_true_iff,decide_eq_true_iff];omega
theorem ake (a b:Bool×List Int) (ha:rh a.2) (hb:rh b.2) (la:a.2.length<900) (lb:b.2.length<900) (h1:a.1=false) (h2:b.1=false):
  lJ (a,b)/\ NY (qO (a,b))=NY a+NY b/\ rh (qO (a,b)).2/\ (qO (a,b)).2.length<1000:=by
 obtain ⟨p1,p2,p3,p4⟩:=Ud a b ha hb (by omega) (by omega)
 obtain ⟨t1,d,t2,t3,t4,t5⟩:=zb a.1 (vC (a,b)) p3.nn (by omega)
 refine ⟨(ZY a b ha hb (by omega) (by omega)).1,?_⟩
 have e:qO (a,b)=gh (a.1,vC (a,b)):=by
  unfold qO
  dsimp only [aq]
  rw [if_pos (by rw [h1,h2];rfl)]
 rw [e,t2,h1]
 refine ⟨?_,fun x hx=>p3 x (t4 x hx),by dsimp only;omega⟩
 unfold NY
 rw [h1,h2]
 dsimp only
 rw [if_neg (by simp),if_neg (by decide),if_neg (by decide),t3,p2]
theorem Ga {n:Int} (h:0<=n) (h2:n<=1000000):cM n/\ NY (cL n)=n/\ rh (cL n).2/\ (cL n).2.length<900/\ (cL n).1=false:=by
 obtain ⟨o1,d,o2,o3,o4,o5⟩:=OP n (by omega) (by omega)
 rw [o2]
 refine ⟨o1,?_,o4,by dsimp only;omega,decide_eq_false (by omega)⟩
 unfold NY
 dsimp only
 rw [if_neg (by rw [decide_eq_true_iff];omega),o3];omega
theorem aji {α:Type} {v:α} {f:α->Prop} (h:f v):az v f:=h
theorem aaH {α β:Type} (v:α) (f:α->β):aq v f=f v:=rfl
theorem Ua {a n b:Int} (ha:0<=a/\ a<=1000) (hn:0<=n/\ n<=1000) (hb:0<=b/\ b<=1000):oS (a,n,b)/\ Ac (a,n,b)=decide (a+n<=b):=by
 obtain ⟨x1,x2,x3,x4,x5⟩:=Ga ha.1 (by omega)
 obtain ⟨y1,y2,y3,y4,y5⟩:=Ga hn.1 (by omega)
 obtain ⟨z1,z2,z3,z4,z5⟩:=Ga hb.1 (by omega)
 obtain ⟨s1,s2,s3,s4⟩:=ake _ _ x3 y3 x4 y4 x5 y5
 obtain ⟨l1,l2⟩:=KG _ _ z3 s3 (by omega) s4
 unfold oS Ac
 dsimp only [az,aq]
 refine ⟨⟨x1,y1,s1,z1,l1⟩,?_⟩
 rw [l2,s2,x2,y2,z2,Bool.eq_iff_iff,Bool.not_eq_true',decide_eq_false_iff_not,decide_eq_true_iff];omega
theorem JO {a n b m:Int} (ha:0<=a/\ a<=1000) (hn:1<=n/\ n<=1000) (hb:0<=b/\ b<=1000) (hm:1<=m/\ m<=1000):nR (a,n,b,m)/\ qm (a,n,b,m)=(decide (a+n<=b)||decide (b+m<=a)):=by
 obtain ⟨x1,x2⟩:=Ua ha (n:=n) (by omega) hb
 obtain ⟨y1,y2⟩:=Ua hb (n:=m) (by omega) ha
 refine ⟨fun _ _=>⟨x1,aji fun _=>y1⟩,?_⟩
 unfold qm
 dsimp only
 rw [if_neg (by omega),if_neg (by omega),aaH,x2,aaH,y2]
 cases decide (a+n<=b)<;>rfl
theorem RX {w h:Int} (hw:pM w) (hh:pM h) {a b:JI} (ha:YB w h a) (hb:YB w h b):vz (a,b)/\ (ue (a,b)=true↔SV a b):=by
 obtain ⟨⟨a1,a2⟩,⟨a3,a4⟩,a5,a6⟩:=ha
 obtain ⟨⟨b1,b2⟩,⟨b3,b4⟩,b5,b6⟩:=hb
 obtain ⟨_,w2⟩:=hw
 obtain ⟨_,h2⟩:=hh
 obtain ⟨x1,x2⟩:=JO (a:=a.1) (n:=a.2.2.1) (b:=b.1) (m:=b.2.2.1) (by omega) (by omega) (by omega) (by omega)
 obtain ⟨y1,y2⟩:=JO (a:=a.2.1) (n:=a.2.2.2) (b:=b.2.1) (m:=b.2.2.2) (by omega) (by omega) (by omega) (by omega)
 refine ⟨⟨x1,aji fun _=>y1⟩,?_⟩
 unfold ue
 dsimp only
 rw [aaH,x2,aaH,y2]
 unfold SV
 by_cases c1:a.1+a.2.2.1<=b.1<;>by_cases c2:b.1+b.2.2.1<=a.1<;>simp [c1,c2]
theorem Nx (w h:Int) (hw:pM w) (hh:pM h) (r:JI):nj (w,h,r)=true↔YB w h r:=by
 obtain ⟨w1,w2⟩:=hw
 obtain ⟨h1,h2⟩:=hh
 unfold nj YB
 dsimp only
 by_cases c1:r.2.2.1>=1
 ·by_cases c2:r.2.2.2≥1
  ·by_cases c3:r.1≥0
   ·by_cases c4:r.2.1≥0
    ·by_cases c5:r.2.2.1≤w
     ·by_cases c6:r.2.2.2≤h
      ·rw [if_pos c1,if_pos c2,if_pos c3,if_pos c4,if_pos c5,if_pos c6,ay (n:=w- r.2.2.1) (by omega) (by omega),ay (n:=h- r.2.2.2) (by omega) (by omega)]
       by_cases c7:r.1<=w- r.2.2.1
       ·rw [if_pos c7,decide_eq_true_iff];omega
       ·rw [if_neg c7];exact ⟨fun q=>(by cases q),fun q=>absurd q (by omega)⟩
      ·rw [if_pos c1,if_pos c2,if_pos c3,if_pos c4,if_pos c5,if_neg c6];exact ⟨fun q=>(by cases q),fun q=>absurd q (by omega)⟩
     ·rw [if_pos c1,if_pos c2,if_pos c3,if_pos c4,if_neg c5];exact ⟨fun q=>(by cases q),fun q=>absurd q (by omega)⟩
    ·rw [if_pos c1,if_pos c2,if_pos c3,if_neg c4];exact ⟨fun q=>(by cases q),fun q=>absurd q (by omega)⟩
   ·rw [if_pos c1,if_pos c2,if_neg c3];exact ⟨fun q=>(by cases q),fun q=>absurd q (by omega)⟩
  ·rw [if_pos c1,if_neg c2];exact ⟨fun q=>(by cases q),fun q=>absurd q (by omega)⟩
 ·rw [if_neg c1];exact ⟨fun q=>(by cases q),fun q=>absurd q (by omega)⟩
end Go.Proofs.YtfgdjlhilladhaaGreat
namespace Go.Proofs.YtfgdjlhilladhaaGreat
open Go Go.Ev Go.Proofs
abbrev Cw (p:Int×(Int×Int)):Prop:=(-16384<=p.1/\ p.1<=16384)/\ (-16384<=p.2.1/\ p.2.1<=16384)/\ (-16384<=p.2.2/\ p.2.2<=16384)
theorem LZ (x:List (Int×Int×Int)) (hl:x.length<4611686018427387904):Cl x/\ LY x=decide (∀p∈x,Cw p):=by
 have hn: ∀a b c:Int,within (16384,[a,b,c])=decide (Cw (a,b,c)):=fun a b c=>by
  rw [(wG 16384 (by omega) (by omega) [a,b,c] (by simp)).2,Bool.eq_iff_iff];simp
 rw [<- xX (bad:=fun p=> !decide (Cw p)) (fun _=>rfl)]
 refine gG x hl _ _ _ (fun i hi=> ?_) (fun i v hv=> ?_) ?_
 ·unfold A8
  intro h
  simp only [Int.toNat_natCast]
  exact ⟨by omega,by omega,by omega,(wG 16384 (by omega) (by omega) _ (by simp)).1⟩
 ·have hlt:=bt hv
  unfold mL
  rw [if_pos (by omega),Int.toNat_natCast,cY hv]
  unfold aq
  rw [hn]
 ·unfold mL
  rw [if_neg (by omega)]
theorem SB (a b c:Int×(Int×Int)):LY [a,b,c]=decide (Cw a/\ Cw b/\ Cw c):=by
 rw [(LZ _ (by simp)).2,Bool.eq_iff_iff,decide_eq_true_iff,decide_eq_true_iff]
 simp only [List.mem_cons,List.not_mem_nil,or_false,forall_eq_or_imp,forall_eq]
end Go.Proofs.YtfgdjlhilladhaaGreat
