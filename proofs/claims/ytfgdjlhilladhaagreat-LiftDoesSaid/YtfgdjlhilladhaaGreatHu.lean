/- Plain laws: where a point is in a triangle, what is closest. -/
import Derived.Test.YtfgdjlhilladhaaGreatPb
import Derived.Test.YtfgdjlhilladhaaGreatPa
noncomputable section
set_option linter.unusedSectionVars false
set_option linter.unusedVariables false
set_option linter.unusedSimpArgs false
namespace Go.Proofs.YtfgdjlhilladhaaGreat
open Go Go.Ev Go.Proofs
theorem ql {p a b:Int×Int} (n:Int) (hp:Sm p) (ha:Sm a) (hb:Sm b):xT (p,a,b,sg n)=sg n*sg (c8 a b p):=by
 unfold xT
 rw [Ar,if_pos ⟨ha,hb,hp⟩]
 dsimp only [aq]
 rcases qX n with ⟨_,e⟩|⟨_,e⟩|⟨_,e⟩<;>rcases qX (c8 a b p) with ⟨_,f⟩|⟨_,f⟩|⟨_,f⟩<;>rw [e,f]<;>rfl
theorem Y7 (p a b c:Int×Int):mIn (p,a,b,c)=if Sm p then (if Right a b c then (InV p a b c,0) else (0,1)) else (0,5):=by
 unfold mIn
 dsimp only [aq]
 rw [qY,iA]
 by_cases hp:Sm p
 ·rw [decide_eq_true hp,if_neg (by decide),if_pos hp]
  by_cases hr:Right a b c
  ·rw [decide_eq_true hr,if_neg (by decide),if_pos hr,Ar,if_pos hr.1]
   dsimp only
   rw [ql _ hp hr.1.1 hr.1.2.1,ql _ hp hr.1.2.1 hr.1.2.2,ql _ hp hr.1.2.2 hr.1.1]
   have e1:sg (c8 a b c)*sg (c8 b c p)=Sd b c a p:=by unfold Sd;rw [e8 a b c]
   have e2:sg (c8 a b c)*sg (c8 c a p)=Sd c a b p:=by unfold Sd;rw [e8 b c a,e8 a b c]
   rw [e1,e2]
   have h1:=HS a b c p
   have h2:=HS b c a p
   have h3:=HS c a b p
   have e3:sg (c8 a b c)*sg (c8 a b p)=Sd a b c p:=rfl
   rw [e3,ay (by unfold aG;split<;>split<;>split<;>omega) (by unfold aG;split<;>split<;>split<;>omega)]
   rfl
  ·rw [decide_eq_false hr,if_pos (by decide),if_neg hr]
 ·rw [decide_eq_false hp,if_pos (by decide),if_neg hp]
theorem aeq (x:(Int×Int)×((Int×Int)×(Int×Int)×Int×Int)):Jj x:=
 ⟨(gp _ (by simp)).1,fun _=>⟨(bF _ _ _).1,fun _=>⟨(bF _ _ _).1,(bF _ _ _).1,(bF _ _ _).1,(bF _ _ _).1⟩⟩⟩
theorem zA {p a b:Int×Int} (hp:Sm p) (ha:Sm a) (hb:Sm b):Fr (w7 p a b).2.2/\ 0<=(w7 p a b).2.2.1:=by
 have s1:=Qz hp ha
 have s2:=Qz hp hb
 have s3:=Qz hb ha
 have dt:=iy ha hb hp
 have m3:=jz (a:=c8 a b p) (b:=c8 a b p) (A:=134217728) (B:=134217728) (by omega) (by omega) (by omega) (by omega)
 have m4:=sq_nonneg (c8 a b p)
 unfold w7
 split
 ·dsimp only;omega
 ·split
  ·dsimp only;omega
  ·dsimp only;omega
end Go.Proofs.YtfgdjlhilladhaaGreat
namespace Go.Proofs.YtfgdjlhilladhaaGreat
open Go Go.Ev Go.Proofs
theorem oD {l:List Int} {i:Nat} (v:Int) (h:i<l.length):(l.set i v).getD i 0=v:=by
 rw [List.getD_eq_getElem?_getD,List.getElem?_set_self h];rfl
theorem getD_set_ne {l:List Int} {i j:Nat} (v:Int) (h:i≠j):(l.set i v).getD j 0=l.getD j 0:=by
 rw [List.getD_eq_getElem?_getD,List.getElem?_set_ne h,List.getD_eq_getElem?_getD]
theorem NW: ∀(l:List Int) (i:Nat) (v:Int),i<l.length->V (l.set i v)=V l+10^i*(v- l.getD i 0)
 | [],i,v,h=>by simp at h
 |d::r,0,v,_=>by simp [V];omega
 |d::r,i+1,v,h=>by
  have ih:=NW r i v (by simpa using h)
  have e:(d::r).getD (i+1) 0=r.getD i 0:=rfl
  simp only [List.set_cons_succ,V,ih,l9,e];grind
theorem FI: ∀(l:List Int) (i:Nat) (v:Int),i<l.length->Su (l.set i v)=Su l+(v- l.getD i 0)
 | [],i,v,h=>by simp at h
 |d::r,0,v,_=>by simp [Su];omega
 |d::r,i+1,v,h=>by
  have ih:=FI r i v (by simpa using h)
  have e:(d::r).getD (i+1) 0=r.getD i 0:=rfl
  simp only [List.set_cons_succ,Su,ih,e];omega
theorem JH {l:List Int} {i:Nat} {v:Int} (h:Nn l) (hv:0<=v):Nn (l.set i v):=fun d hd=>by
 rcases List.mem_or_eq_of_mem_set hd with h1|h1
 ·exact h d h1
 ·omega
theorem akJ {l:List Int} (h:Nn l):0<=Su l:=by
 induction l with
 |nil=>exact Int.le_refl _
 |cons d r ih=>
  have h1:=h d (by simp)
  have h2:=ih fun x hx=>h x (by simp [hx])
  simp only [Su];omega
theorem C2: ∀ {l:List Int},Nn l-> ∀i:Nat,l.getD i 0<=Su l
 | [],_,i=>by simp [Su]
 |d::r,h,0=>by
  have:=akJ (l:=r) fun x hx=>h x (by simp [hx])
  simp [Su];omega
 |d::r,h,i+1=>by
  have h1:=h d (by simp)
  have:=C2 (l:=r) (fun x hx=>h x (by simp [hx])) i
  have e:(d::r).getD (i+1) 0=r.getD i 0:=rfl
  rw [e];simp only [Su];omega
theorem akK (n:Nat):V (List.replicate n 0)=0:=YE fun d hd=>(List.mem_replicate.1 hd).2
theorem aiU (n:Nat):Su (List.replicate n 0)=0:=by
 induction n with
 |zero=>rfl
 |succ n ih=>simp only [List.replicate_succ,Su,ih];rfl
def put (l:List Int) (j:Nat) (x:Int):List Int:=
 ((l.set j (l.getD j 0+x)).set (j+1) (l.getD (j+1) 0+(l.getD j 0+x) / 10)).set j ((l.getD j 0+x) % 10)
theorem ahH {l:List Int} {j:Nat} {x:Int} (hl:j+1<l.length) (hn:Nn l) (hx:0<=x):(put l j x).length=l.length/\ Nn (put l j x)/\ V (put l j x)=V l+10^j*x/\ Su (put l j x)<=Su l+x:=by
 have g0:=u5 hn j
 have g1:=u5 hn (j+1)
 unfold put
 refine ⟨by simp,JH (JH (JH hn (by omega)) (by omega)) (by omega),?_,?_⟩
 ·rw [NW _ _ _ (by simp;omega),NW _ _ _ (by simp;omega),NW _ _ _ (by omega),getD_set_ne _ (show j≠j+1 by omega),getD_set_ne _ (show j+1≠j by omega),oD _ (show j<l.length by omega),l9]
  have:=Int.mul_ediv_add_emod (l.getD j 0+x) 10
  generalize (l.getD j 0+x) / 10=q at*
  generalize (l.getD j 0+x) % 10=r at*
  have hr:r=l.getD j 0+x- 10*q:=by omega
  rw [hr];grind
 ·rw [FI _ _ _ (by simp;omega),FI _ _ _ (by simp;omega),FI _ _ _ (by omega),getD_set_ne _ (show j≠j+1 by omega),getD_set_ne _ (show j+1≠j by omega),oD _ (show j<l.length by omega)]
  omega
theorem aaR (a b:Bool×List Int) (ha:rh a.2) (hb:rh b.2) (la:a.2.length<1000) (lb:b.2.length<1000) (I:Nat) (hI:I<a.2.length) (out:List Int) (hl:out.length=a.2.length+b.2.length+1) (hn:Nn out) (hs:Su out<=1000000000):
  Term (cw (a,b)) (fa (a,b)) (out,(I:Int),0)/\ ∃out',run (cw (a,b)) (out,(I:Int),0)=(out',(I:Int))/\ out'.length=a.2.length+b.2.length+1/\ Nn out'/\ V out'=V out+10^I*(a.2.getD I 0*V b.2)/\ Su out'<=Su out+81*b.2.length:=by
 obtain ⟨h1,h2⟩:=cV (step:=cw (a,b)) (pre:=fa (a,b))
  (fun s=> ∃k:Nat,s.2.1=(I:Int)/\ s.2.2=k/\ k<=b.2.length/\ s.1.length=a.2.length+b.2.length+1/\ Nn s.1/\ V s.1=V out+10^I*(a.2.getD I 0*V (b.2.take k))/\ Su s.1<=Su out+81*k)
  (fun s=>b.2.length- s.2.2.toNat) (fun r=> ∃out',r=(out',(I:Int))/\ out'.length=a.2.length+b.2.length+1/\ Nn out'/\ V out'=V out+10^I*(a.2.getD I 0*V b.2)/\ Su out'<=Su out+81*b.2.length) (fun s ⟨k,e1,e2,hk,sl,sn,sv,ss⟩=>by
   obtain ⟨o,i,kk⟩:=s
   dsimp only at e1 e2 sl sn sv ss
   subst e1;subst e2
   have j1:aj ((I:Int)+(k:Int))=((I+k:Nat):Int):=by rw [ay (by omega) (by omega)];omega
   have j2:aj (((I+k:Nat):Int)+1)=((I+k+1:Nat):Int):=by rw [ay (by omega) (by omega)];omega
   unfold cw fa
   dsimp only [aq,az]
   refine ⟨fun h=> ?_,?_⟩
   ·simp only [j1,j2,Int.toNat_natCast,List.length_set];omega
   ·by_cases hlt:k<b.2.length
    ·have da:=uZ ha I
     have db:=uZ hb k
     have g0:=u5 sn (I+k)
     have g1:=u5 sn (I+k+1)
     have u0:=C2 sn (I+k)
     have u1:=C2 sn (I+k+1)
     have mm:=jz (a:=a.2.getD I 0) (b:=b.2.getD k 0) (A:=9) (B:=9) (by omega) (by omega) (by omega) (by omega)
     have m0:=Int.mul_nonneg da.1 db.1
     rw [if_pos (by omega)]
     refine ⟨fun s' h=> ?_,fun r h=>by cases h⟩
     have e:s'=(put o (I+k) (a.2.getD I 0*b.2.getD k 0),(I:Int),((k+1:Nat):Int)):=by
      cases h
      simp only [j1,j2,Int.toNat_natCast]
      rw [ay (n:=a.2.getD I 0*b.2.getD k 0) (by omega) (by omega),ay (n:=o.getD (I+k) 0+a.2.getD I 0*b.2.getD k 0) (by omega) (by omega)]
      rw [getD_set_ne _ (show I+k≠I+k+1 by omega),oD _ (show I+k<o.length by omega),getD_set_ne _ (show I+k+1≠I+k by omega),oD _ (show I+k<o.length by omega)]
      rw [Int.tdiv_eq_ediv_of_nonneg (by omega),Int.tmod_eq_emod_of_nonneg (by omega),ay (n:=(o.getD (I+k) 0+a.2.getD I 0*b.2.getD k 0) / 10) (by omega) (by omega),ay (n:=o.getD (I+k+1) 0+_) (by omega) (by omega),ay (n:=(k:Int)+1) (by omega) (by omega)]
      rfl
     subst e
     obtain ⟨p1,p2,p3,p4⟩:=ahH (l:=o) (j:=I+k) (x:=a.2.getD I 0*b.2.getD k 0) (by omega) sn m0
     refine ⟨⟨k+1,rfl,rfl,by omega,by dsimp only;omega,p2,?_,by dsimp only;omega⟩,by dsimp only;omega⟩
     dsimp only
     rw [p3,sv,BG,Int.pow_add];grind
    ·rw [if_neg (by omega)]
     refine ⟨(fun s' h=>by cases h),fun r h=> ?_⟩
     cases h
     have:k=b.2.length:=by omega
     subst this
     rw [List.take_of_length_le (Nat.le_refl _)] at sv
     exact ⟨o,rfl,sl,sn,sv,ss⟩) (out,(I:Int),0) ⟨0,rfl,rfl,by omega,hl,hn,by simp [V],by dsimp only;omega⟩
 exact ⟨h1,h2⟩
theorem abl (a b:Bool×List Int) (ha:rh a.2) (hb:rh b.2) (la:a.2.length<1000) (lb:b.2.length<1000):
  Term (bT (a,b)) (e9 (a,b)) (List.replicate (a.2.length+b.2.length+1) 0,0)/\ ∃out,run (bT (a,b)) (List.replicate (a.2.length+b.2.length+1) 0,0)=out/\ out.length=a.2.length+b.2.length+1/\ Nn out/\ V out=V a.2*V b.2/\ Su out<=100000000:=by
 have hm:(b.2.length:Int)*1000<=1000000:=by omega
 obtain ⟨h1,h2⟩:=cV (step:=bT (a,b)) (pre:=e9 (a,b))
  (fun s=> ∃k:Nat,s.2=(k:Int)/\ k<=a.2.length/\ s.1.length=a.2.length+b.2.length+1/\ Nn s.1/\ V s.1=V (a.2.take k)*V b.2/\ Su s.1<=81000*k)
  (fun s=>a.2.length- s.2.toNat) (fun out=>out.length=a.2.length+b.2.length+1/\ Nn out/\ V out=V a.2*V b.2/\ Su out<=100000000) (fun s ⟨k,e,hk,sl,sn,sv,ss⟩=>by
   obtain ⟨o,i⟩:=s
   dsimp only at e sl sn sv ss
   subst e
   unfold bT e9
   dsimp only [aq]
   by_cases hlt:k<a.2.length
   ·obtain ⟨i1,o',i2,i3,i4,i5,i6⟩:=aaR a b ha hb la lb k hlt o sl sn (by omega)
    refine ⟨fun _=>i1,?_⟩
    rw [if_pos (by omega),i2]
    refine ⟨fun s' h=> ?_,fun r h=>by cases h⟩
    cases h
    dsimp only
    rw [ay (by omega) (by omega)]
    refine ⟨⟨k+1,rfl,by omega,i3,i4,?_,by omega⟩,by omega⟩
    rw [i5,sv,BG];grind
   ·refine ⟨fun h=>by omega,?_⟩
    rw [if_neg (by omega)]
    refine ⟨(fun s' h=>by cases h),fun r h=> ?_⟩
    cases h
    have:k=a.2.length:=by omega
    subst this
    rw [List.take_of_length_le (Nat.le_refl _)] at sv
    exact ⟨sl,sn,sv,by omega⟩) (List.replicate (a.2.length+b.2.length+1) 0,0) ⟨0,rfl,by omega,by simp,fun d hd=>by rw [(List.mem_replicate.1 hd).2];exact Int.le_refl _,by simp [V,akK],by simp [aiU]⟩
 exact ⟨h1,_,rfl,h2⟩
theorem aiV {l:List Int} (h:Nn l) {n:Nat} (hl:l.length=n+1) (hv:V l<10^n):l.getD n 0=0:=by
 have h1:=Cz l n
 have h2:=VU l n
 rw [List.drop_eq_nil_of_le (show l.length<=n+1 by omega)] at h2
 have h3:=M3 (l:=l.take n) fun d hd=>h d (List.mem_of_mem_take hd)
 have h4:=u5 h n
 have hp:=DA n
 rcases Int.lt_or_eq_of_le h4 with h5|h5
 ·have:=Int.mul_le_mul_of_nonneg_left (show (1:Int)≤l.getD n 0 by omega) (Int.le_of_lt hp)
  rw [h2] at h1
  simp only [V,Int.mul_zero,Int.add_zero] at h1
  omega
 ·exact h5.symm
theorem aei (x:(Bool×List Int)×(Bool×List Int)) (out:List Int) (n:Nat) (hl:out.length=n+1) (hn:Nn out) (hs:Su out<=1000000000) (hnn:n<10000) (hv:V out<10^n):
  Term (bU x) (fb x) (out,0)/\ ∃out',run (bU x) (out,0)=out'/\ out'.length=n+1/\ V out'=V out/\ rh out':=by
 obtain ⟨h1,h2⟩:=cV (step:=bU x) (pre:=fb x)
  (fun s=> ∃k:Nat,s.2=(k:Int)/\ k<=n/\ s.1.length=n+1/\ Nn s.1/\ V s.1=V out/\ Su s.1<=Su out/\ ∀t,t<k->s.1.getD t 0<=9)
  (fun s=>n- s.2.toNat) (fun o=>o.length=n+1/\ V o=V out/\ rh o) (fun s ⟨k,e,hk,sl,sn,sv,ss,sd⟩=>by
   obtain ⟨o,i⟩:=s
   dsimp only at e sl sn sv ss sd
   subst e
   have j2:aj ((k:Int)+1)=((k+1:Nat):Int):=by rw [ay (by omega) (by omega)];omega
   unfold bU fb
   dsimp only [aq,az]
   rw [j2]
   refine ⟨fun h=> ?_,?_⟩
   ·simp only [Int.toNat_natCast,List.length_set];omega
   ·by_cases hlt:k<n
    ·rw [if_pos (by omega)]
     refine ⟨fun s' h=> ?_,fun r h=>by cases h⟩
     have g0:=u5 sn k
     have g1:=u5 sn (k+1)
     have u0:=C2 sn k
     have u1:=C2 sn (k+1)
     have e:s'=((o.set (k+1) (o.getD (k+1) 0+o.getD k 0 / 10)).set k (o.getD k 0 % 10),((k+1:Nat):Int)):=by
      cases h
      simp only [Int.toNat_natCast]
      rw [getD_set_ne _ (show k+1≠k by omega),Int.tdiv_eq_ediv_of_nonneg g0,Int.tmod_eq_emod_of_nonneg g0,ay (n:=o.getD k 0 / 10) (by omega) (by omega),ay (by omega) (by omega)]
     subst e
     refine ⟨⟨k+1,rfl,by omega,by simp [sl],JH (JH sn (by omega)) (by omega),?_,?_,fun t ht=> ?_⟩,by dsimp only;omega⟩
     ·dsimp only
      rw [NW _ _ _ (by simp;omega),NW _ _ _ (by omega),getD_set_ne _ (by omega),l9,sv]
      have:=Int.mul_ediv_add_emod (o.getD k 0) 10
      generalize o.getD k 0 / 10=q at*
      generalize o.getD k 0 % 10=r at*
      have hr:o.getD k 0=10*q+r:=by omega
      rw [hr];grind
     ·dsimp only
      rw [FI _ _ _ (by simp;omega),FI _ _ _ (by omega),getD_set_ne _ (by omega)]
      omega
     ·dsimp only
      by_cases hk':t=k
      ·subst hk'
       rw [oD _ (by simp;omega)];omega
      ·rw [getD_set_ne _ (by omega),getD_set_ne _ (by omega)]
       exact sd t (by omega)
    ·rw [if_neg (by omega)]
     refine ⟨(fun s' h=>by cases h),fun r h=> ?_⟩
     cases h
     have hkn:k=n:=by omega
     subst hkn
     have hz:=aiV sn sl (by rw [sv];exact hv)
     refine ⟨sl,sv,fun d hd=>⟨sn d hd,?_⟩⟩
     obtain ⟨t,ht,rfl⟩:=List.getElem_of_mem hd
     have e:o[t]=o.getD t 0:=by rw [List.getD_eq_getElem?_getD,List.getElem?_eq_getElem ht];rfl
     rw [e]
     by_cases htk:t<k
     ·exact sd t htk
     ·have:t=k:=by omega
      subst this
      omega) (out,0) ⟨0,rfl,by omega,hl,hn,rfl,Int.le_refl _,fun t ht=>by omega⟩
 exact ⟨h1,_,rfl,h2⟩
theorem QB (a b:Bool×List Int) (ha:rh a.2) (hb:rh b.2) (la:a.2.length<400) (lb:b.2.length<400):iu (a,b)/\ ∃z,mw (a,b)=z/\ NY z=NY a*NY b/\ rh z.2/\ z.2.length<1000:=by
 have e1:aj (aj ((a.2.length:Int)+(b.2.length:Int))+1)=((a.2.length+b.2.length+1:Nat):Int):=by
  rw [ay (n:=(a.2.length:Int)+(b.2.length:Int)) (by omega) (by omega),ay (by omega) (by omega)];omega
 obtain ⟨o1,out,o2,o3,o4,o5,o6⟩:=abl a b ha hb (by omega) (by omega)
 have va:=agC ha
 have vb:=agC hb
 have na:=M3 ha.nn
 have nb:=M3 hb.nn
 have hv:V out<10^(a.2.length+b.2.length):=by
  rw [o5,Int.pow_add]
  exact Int.lt_of_le_of_lt (Int.mul_le_mul_of_nonneg_left (Int.le_of_lt vb) na) (Int.mul_lt_mul_of_pos_right va (DA _))
 obtain ⟨l1,out',l2,l3,l4,l5⟩:=aei (a,b) out (a.2.length+b.2.length) o3 o4 (by omega) (by omega) hv
 obtain ⟨t1,d,t2,t3,t4,t5⟩:=zb (!(a.1==b.1)) out' l5.nn (by omega)
 refine ⟨?_,((!(a.1==b.1))&&decide (0<V out'),d),?_,?_,fun x hx=>l5 x (t4 x hx),by dsimp only;omega⟩
 ·unfold iu
  dsimp only [az]
  rw [e1,Int.toNat_natCast,o2,l2]
  exact ⟨by omega,o1,l1,t1⟩
 ·unfold mw
  dsimp only [aq]
  rw [e1,Int.toNat_natCast,o2,l2]
  exact t2
 ·have hm:=Int.mul_nonneg na nb
  unfold NY
  dsimp only
  rw [t3,l4,o5]
  by_cases hz:0<V a.2*V b.2
  ·cases a.1<;>cases b.1<;>simp [hz,Int.neg_mul,Int.mul_neg]
  ·have h0:V a.2*V b.2=0:=by omega
   cases a.1<;>cases b.1<;>simp [hz,h0,Int.neg_mul,Int.mul_neg]
theorem zX (n:Int) (h1: -9223372036854775808<=n) (h2:n<=9223372036854775807):cM n/\ ∃z,cL n=z/\ NY z=n/\ rh z.2/\ z.2.length<=19:=by
 obtain ⟨p,d,e,hv,hd,hl⟩:=OP n h1 h2
 refine ⟨p,_,e,?_,hd,hl⟩
 unfold NY
 dsimp only
 rw [hv]
 by_cases h:n<0
 ·rw [decide_eq_true h,if_pos rfl];omega
 ·rw [decide_eq_false h,if_neg (by decide)];omega
theorem amc (u v:Int):(if decide (u<v)=true then (-1:Int) else if decide (v<u)=true then 1 else 0)=sg (u- v):=by
 unfold sg
 simp only [decide_eq_true_eq]
 split<;>(try split)<;>(try split)<;>(try split)<;>omega
theorem qo {a b:Int×Int} (ha:Fr a) (hb:Fr b):qp (a,b)/\ Lv (a,b)=sg (a.1*b.2- b.1*a.2):=by
 have hr: ∀a:Int×Int,Fr a->Gq a=true:=fun a ha=>by
  unfold Gq
  rw [if_pos (by omega),if_pos (by omega),if_pos (by omega)]
  exact decide_eq_true (by omega)
 obtain ⟨p1,z1,e1,v1,d1,l1⟩:=zX a.1 (by omega) (by omega)
 obtain ⟨p2,z2,e2,v2,d2,l2⟩:=zX b.2 (by omega) (by omega)
 obtain ⟨p3,z3,e3,v3,d3,l3⟩:=zX b.1 (by omega) (by omega)
 obtain ⟨p4,z4,e4,v4,d4,l4⟩:=zX a.2 (by omega) (by omega)
 obtain ⟨q1,x,f1,w1,g1,m1⟩:=QB z1 z2 d1 d2 (by omega) (by omega)
 obtain ⟨q2,y,f2,w2,g2,m2⟩:=QB z3 z4 d3 d4 (by omega) (by omega)
 obtain ⟨s1,s2⟩:=KG x y g1 g2 m1 m2
 obtain ⟨s3,s4⟩:=KG y x g2 g1 m2 m1
 rw [w1,w2,v1,v2,v3,v4] at s2 s4
 refine ⟨?_,?_⟩
 ·unfold qp
  dsimp only [az]
  rw [e1,e2,e3,e4,f1,f2]
  exact fun _ _=>⟨p1,p2,q1,p3,p4,q2,s1,fun _=>s3⟩
 ·unfold Lv
  dsimp only [aq]
  rw [hr a ha,hr b hb,if_pos rfl,if_pos rfl,e1,e2,e3,e4,f1,f2,s2,s4]
  exact amc _ _
end Go.Proofs.YtfgdjlhilladhaaGreat
