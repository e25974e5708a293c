/- Plain laws: what is hit lies in each box that has it; a walk. -/
import Derived.Test.YtngdehlpoomaiaaGreatWb
import Derived.Test.YtngdehlpoomaiaaGreatVf
import Derived.Test.YtngdehlpoomaiaaGreatMd
noncomputable section
set_option linter.unusedSectionVars false
set_option linter.unusedVariables false
set_option linter.unusedSimpArgs false
namespace Go.Proofs.YtngdehlpoomaiaaGreat
open Go Go.Ev Go.Proofs
theorem anQ (a b t0 t1 t2:P3):kz t0 t1 t2 a- kz t0 t1 t2 b= -(kz a b t0 t1+kz a b t1 t2+kz a b t2 t0):=by
 unfold kz dt CR sb;dsimp only;grind
theorem as8 (a b t0 t1 t2:P3):kz t0 t1 t2 a*b.1- kz t0 t1 t2 b*a.1= -(kz a b t1 t2*t0.1+kz a b t2 t0*t1.1+kz a b t0 t1*t2.1):=by
 unfold kz dt CR sb;dsimp only;grind
theorem as9 (a b t0 t1 t2:P3):kz t0 t1 t2 a*b.2.1- kz t0 t1 t2 b*a.2.1= -(kz a b t1 t2*t0.2.1+kz a b t2 t0*t1.2.1+kz a b t0 t1*t2.2.1):=by
 unfold kz dt CR sb;dsimp only;grind
theorem ata (a b t0 t1 t2:P3):kz t0 t1 t2 a*b.2.2- kz t0 t1 t2 b*a.2.2= -(kz a b t1 t2*t0.2.2+kz a b t2 t0*t1.2.2+kz a b t0 t1*t2.2.2):=by
 unfold kz dt CR sb;dsimp only;grind
theorem UZ {x y r0 r1 r2 al bl t0 t1 t2 lo hi:Int} (hs:x- y=r0+r1+r2) (he:x*bl- y*al=r1*t0+r2*t1+r0*t2) (h0:0<=r0) (h1:0<=r1) (h2:0<=r2)
  (l0:lo<=t0) (l1:lo<=t1) (l2:lo<=t2) (u0:t0<=hi) (u1:t1<=hi) (u2:t2<=hi):lo*(x- y)<=al*(x- y)+x*(bl- al)/\ al*(x- y)+x*(bl- al)<=hi*(x- y):=by
 have e:al*(x- y)+x*(bl- al)=r1*t0+r2*t1+r0*t2:=by rw [<- he];grind
 rw [e,hs]
 have a1:=Int.mul_le_mul_of_nonneg_left l0 h1
 have a2:=Int.mul_le_mul_of_nonneg_left l1 h2
 have a3:=Int.mul_le_mul_of_nonneg_left l2 h0
 have b1:=Int.mul_le_mul_of_nonneg_left u0 h1
 have b2:=Int.mul_le_mul_of_nonneg_left u1 h2
 have b3:=Int.mul_le_mul_of_nonneg_left u2 h0
 have c1:lo*(r0+r1+r2)=r1*lo+r2*lo+r0*lo:=by grind
 have c2:hi*(r0+r1+r2)=r1*hi+r2*hi+r0*hi:=by grind
 rw [c1,c2]
 omega
theorem amy {a b:P3} {t:T3} {bx:B3} (h:Jd a b t) (hb: ∀p∈Js t,UJ bx.1 p/\ UJ p bx.2): ∃n d,0<d/\ 0<=n/\ n<=d/\ InB a b bx n d:=by
 obtain ⟨⟨l01,l02,l03⟩,u01,u02,u03⟩:=hb t.1 (by simp [Js])
 obtain ⟨⟨l11,l12,l13⟩,u11,u12,u13⟩:=hb t.2.1 (by simp [Js])
 obtain ⟨⟨l21,l22,l23⟩,u21,u22,u23⟩:=hb t.2.2 (by simp [Js])
 have es:=anQ a b t.1 t.2.1 t.2.2
 have ex:=as8 a b t.1 t.2.1 t.2.2
 have ey:=as9 a b t.1 t.2.1 t.2.2
 have ez:=ata a b t.1 t.2.1 t.2.2
 unfold Jd dI at h
 generalize kz t.1 t.2.1 t.2.2 a=x at*
 generalize kz t.1 t.2.1 t.2.2 b=y at*
 generalize kz a b t.1 t.2.1=r0 at*
 generalize kz a b t.2.1 t.2.2=r1 at*
 generalize kz a b t.2.2 t.1=r2 at*
 obtain ⟨hs,hr⟩:=h
 rcases hs with ⟨h1,h2⟩|⟨h1,h2⟩
 ·have hr:0≤r0∧0≤r1∧0≤r2:=by omega
  refine ⟨-x,y- x,by omega,by omega,by omega,fun i hi=> ?_⟩
  have k: ∀al bl t0 t1 t2 lo hi:Int,x*bl- y*al= -(r1*t0+r2*t1+r0*t2)->lo<=t0->lo<=t1->lo<=t2->t0<=hi->t1<=hi->t2<=hi->lo*(y- x)<=al*(y- x)+ -x*(bl- al)/\ al*(y- x)+ -x*(bl- al)<=hi*(y- x):=fun al bl t0 t1 t2 lo hi he a1 a2 a3 b1 b2 b3=>by
   have:=UZ (x:= -x) (y:= -y) (r0:=r0) (r1:=r1) (r2:=r2) (al:=al) (bl:=bl) (t0:=t0) (t1:=t1) (t2:=t2) (lo:=lo) (hi:=hi) (by omega) (by grind) hr.1 hr.2.1 hr.2.2 a1 a2 a3 b1 b2 b3
   rw [show-x- -y=y- x by omega] at this
   exact this
  match i,hi with
  |0,_=>exact k _ _ _ _ _ _ _ ex l01 l11 l21 u01 u11 u21
  |1,_=>exact k _ _ _ _ _ _ _ ey l02 l12 l22 u02 u12 u22
  |2,_=>exact k _ _ _ _ _ _ _ ez l03 l13 l23 u03 u13 u23
 ·have hr:r0≤0∧r1≤0∧r2≤0:=by omega
  refine ⟨x,x- y,by omega,by omega,by omega,fun i hi=> ?_⟩
  have k: ∀al bl t0 t1 t2 lo hi:Int,x*bl- y*al= -(r1*t0+r2*t1+r0*t2)->lo<=t0->lo<=t1->lo<=t2->t0<=hi->t1<=hi->t2<=hi->lo*(x- y)<=al*(x- y)+x*(bl- al)/\ al*(x- y)+x*(bl- al)<=hi*(x- y):=fun al bl t0 t1 t2 lo hi he a1 a2 a3 b1 b2 b3=>
   UZ (r0:= -r0) (r1:= -r1) (r2:= -r2) (by omega) (by grind) (by omega) (by omega) (by omega) a1 a2 a3 b1 b2 b3
  match i,hi with
  |0,_=>exact k _ _ _ _ _ _ _ ex l01 l11 l21 u01 u11 u21
  |1,_=>exact k _ _ _ _ _ _ _ ey l02 l12 l22 u02 u12 u22
  |2,_=>exact k _ _ _ _ _ _ _ ez l03 l13 l23 u03 u13 u23
end Go.Proofs.YtngdehlpoomaiaaGreat
namespace Go.Proofs.YtngdehlpoomaiaaGreat
open Go Go.Ev Go.Proofs
abbrev arl:Type:=List zy×(List T3×P3×P3)
def oX (L:List T3) (a b:P3) (pl:List Int):Prop:= ∃i∈pl,Jd a b (L.getD i.toNat zT)
instance (L:List T3) (a b:P3) (pl:List Int):Decidable (oX L a b pl):=Classical.propDecidable _
theorem aj4 {L:List T3} (hs:tF L) {i:Int} (h:0<=i/\ i<(L.length:Int)):SmT (L.getD i.toNat zT):=by
 have hm:=hs _ (dW (show i.toNat<L.length by omega) zT)
 exact ⟨hm _ (by simp [Js]),hm _ (by simp [Js]),hm _ (by simp [Js])⟩
theorem Sl {G:List zy} {L:List T3} {a b:P3} (hs:tF L) (ha:dB a) (hb:dB b) {pl:List Int} (hi:Uz L pl) (hl:pl.length<=1000):
  sN (pl,G,L,a,b)/\ (zL (pl,G,L,a,b)=true↔oX L a b pl):=by
 have hit: ∀i∈pl,z9 ((G,L,a,b),i)/\ Pt ((G,L,a,b),i)=decide (Jd a b (L.getD i.toNat zT)):=fun i hm=>by
  have h:=hi i hm
  obtain ⟨h1,h2⟩:=amv ha hb (aj4 hs h)
  unfold z9 Pt ak
  dsimp only
  have e:aim (a,b,L.getD i.toNat (((0:Int),(0:Int),(0:Int)),((0:Int),(0:Int),(0:Int)),(0:Int),(0:Int),(0:Int)))=_:=h2
  rw [e]
  exact ⟨⟨h,by omega,by omega,h1⟩,rfl⟩
 have hh:=qD pl (by omega) (fun i=>Pt ((G,L,a,b),i)) (jw (pl,G,L,a,b)) (sW (pl,G,L,a,b)) (fun i hi=>by
   unfold sW
   intro h
   simp only [Int.toNat_natCast]
   dsimp only at h ⊢
   exact ⟨by omega,by omega,by omega,(hit _ (dW (by omega) 0)).1⟩) (fun i x hx=>by
   have hlt:=cz hx
   unfold jw ak
   dsimp only
   rw [if_pos (by omega),Int.toNat_natCast,gW hx]) (by
   unfold jw
   dsimp only
   rw [if_neg (by omega)])
 refine ⟨hh.1,?_⟩
 have e:ZE (pl,G,L,a,b)=_:=hh.2
 unfold zL ak
 rw [e]
 refine (iff_of_eq (congrArg (fun b:Bool=>b=true) (xD pl fun i=>Pt ((G,L,a,b),i)))).trans ?_
 rw [List.any_eq_true]
 unfold oX
 constructor
 ·rintro ⟨i,h1,h2⟩
  rw [(hit i h1).2] at h2
  exact ⟨i,h1,of_decide_eq_true h2⟩
 ·rintro ⟨i,h1,h2⟩
  exact ⟨i,h1,by rw [(hit i h1).2];exact decide_eq_true h2⟩
theorem NY {x:arl} {k c:Nat} {T:List Int} (hk:k<x.1.length) (hT:T.length<=20000) (hx:x.1.length<=10000) (hc:c<=100000)
  (h1:qH (x.2.2.1,x.2.2.2,(x.1.getD k zB).1)) (h2:(x.1.getD k zB).2.1=0->sN ((x.1.getD k zB).2.2.2,x)):
  ij x ((c:Int),T++ [(k:Int)])/\ cW x ((c:Int),T++ [(k:Int)])=
   (if (ye (x.2.2.1,x.2.2.2,(x.1.getD k zB).1)).1=true then (if (x.1.getD k zB).2.1=0 then (if zL ((x.1.getD k zB).2.2.2,x)=true then .inr (.inl ((c+1:Nat):Int)) else .inl (((c+1:Nat):Int),T))
    else .inl (((c+1:Nat):Int),T++ [(x.1.getD k zB).2.2.1,(x.1.getD k zB).2.1])) else .inl (((c+1:Nat):Int),T)):=by
 have e0:(((T++ [(k:Int)]).length:Nat):Int)=(T.length:Int)+1:=by simp
 have e1:au ((((T++ [(k:Int)]).length:Nat):Int)- 1)=(T.length:Int):=by rw [e0,ax (by omega) (by omega)];omega
 have e2:(T++ [(k:Int)]).getD T.length 0=(k:Int):=by simp
 have e3:(T++ [(k:Int)]).take T.length=T:=by simp
 have e4:au ((c:Int)+1)=((c+1:Nat):Int):=by rw [ax (by omega) (by omega)];rfl
 dsimp only [ij,cW,kV,Tr.val,Tr.pre];(try dsimp only [az,ak])
 rw [e1]
 simp only [Int.toNat_natCast]
 rw [e2,e3,e4]
 simp only [Int.toNat_natCast]
 constructor
 ·intro _
  refine ⟨⟨by omega,by omega⟩,by simp,by simp,⟨by omega,by omega⟩,hk,hk,⟨by omega,by omega⟩,h1,fun _=>⟨fun q=>h2 (by simpa using q),fun _=>by omega⟩⟩
 ·rw [if_pos (by omega)]
  show (if (!(ye (x.2.2.1,x.2.2.2,(x.1.getD k zB).1)).1)=true then _ else _)=_
  cases (ye (x.2.2.1,x.2.2.2,(x.1.getD k zB).1)).1 with
  |false=>rfl
  |true=>
   rw [if_neg (by decide),if_pos rfl]
   by_cases hz:(x.1.getD k zB).2.1=0
   ·rw [if_pos hz]
    exact if_pos (by simpa using hz)
   ·rw [if_neg hz]
    exact if_neg (by simpa using hz)
theorem akR (x:arl) (c:Int):ij x (c,[])/\ cW x (c,[])= .inr (.inr c):=by
 constructor
 ·dsimp only [ij,kV,Tr.val,Tr.pre];(try dsimp only [az,ak])
  intro h
  exact absurd (show (0:Int)>0 from h) (by decide)
 ·dsimp only [cW,kV,Tr.val,Tr.pre];(try dsimp only [az,ak])
  exact if_neg (show¬(0:Int)>0 by decide)
theorem oX.mono {L:List T3} {a b:P3} {l m:List Int} (h:oX L a b l) (hs: ∀i∈l,i∈m):oX L a b m:=by
 obtain ⟨i,h1,h2⟩:=h
 exact ⟨i,hs i h1,h2⟩
theorem O4 {L:List T3} (hs:tF L) {a b:P3} (ha:dB a) (hb:dB b) {pl:List Int} (hi:Uz L pl) (hl:pl.length<=1000) (h0:pl≠ []):
  qH (a,b,gH (L,pl))/\ (oX L a b pl->(ye (a,b,gH (L,pl))).1=true):=by
 have hB:=abL hs hi (by omega) h0
 obtain ⟨⟨s1,s2⟩,s3⟩:=hB.is (Mc hs hi)
 obtain ⟨m1,m2⟩:=ae1 ha hb s1 s2 s3
 refine ⟨m1,fun ⟨i,h1,h2⟩=>m2 (amy h2 fun p hp=> ?_)⟩
 have hpt:p∈qM L pl:=List.mem_flatMap.2 ⟨i,h1,hp⟩
 exact ⟨hB.low p hpt,hB.high p hpt⟩
theorem akT {L:List T3} (hs:tF L) {a b:P3} (ha:dB a) (hb:dB b) {H:List zy} (hH:H.length<=10000) {s:Nat} {par:Int} {pl:List Int} {G:List zy} {N:List (List Int)} {U:List Int} (ht:lE L s par pl G N U):
  Uz L pl->pl.length<=1000->pl≠ []->(∀k,k<G.length->H.getD (s+k) zB=G.getD k zB)->s+G.length<=H.length-> ∀(c:Nat) (T:List Int) (Post:Int⊕Int->Prop),c+G.length<=100000->T.length+G.length<=20000->
   (∀m:Nat,1<=m->m<=G.length->(oX L a b pl->Post (.inl ((c+m:Nat):Int)))/\ (¬oX L a b pl->TR (cW (H,L,a,b)) (ij (H,L,a,b)) (((c+m:Nat):Int),T) Post))->
   TR (cW (H,L,a,b)) (ij (H,L,a,b)) ((c:Int),T++ [(s:Int)]) Post:=by
 induction ht with
 |leaf s par pl h2=>
  intro hi hl h0 hH2 UF c T Post hc hT hP
  have e:=hH2 0 (by simp)
  simp only [List.length_singleton] at UF hc hT hP
  rw [Nat.add_zero,show ([(gH (L,pl),(0:Int),(0:Int),pl)]:List zy).getD 0 zB=(gH (L,pl),0,0,pl) from rfl] at e
  obtain ⟨m1,m2⟩:=O4 hs ha hb hi hl h0
  obtain ⟨c1,c2⟩:=Sl (G:=H) hs ha hb hi hl
  obtain ⟨r1,r2⟩:=NY (x:=(H,L,a,b)) (k:=s) (c:=c) (T:=T) (by dsimp only;omega) (by omega) hH (by omega) (by dsimp only;rw [e];exact m1) (fun _=>by dsimp only;rw [e];exact c1)
  dsimp only at r2
  rw [e] at r2
  dsimp only at r2
  rw [if_pos rfl] at r2
  obtain ⟨q1,q2⟩:=hP 1 (Nat.le_refl _) (Nat.le_refl _)
  by_cases hh:oX L a b pl
  ·rw [if_pos (m2 hh),if_pos (c2.2 hh)] at r2
   exact TR.stop r1 r2 (q1 hh)
  ·refine TR.go r1 ?_ (q2 hh)
   rw [r2]
   split
   ·rw [if_neg fun q=>hh (c2.1 q)]
   ·rfl
 |fork s par pl A0 B0 A B NA NB UA UB h2 hp hla hlb he hA hB UG UH=>
  intro hi hl h0 hH2 UF c T Post hc hT hP
  have hlen:((gH (L,pl),((s+1:Nat):Int),((s+1+A.length:Nat):Int),([]:List Int))::(A++B)).length=1+A.length+B.length:=by simp;omega
  rw [hlen] at UF hc hT hP hH2
  have e:=hH2 0 (by omega)
  rw [Nat.add_zero,show ((gH (L,pl),((s+1:Nat):Int),((s+1+A.length:Nat):Int),([]:List Int))::(A++B)).getD 0 zB=(gH (L,pl),((s+1:Nat):Int),((s+1+A.length:Nat):Int),[]) from rfl] at e
  have sA: ∀i∈A0,i∈pl:=fun i h=>hp.mem_iff.1 (List.mem_append.2 (.inl h))
  have sB: ∀i∈B0,i∈pl:=fun i h=>hp.mem_iff.1 (List.mem_append.2 (.inr h))
  obtain ⟨m1,m2⟩:=O4 hs ha hb hi hl h0
  obtain ⟨r1,r2⟩:=NY (x:=(H,L,a,b)) (k:=s) (c:=c) (T:=T) (by dsimp only;omega) (by omega) hH (by omega) (by dsimp only;rw [e];exact m1) (fun q=>by
   dsimp only at q
   rw [e] at q
   dsimp only at q
   omega)
  dsimp only at r2
  rw [e] at r2
  dsimp only at r2
  rw [if_neg (show¬((s+1:Nat):Int)=0 by omega)] at r2
  by_cases hm:(ye (a,b,gH (L,pl))).1=true
  ·rw [if_pos hm] at r2
   refine TR.go r1 r2 ?_
   have eT:T++ [((s+1+A.length:Nat):Int),((s+1:Nat):Int)]=(T++ [((s+1+A.length:Nat):Int)])++ [((s+1:Nat):Int)]:=by simp
   rw [eT]
   refine UG (fun i h=>hi i (sA i h)) (by omega) (fun q=>by rw [q] at hla;simp at hla;omega) (fun k hk=> ?_) (by omega) (c+1) _ Post (by omega) (by simp;omega) fun m g1 g2=>⟨fun hh=> ?_,fun hn=> ?_⟩
   ·have:=hH2 (1+k) (by omega)
    rw [gdA hk zB] at this
    rw [<- this];congr 1;omega
   ·have:=(hP (1+m) (by omega) (by omega)).1 (hh.mono sA)
    rw [show c+1+m=c+(1+m) by omega];exact this
   ·refine UH (fun i h=>hi i (sB i h)) (by omega) (fun q=>by rw [q] at hlb;simp at hlb;omega) (fun k hk=> ?_) (by omega) (c+1+m) T Post (by omega) (by omega) fun m' g3 g4=> ?_
    ·have:=hH2 (1+A.length+k) (by omega)
     rw [gdB k _ rfl zB] at this
     rw [<- this];congr 1;omega
    ·have:=hP (1+m+m') (by omega) (by omega)
     rw [show c+1+m+m'=c+(1+m+m') by omega]
     refine ⟨fun hh=>this.1 (hh.mono sB),fun Jm=>this.2 fun ⟨i,q1,q2⟩=> ?_⟩
     rcases List.mem_append.1 (hp.mem_iff.2 q1) with q|q
     ·exact hn ⟨i,q,q2⟩
     ·exact Jm ⟨i,q,q2⟩
  ·rw [if_neg hm] at r2
   exact TR.go r1 r2 ((hP 1 (Nat.le_refl _) (by omega)).2 fun hh=>hm (m2 hh))
theorem akS {L:List T3} (hs:tF L) {a b:P3} (ha:dB a) (hb:dB b) {G:List zy} {N:List (List Int)} {U:List Int} (hG:G.length<=10000) {pl:List Int} (ht:lE L 0 (-1) pl G N U) (hi:Uz L pl) (hl:pl.length<=1000) (h0:pl≠ []):
  RP (G,L,a,b)/\ ∃m:Nat,1<=m/\ m<=G.length/\ akO (G,L,a,b)=(decide (oX L a b pl),(m:Int)):=by
 have key:=akT hs ha hb hG ht hi hl h0 (fun k _=>by rw [Nat.zero_add]) (by omega) 0 [] (fun r=> ∃m:Nat,1<=m/\ m<=G.length/\ ((oX L a b pl/\ r= .inl (m:Int))\/ (¬oX L a b pl/\ r= .inr (m:Int)))) (by omega) (by simp;omega) fun m g1 g2=>⟨fun hh=>⟨m,g1,g2,.inl ⟨hh,by rw [Nat.zero_add]⟩⟩,fun hh=>by
  obtain ⟨w1,w2⟩:=akR (G,L,a,b) ((0+m:Nat):Int)
  exact TR.stop w1 w2 ⟨m,g1,g2,.inr ⟨hh,by rw [Nat.zero_add]⟩⟩⟩
 refine ⟨key.1,?_⟩
 obtain ⟨m,g1,g2,hr⟩:=key.2
 refine ⟨m,g1,g2,?_⟩
 unfold akO ak
 have hr:(oX L a b pl/\ run (cW (G,L,a,b)) (0,[0])= .inl (m:Int))\/ (¬oX L a b pl/\ run (cW (G,L,a,b)) (0,[0])= .inr (m:Int)):=hr
 rcases hr with ⟨h1,h2⟩|⟨h1,h2⟩
 ·rw [h2]
  exact Prod.ext (decide_eq_true h1).symm rfl
 ·rw [h2]
  exact Prod.ext (decide_eq_false h1).symm rfl
end Go.Proofs.YtngdehlpoomaiaaGreat
namespace Go.Proofs.YtngdehlpoomaiaaGreat
open Go Go.Ev Go.Proofs
theorem Cy (t:T3):Cz t/\ (GV t=true↔ ¬ ∀p∈Js t,dB p):=by
 obtain ⟨s1,s2⟩:=gZ [t.1,t.2.1,t.2.2] (by simp)
 refine ⟨s1,?_⟩
 unfold GV ak
 rw [s2,Bool.not_eq_true',decide_eq_false_iff_not]
 exact Iff.rfl
theorem aa3 (L:List T3) (hl:L.length<4611686018427387904):Cx L/\ (GU L=true↔tF L):=by
 have hh:=qD L hl GV (jv (L,false)) (sV (L,false)) (fun i hi=>by
   unfold sV
   intro h
   simp only [Int.toNat_natCast]
   dsimp only at h ⊢
   exact ⟨by omega,by omega,by omega,(Cy _).1⟩) (fun i x hx=>by
   have hlt:=cz hx
   unfold jv ak
   dsimp only
   rw [if_pos (by omega),Int.toNat_natCast,gW hx]) (by
   unfold jv
   dsimp only
   rw [if_neg (by omega)])
 refine ⟨hh.1,?_⟩
 have e:ZD (L,false)=_:=hh.2
 unfold GU FZ ak
 dsimp only
 rw [e]
 have e2:=xD L GV
 refine (iff_of_eq (congrArg (fun b:Bool=>(!b)=true) e2)).trans ?_
 rw [Bool.not_eq_true',List.any_eq_false]
 unfold tF
 constructor
 ·intro h t ht
  have:=h t ht
  rw [(Cy t).2] at this
  exact Classical.byContradiction this
 ·intro h t ht
  rw [(Cy t).2]
  exact fun q=>q (h t ht)
def Oc (n:Nat):List Int:=(List.range n).map fun (i:Nat)=>(i:Int)
theorem Eh (n:Nat):(Oc n).length=n:=by simp [Oc]
theorem ajU (n:Nat):Oc (n+1)=Oc n++ [(n:Int)]:=by simp [Oc,List.range_succ]
theorem Ei (n:Nat) (x:Int):x∈Oc n↔0<=x/\ x<(n:Int):=by
 simp only [Oc,List.mem_map,List.mem_range]
 constructor
 ·rintro ⟨a,ha,rfl⟩;omega
 ·rintro ⟨h1,h2⟩;exact ⟨x.toNat,by omega,by omega⟩
theorem afN (n:Nat):(Oc n).Nodup:=by
 unfold Oc
 rw [List.nodup_iff_pairwise_ne,List.pairwise_map]
 exact (List.nodup_iff_pairwise_ne.1 List.nodup_range).imp fun h e=>h (by omega)
theorem YS (L:List T3) (hl:L.length<=1000):TR (fX L) (nq L) (List.replicate L.length 0,0) fun r=>r=Oc L.length:=by
 have hrl:(List.replicate L.length (0:Int)).length=L.length:=List.length_replicate
 refine cu L.length (fun i s=>s=(Oc i++List.replicate (L.length- i) 0,(i:Int))) _ (fun i s hi hJ=> ?_) (fun s hJ=> ?_) (by simp [Oc])
 ·subst hJ
  have hlen:(Oc i++List.replicate (L.length- i) (0:Int)).length=L.length:=by rw [List.length_append,Eh,List.length_replicate];omega
  have Zt:(Oc i++List.replicate (L.length- i) (0:Int)).set i (i:Int)=Oc (i+1)++List.replicate (L.length- (i+1)) 0:=by
   have e:L.length- i=(L.length- (i+1))+1:=by omega
   rw [e,List.replicate_succ,ajU]
   have:=T9 (Oc i) (List.replicate (L.length- (i+1)) (0:Int)) 0 (i:Int)
   rw [Eh] at this
   rw [this];simp
  refine ⟨?_,.inl ⟨_,?_,rfl⟩⟩
  ·unfold nq
   intro _
   dsimp only
   rw [Int.toNat_natCast,hlen];omega
  ·unfold fX ak
   dsimp only
   rw [hrl,if_pos (by omega),Int.toNat_natCast,Zt,adQ hi (by omega)]
 ·subst hJ
  refine ⟨?_,Oc L.length++List.replicate (L.length- L.length) 0,?_,by simp⟩
  ·unfold nq
   intro q
   dsimp only at q
   rw [hrl] at q;omega
  ·unfold fX
   dsimp only
   rw [hrl,if_neg (by omega)]
theorem KK (L:List T3) (hl:L.length<=12):mM L/\ ((¬tF L/\ jl L=([],5))\/ (tF L/\ ∃G N U,jl L=(G,0)/\ G.length<=1000/\ lE L 0 (-1) (Oc L.length) G N U)):=by
 obtain ⟨s1,s2⟩:=aa3 L (by omega)
 have k:=YS L (by omega)
 have hi:Uz L (Oc L.length):=fun i h=>(Ei _ _).1 h
 obtain ⟨g1,G,N,U,g2,g3,g4⟩:=ael (L:=L) (pl:=Oc L.length) [] hi (by rw [Eh];omega) (by simp)
 have hb: ¬((L.length:Nat):Int)>500:=by omega
 unfold mM jl az ak
 rw [if_neg hb]
 cases hs:GU L with
 |false=>
  exact ⟨fun _=>⟨s1,fun q=>absurd (by decide) q⟩,.inl ⟨fun q=>(by rw [s2.2 q] at hs;cases hs),rfl⟩⟩
 |true=>
  dsimp only
  rw [if_neg (by decide),k.2]
  rw [Eh] at g3
  refine ⟨fun _=>⟨s1,fun _=>⟨⟨by omega,by omega⟩,k.1,g1⟩⟩,.inr ⟨s2.1 hs,G,N,U,?_,by omega,g4⟩⟩
  rw [g2];rfl
end Go.Proofs.YtngdehlpoomaiaaGreat
namespace Go.Proofs.YtngdehlpoomaiaaGreat
open Go Go.Ev Go.Proofs
def nU (L:List T3) (a b:P3):Prop:= ∃t∈L,Jd a b t
instance (L:List T3) (a b:P3):Decidable (nU L a b):=by unfold nU;infer_instance
theorem amw (L:List T3) (a b:P3):oX L a b (Oc L.length)↔nU L a b:=by
 constructor
 ·rintro ⟨i,h1,h2⟩
  have h:=(Ei _ _).1 h1
  exact ⟨_,dW (show i.toNat<L.length by omega) zT,h2⟩
 ·rintro ⟨t,h1,h2⟩
  obtain ⟨i,hi,rfl⟩:=List.mem_iff_getElem.1 h1
  refine ⟨(i:Int),(Ei _ _).2 ⟨by omega,by omega⟩,?_⟩
  rw [Int.toNat_natCast,List.getD_eq_getElem?_getD,List.getElem?_eq_getElem hi]
  exact h2
theorem Sw (t:T3):La t/\ (aea t=true↔ ¬ ∀p∈Js t,dB p):=by
 obtain ⟨s1,s2⟩:=gZ [t.1,t.2.1,t.2.2] (by simp)
 refine ⟨s1,?_⟩
 unfold aea ak
 rw [s2]
 show (!decide (∀p∈Js t,dB p))=true↔_
 simp
theorem AW (L:List T3) (hl:L.length<4611686018427387904):AX (L,false)/\ (tK (L,false)=true↔ ¬tF L):=by
 have hh:=qD L hl aea (jt (L,false)) (sS (L,false)) (fun i hi=>by
   unfold sS
   intro h
   simp only [Int.toNat_natCast]
   dsimp only at h ⊢
   exact ⟨by omega,by omega,by omega,(Sw _).1⟩) (fun i x hx=>by
   have hlt:=cz hx
   unfold jt ak
   dsimp only
   rw [if_pos (by omega),Int.toNat_natCast,gW hx]) (by
   unfold jt
   dsimp only
   rw [if_neg (by omega)])
 refine ⟨hh.1,?_⟩
 have e:ZB (L,false)=_:=hh.2
 unfold tK ak
 dsimp only
 rw [e]
 refine (iff_of_eq (congrArg (fun b:Bool=>b=true) (xD L aea))).trans ?_
 rw [List.any_eq_true]
 unfold tF
 constructor
 ·rintro ⟨t,h1,h2⟩ h3
  exact (Sw t).2.1 h2 (h3 t h1)
 ·intro h
  refine Classical.byContradiction fun h2=>h fun t ht=>Classical.byContradiction fun h3=>h2 ⟨t,ht,(Sw t).2.2 h3⟩
theorem AY (L:List T3) (hl:L.length<4611686018427387904):j9 (L,false)/\ (mP (L,false)=true↔ ¬tF L):=AW L hl
theorem RR {L:List T3} (hs:tF L) (hl:L.length<=12) (a b:P3):uN ((jl L).1,L,a,b)/\
  ((¬(dB a/\ dB b)/\ RQ ((jl L).1,L,a,b)=(false,0,5))\/ ((dB a/\ dB b)/\ ∃m:Nat,1<=m/\ m<=(jl L).1.length/\ RQ ((jl L).1,L,a,b)=(decide (nU L a b),(m:Int),0))):=by
 obtain ⟨_,b2⟩:=KK L hl
 rcases b2 with ⟨q,_⟩|⟨_,G,N,U,e,hG,ht⟩
 ·exact absurd hs q
 rw [e]
 try dsimp only
 have hi:Uz L (Oc L.length):=fun i h=>(Ei _ _).1 h
 have hr:=Eh L.length
 obtain ⟨i1,i2⟩:=amR ht hi hs (by omega) (by omega) (by omega) (afN _) (fun j hj=>(Ei _ _).2 ⟨by omega,by omega⟩)
 obtain ⟨s1,s2⟩:=gZ [a,b] (by simp)
 obtain ⟨c1,c2⟩:=AW L (by omega)
 have c3:tK (L,false)=false:=by
  cases h:tK (L,false) with
  |false=>rfl
  |true=>exact absurd hs (c2.1 h)
 dsimp only [uN,RQ,Kg,Tr.val,Tr.pre];(try dsimp only [az,ak])
 rw [i2,c3,s2]
 by_cases hab:dB a/\ dB b
 ·have h1: ∀p∈ [a,b],dB p:=sm2 hab.1 hab.2
  rw [decide_eq_true h1]
  by_cases h0:L= []
  ·subst h0
   refine ⟨⟨i1,fun _=>⟨s1,fun _=>⟨c1,fun _ q=>absurd rfl q⟩⟩⟩,.inr ⟨hab,1,Nat.le_refl _,ht.facts.pos,?_⟩⟩
   rw [if_neg (by decide),if_neg (by decide),if_neg (by decide),if_pos (by rfl)]
   refine Prod.ext ?_ rfl
   exact (decide_eq_false (show¬nU [] a b from fun ⟨t,h,_⟩=>by cases h)).symm
  ·have hn: ¬((((L.length:Nat):Int)==0)=true):=by simpa using h0
   obtain ⟨w1,m,w2,w3,w4⟩:=akS hs hab.1 hab.2 (by omega) ht hi (by omega) (fun q=>by
    rw [q] at hr
    exact h0 (List.eq_nil_of_length_eq_zero hr.symm))
   refine ⟨⟨i1,fun _=>⟨s1,fun _=>⟨c1,fun _ _=>w1⟩⟩⟩,.inr ⟨hab,m,w2,w3,?_⟩⟩
   rw [if_neg (by decide),if_neg (by decide),if_neg (by decide),if_neg hn,w4]
   refine Prod.ext ?_ rfl
   try dsimp only
   rw [Bool.eq_iff_iff,decide_eq_true_eq,decide_eq_true_eq]
   exact amw L a b
 ·have h1: ¬ ∀p∈ [a,b],dB p:=fun q=>hab ⟨q a (by simp),q b (by simp)⟩
  rw [decide_eq_false h1]
  refine ⟨⟨i1,fun _=>⟨s1,fun q=>absurd rfl q⟩⟩,.inl ⟨hab,?_⟩⟩
  rw [if_neg (by decide),if_pos (by decide)]
def Cst (L:List T3) (dn:Int) (T:List zy):Prop:=dn=0\/ (dn=1/\ T=(jl L).1)
theorem Cst.pick {L:List T3} {dn:Int} {T:List zy} (h:Cst L dn T) (hl:L.length<=12):((decide (dn=0))||(decide (dn=1)))=true/\ HL dn (fI.base.pre L)/\ o7 dn (fI.base.YO L) T=(jl L).1:=by
 rcases h with rfl|⟨rfl,rfl⟩
 ·exact ⟨rfl,fun _=>(KK L hl).1,rfl⟩
 ·exact ⟨rfl,fun h=>absurd h (by decide),rfl⟩
theorem zJ (L:List T3) (hl:L.length<=500):uX L/\ KS L=L:=by
 dsimp only [uX,KS,C2,Tr.val,Tr.pre];(try dsimp only [az,ak])
 refine ⟨fun b hb=> ?_,rfl⟩
 cases b with
 |false=>exact ⟨rfl,fun _=>by omega⟩
 |true=>
  have:L= []:=by
   cases L with
   |nil=>rfl
   |cons x r=>exact absurd (hb (by simp)) (by decide)
  subst this
  exact ⟨rfl,fun q=>absurd rfl q⟩
end Go.Proofs.YtngdehlpoomaiaaGreat
namespace Go.Proofs.YtngdehlpoomaiaaGreat
open Go Go.Ev Go.Proofs
def LK (u w:P3):Int:=bB (bw (qw u w) 0 / 1024) 1024
theorem S3 (u w:P3):0<=LK u w/\ LK u w<=1024:=by
 unfold LK bB bw
 split<;>split<;>omega
theorem U3.nr {u:P3} (h:U3 u):Nr u:=⟨by have:=h.1;omega,by have:=h.2.1;omega,by have:=h.2.2;omega⟩
theorem HD {u w:P3} (hu:U3 u) (hw:U3 w):pD (u,w)/\ Dc (u,w)=(LK u w,0):=by
 obtain ⟨d1,d2⟩:=NR hu.nr hw.nr
 obtain ⟨a1,a2,a3⟩:=hu
 obtain ⟨b1,b2,b3⟩:=hw
 have m1:=mb (A:=1024) (by decide) a1 b1
 have m2:=mb (A:=1024) (by decide) a2 b2
 have m3:=mb (A:=1024) (by decide) a3 b3
 have n1: ¬(bB (bB (bB (bB (bB u.1 u.2.1) u.2.2) w.1) w.2.1) w.2.2)< -2048:=by
  simp only [bB]
  repeat' split
  all_goals omega
 have n2: ¬(bw (bw (bw (bw (bw u.1 u.2.1) u.2.2) w.1) w.2.1) w.2.2)>2048:=by
  simp only [bw]
  repeat' split
  all_goals omega
 have hm:0<=bw (qw u w) 0/\ bw (qw u w) 0<=3145728:=by
  unfold bw qw
  split<;>omega
 dsimp only [pD,Dc,vh,Tr.val,Tr.pre];(try dsimp only [az,ak])
 rw [if_neg n1,if_neg n2,d2]
 refine ⟨fun _ _=>d1,?_⟩
 try dsimp only
 rw [Int.tdiv_eq_ediv_of_nonneg hm.1,ax (by omega) (by omega)]
 rfl
def ng (v:P3):P3:=(-v.1,-v.2.1,-v.2.2)
theorem U3.ng {u:P3} (h:U3 u):U3 (ng u):=⟨by have:=h.1;unfold Go.Proofs.YtngdehlpoomaiaaGreat.ng;dsimp only;omega,by have:=h.2.1;unfold Go.Proofs.YtngdehlpoomaiaaGreat.ng;dsimp only;omega,by have:=h.2.2;unfold Go.Proofs.YtngdehlpoomaiaaGreat.ng;dsimp only;omega⟩
theorem R9 {u:P3} (h:U3 u):P0 u=ng u:=by
 have a:=h.1
 have b:=h.2.1
 have c:=h.2.2
 unfold P0 ng
 rw [ax (n:=0- u.1) (by omega) (by omega),ax (n:=0- u.2.1) (by omega) (by omega),ax (n:=0- u.2.2) (by omega) (by omega)]
 simp
def ku (l:zA) (p:P3):P3×(P3×Int):=
 if l.1=1 then (ng (bK l.2.2.1),(p.1+4*(ng (bK l.2.2.1)).1,p.2.1+4*(ng (bK l.2.2.1)).2.1,p.2.2+4*(ng (bK l.2.2.1)).2.2),0)
 else if sb l.2.1 p=(0,0,0) then ((0,0,0),(0,0,0),3) else (bK (sb l.2.1 p),l.2.1,0)
def Pt8 (p:P3):Prop:=(-8192<=p.1/\ p.1<=8192)/\ (-8192<=p.2.1/\ p.2.1<=8192)/\ (-8192<=p.2.2/\ p.2.2<=8192)
theorem ahM {l:zA} {p:P3} (hl:de l) (hp:Pt8 p):Gn (l,p)/\ ai1 (l,p)=if sb l.2.1 p=(0,0,0) then ((0,0,0),(0,0,0),3) else (bK (sb l.2.1 p),l.2.1,0):=by
 obtain ⟨s1,_⟩:=hl.2.2.2.1
 have p1:=hp.1
 have p2:=hp.2.1
 have p3:=hp.2.2
 have e:(au (l.2.1.1- p.1),au (l.2.1.2.1- p.2.1),au (l.2.1.2.2- p.2.2))=sb l.2.1 p:=by
  unfold sb
  rw [ax (n:=l.2.1.1- p.1) (by omega) (by omega),ax (n:=l.2.1.2.1- p.2.1) (by omega) (by omega),ax (n:=l.2.1.2.2- p.2.2) (by omega) (by omega)]
 dsimp only [Gn,ai1,JT,Tr.val,Tr.pre];(try dsimp only [az,ak])
 rw [e]
 by_cases h0:sb l.2.1 p=(0,0,0)
 ·rw [if_pos h0,h0]
  obtain ⟨u1,u2⟩:=RJ
  rw [u2]
  exact ⟨u1,rfl⟩
 ·have hn:Nr (sb l.2.1 p):=by unfold sb;exact ⟨by (try dsimp only);omega,by (try dsimp only);omega,by (try dsimp only);omega⟩
  obtain ⟨u1,u2,_,_⟩:=c8 hn h0
  rw [if_neg h0,u2]
  exact ⟨u1,rfl⟩
theorem Ep {p:P3} (h:dB p):Nr p:=⟨by omega,by omega,by omega⟩
theorem adF {l:zA} {p:P3} (hl:de l) (hd:l.2.2.1≠(0,0,0)) (hp:Pt8 p):Ca (l,p)/\ ZL (l,p)=(ng (bK l.2.2.1),(p.1+4*(ng (bK l.2.2.1)).1,p.2.1+4*(ng (bK l.2.2.1)).2.1,p.2.2+4*(ng (bK l.2.2.1)).2.2),0):=by
 obtain ⟨_,s1⟩:=hl.2.2.2.1
 obtain ⟨u1,u2,u3,_⟩:=c8 (Ep s1) hd
 have g:=u3.ng
 have g1:=g.1
 have g2:=g.2.1
 have g3:=g.2.2
 have p1:=hp.1
 have p2:=hp.2.1
 have p3:=hp.2.2
 unfold Ca ZL ak
 dsimp only
 rw [u2]
 dsimp only
 rw [R9 u3]
 generalize ng (bK l.2.2.1)=w at*
 rw [ax (n:=4*w.1) (by omega) (by omega),ax (n:=4*w.2.1) (by omega) (by omega),ax (n:=4*w.2.2) (by omega) (by omega),ax (n:=p.1+4*w.1) (by omega) (by omega),ax (n:=p.2.1+4*w.2.1) (by omega) (by omega),ax (n:=p.2.2+4*w.2.2) (by omega) (by omega)]
 exact ⟨u1,rfl⟩
theorem nc {l:zA} (hl:de l) (h:l.1≠2):l.2.2.1≠(0,0,0):=hl.2.2.2.2.resolve_left h
theorem NL {l:zA} {p:P3} (hl:de l) (hp:Pt8 p):yb (l,p)/\ S8 (l,p)=ku l p:=by
  obtain ⟨r1,r2⟩:=GM l
  obtain ⟨f1,f2⟩:=ahM hl hp
  have p1:=hp.1
  have p2:=hp.2.1
  have p3:=hp.2.2
  have hk:=hl.1
  have n1: ¬bB (bB p.1 p.2.1) p.2.2< -8192:=by          simp only [bB];repeat' split
                                                        all_goals omega
  have n2: ¬bw (bw p.1 p.2.1) p.2.2>8192:=by           simp only [bw];repeat' split
                                                       all_goals omega
  unfold ku;dsimp only [yb,S8,Af,Tr.val,Tr.pre];(try dsimp only [az,ak])
  rw [r2,decide_eq_true hl]
  rw [if_neg (by decide),if_neg n1,if_neg n2]
  by_cases k3:l.1=3
  · rw [if_pos k3,if_neg (by omega)]
    exact ⟨⟨r1,fun _ _ _=>⟨by omega,fun _=>f1,fun h=>absurd k3 h⟩⟩,f2⟩
  rw [if_neg k3]
  by_cases k2:l.1=2
  · rw [if_pos k2,if_neg (by omega)]
    exact ⟨⟨r1,fun _ _ _=>⟨by omega,fun _=>f1,fun _=>⟨fun _=>f1,fun h=>absurd k2 h⟩⟩⟩,f2⟩
  have k1:l.1=1:=by omega
  obtain ⟨a1,a2⟩:=adF hl (nc hl k2) hp
  rw [if_neg k2,if_pos k1,if_pos k1]
  exact ⟨⟨r1,fun _ _ _=>⟨by omega,fun h=>absurd h k3,fun _=>⟨fun h=>absurd h k2,fun _=>⟨fun _=>a1,fun h=>absurd k1 h⟩⟩⟩⟩,a2⟩
theorem AI {l:zA} {p:P3} (hl:de l) (hp:Pt8 p):((ku l p).2.2=3/\ ku l p=((0,0,0),(0,0,0),3))\/ ((ku l p).2.2=0/\ U3 (ku l p).1/\ dB (ku l p).2.1):=by
 obtain ⟨s1,s2⟩:=hl.2.2.2.1
 have p1:=hp.1
 have p2:=hp.2.1
 have p3:=hp.2.2
 unfold ku
 by_cases k1:l.1=1
 ·obtain ⟨u1,u2,u3,_⟩:=c8 (Ep s2) (nc hl (by omega))
  have g:=u3.ng
  have g1:=g.1
  have g2:=g.2.1
  have g3:=g.2.2
  rw [if_pos k1]
  refine .inr ⟨rfl,g,?_⟩
  exact ⟨by dsimp only;omega,by dsimp only;omega,by dsimp only;omega⟩
 rw [if_neg k1]
 by_cases h0:sb l.2.1 p=(0,0,0)
 ·rw [if_pos h0];exact .inl ⟨rfl,rfl⟩
 ·have hn:Nr (sb l.2.1 p):=by unfold sb;exact ⟨by dsimp only;omega,by dsimp only;omega,by dsimp only;omega⟩
  obtain ⟨u1,u2,u3,_⟩:=c8 hn h0
  rw [if_neg h0]
  exact .inr ⟨rfl,u3,s1⟩
def OS (l:zA) (w:P3):Prop:=l.1=3/\ LK (bK l.2.2.1) (ng w)<l.2.2.2.2
instance (l:zA) (w:P3):Decidable (OS l w):=Classical.propDecidable _
theorem ahh {l:zA} {w:P3} (hl:de l) (hw:U3 w):Gm (l,w)/\ aiW (l,w)=decide (OS l w):=by
 obtain ⟨s1,s2⟩:=hl.2.2.2.1
 unfold Gm aiW az ak
 dsimp only
 by_cases k3:l.1=3
 rotate_left
 ·rw [if_pos (by simpa using k3)]
  exact ⟨fun h=>absurd (by simpa using k3) h,(decide_eq_false fun h=>k3 h.1).symm⟩
 obtain ⟨u1,u2,u3,_⟩:=c8 (Ep s2) (nc hl (by omega))
 obtain ⟨m1,m2⟩:=HD u3 hw.ng
 rw [if_neg (by simp [k3]),u2]
 dsimp only
 rw [R9 hw,m2]
 refine ⟨fun _=>⟨u1,m1⟩,?_⟩
 rw [Bool.eq_iff_iff,decide_eq_true_iff,decide_eq_true_iff]
 exact ⟨fun h=>⟨k3,h⟩,fun h=>h.2⟩
def shF (l:zA) (p n:P3):Int:=if (ku l p).2.2=0 then (if OS l (ku l p).1 then 0 else LK (bK n) (ku l p).1*l.2.2.2.1 / 1024) else 0
theorem avo {l:zA} (hl:de l) (p n:P3):0<=shF l p n/\ shF l p n<=255:=by
 have hp:=hl.2.1
 obtain ⟨k1,k2⟩:=S3 (bK n) (ku l p).1
 unfold shF
 split
 ·split
  ·omega
  ·have h1:=Int.mul_nonneg k1 hp.1
   have h2:=qJ (A:=1024) (B:=255) (by omega) k2 (by omega) hp.2
   omega
 ·omega
theorem afR {l:zA} {p n:P3} (hl:de l) (hp:Pt8 p) (hn:Nr n) (h0:n≠(0,0,0)):Cc (l,p,n)/\ ZT (l,p,n)=(shF l p n,0):=by
 obtain ⟨t1,t2⟩:=NL hl hp
 obtain ⟨u1,u2,u3,_⟩:=c8 hn h0
 unfold shF;dsimp only [Cc,ZT,DG,Tr.val,Tr.pre];(try dsimp only [az,ak])
 rw [t2]
 rcases AI hl hp with ⟨e,he⟩|⟨e,hu,hs⟩
 ·rw [if_neg (by simp [e]),if_pos (by simp [e]),if_neg (by omega)]
  exact ⟨⟨t1,fun h=>absurd h (by simp [e])⟩,rfl⟩
 obtain ⟨d1,d2⟩:=ahh hl hu
 obtain ⟨m1,m2⟩:=HD u3 hu
 rw [if_pos (by simp [e]),if_pos e,u2]
 try dsimp only
 rw [if_neg (by decide),d2]
 refine ⟨⟨t1,fun _=>⟨u1,fun _=>⟨d1,fun _=>m1⟩⟩⟩,?_⟩
 by_cases hd:OS l (ku l p).1
 ·rw [decide_eq_true hd,if_pos rfl,if_pos hd]
 ·rw [decide_eq_false hd,if_neg (by decide),if_neg hd,m2]
  have hpw:=hl.2.1
  obtain ⟨k1,k2⟩:=S3 (bK n) (ku l p).1
  have h1:=Int.mul_nonneg k1 hpw.1
  have h2:=qJ (A:=1024) (B:=255) (by omega) k2 (by omega) hpw.2
  try dsimp only
  rw [ax (n:=LK (bK n) (ku l p).1*l.2.2.2.1) (by omega) (by omega),Int.tdiv_eq_ediv_of_nonneg h1,ax (by omega) (by omega)]
def mI (x:Int):Int:=bB (bw x 0) 255
theorem U7 (x:Int):0<=mI x/\ mI x<=255:=by unfold mI bB bw;split<;>split<;>omega
def FU (L:List Int):Int:=(L.map mI).sum
def mm (L:List Int):Int:=bB (FU L) 255
theorem CW (L:List Int):0<=FU L:=by
 unfold FU
 induction L with
 |nil=>simp
 |cons x r ih=>have:=(U7 x).1;simp only [List.map_cons,List.sum_cons];omega
theorem UO (L M:List Int):FU (L++M)=FU L+FU M:=by unfold FU;simp
theorem Wb (L:List Int) (hl:L.length<4611686018427387904):ya L/\ ai8 L=mm L:=by
 have key:TR (lR L) (rX L) (0,0) fun r=>r=mm L:=by
  refine cu L.length (fun i s=>s=(mm (L.take i),(i:Int))) _ (fun i s hi hJ=> ?_) (fun s hJ=> ?_) (by simp [mm,FU,bB])
  ·subst hJ
   dsimp only [rX,lR,mX,Tr.val,Tr.pre];(try dsimp only [az,ak])
   simp only [Int.toNat_natCast]
   refine ⟨fun _=>⟨⟨by omega,by omega⟩,hi,hi⟩,.inl ⟨_,by rw [if_pos (by omega)],?_⟩⟩
   have e:mm (L.take (i+1))=bB (mm (L.take i)+mI (L.getD i 0)) 255:=by
    rw [bZ hi 0]
    unfold mm
    rw [UO]
    have h1:=CW (L.take i)
    have h2:=U7 (L.getD i 0)
    have h3:FU [L.getD i 0]=mI (L.getD i 0):=by simp [FU]
    rw [h3]
    unfold bB
    split<;>split<;>(try split)<;>omega
   have hb:0<=mm (L.take i)/\ mm (L.take i)<=255:=by
    have h1:=CW (L.take i)
    unfold mm bB
    split<;>omega
   have h2:=U7 (L.getD i 0)
   rw [e,ax (n:=(i:Int)+1) (by omega) (by omega)]
   have e2:au (mm (L.take i)+bB (bw (L.getD i 0) 0) 255)=mm (L.take i)+mI (L.getD i 0):=ax (by show _<=_+mI _;omega) (by show _+mI _<=_;omega)
   rw [e2]
   rfl
  ·subst hJ
   refine ⟨?_,_,?_,rfl⟩
   ·dsimp only [rX,mX,Tr.val,Tr.pre];(try dsimp only [az,ak])
    intro q
    (try dsimp only at q);omega
   ·dsimp only [lR,mX,Tr.val,Tr.pre];(try dsimp only [az,ak])
    rw [if_neg (by omega),List.take_length]
 unfold ya ai8 ak
 exact ⟨key.1,key.2⟩
end Go.Proofs.YtngdehlpoomaiaaGreat
