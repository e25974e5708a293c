/- Plain laws: all pairs that are told are good. -/
import Derived.Test.YtojielnkfeoccaaGreatOc
noncomputable section
set_option linter.unusedSectionVars false
set_option linter.unusedVariables false
set_option linter.unusedSimpArgs false
namespace Go.Proofs.YtojielnkfeoccaaGreat
open Go Go.Ev Go.Proofs
def Two (of:EZ) (t:Cg) (P:P2->P2->Prop):Prop:= ∀i k:Int,nj (k:=yi) of i=true->nj (k:=yi) of k=true->aU (k:=yi) of i 0≠aU (k:=yi) of k 0->
 ∀a b c d n:Nat,a<3->b<3->c<3->d<3->n<9->P (vO (pk (aU (k:=yi) t i zT) a) (pk (aU (k:=yi) t i zT) b) (n:Int)) (vO (pk (aU (k:=yi) t k zT) c) (pk (aU (k:=yi) t k zT) d) (n:Int))
def ZO (X:MA) (A B:Int) (i:Int):Prop:=Has X.1 i/\ Crn X i A/\ Crn X i B
section
variable {P:P2->P2->Prop} {X:MA} {of:EZ} {t:Cg} (hP:Two of t P) {out:List (P2×P2)} {told:NI} {A B:Int} {tr:List Int} {i:Int} {l:List cA} {c9 Cu NL NM:Int} {pos c:Nat}
include hP
theorem YS (hi:ZO X A B i) (ht: ∀k∈tr,ZO X A B k) (hlen:tr.length<=1500) (hp:pos<=tr.length) (h:Lh P out told) (hc:out.length<=c) (Yk:c+13500<1099511627776):
  TR (gV X) (mE X) (s4 of t out told A B tr i l c9 Cu NL NM pos ((tr.length- pos:Nat):Int) 0) fun r=> ∃out' told',r=r4 of t out' told' A B tr l c9 Cu NL NM/\ Lh P out' told'/\ out'.length<=c+13500:=by
 refine dj (tr.length- pos) (fun j s=> ∃out' told',s=s4 of t out' told' A B tr i l c9 Cu NL NM pos ((tr.length- pos:Nat):Int) (j:Int)/\ Lh P out' told'/\ out'.length<=c+9*j) _ (fun j s hj hJ=> ?_) (fun s hJ=> ?_) ⟨out,told,rfl,h,hc⟩
 ·obtain ⟨o,m,rfl,hT,hl⟩:=hJ
  have hw:aj ((j:Int)+1)=((j+1:Nat):Int):=by rw [bf (by omega) (by omega)];omega
  have hk:=ht _ (fc (show pos+j<tr.length by omega) 0)
  rw [Oc,To,Int.toNat_natCast,if_pos (by omega),hw]
  generalize tr.getD (pos+j) 0=k at*
  obtain ⟨x1,a,b,a1,b1,x2⟩:=Pd t hi.1 hi.2.1 hi.2.2
  obtain ⟨y1,a',b',a2,b2,y2⟩:=Pd t hk.1 hk.2.1 hk.2.2
  unfold au aM
  dsimp only
  have key:nj (k:=yi) of i=true->nj (k:=yi) of k=true->aU (k:=yi) of i 0≠aU (k:=yi) of k 0->TR (dg X) (fB X) (wS of t o m A B tr l pos (Br X t i A B) (Br X t k A B) 0) fun r=> ∃out' told',r=wR of t out' told' A B tr l pos/\ Lh P out' told'/\ out'.length<=(c+9*j)+9:=fun q1 q2 q3=>by
   refine RO P X of t o m A B tr l pos _ _ (fun n hn=> ?_) hT hl (by omega)
   rw [x2,y2,OC _ _ hn,OC _ _ hn]
   exact hP i k q1 q2 q3 a b a' b' n a1 b1 a2 b2 hn
  have z1:(0:Int)<=(j:Int)/\ (j:Int)<((tr.length- pos:Nat):Int):=by omega
  have z2:pos+j<tr.length:=by omega
  refine ⟨fun _=>⟨z1,z2,z2,fun q1 q2 q3=>⟨fun _ _=>⟨x1,rfl⟩,fun _ _=>⟨y1,rfl⟩,(key q1 q2 (by simpa using q3)).1⟩⟩,.inl ?_⟩
  by_cases q1:nj (k:=yi) of i=true
  ·rw [if_pos q1]
   by_cases q2:nj (k:=yi) of k=true
   ·rw [if_pos q2]
    by_cases q3:aU (k:=yi) of i 0=aU (k:=yi) of k 0
    ·rw [if_neg (by rw [q3];simp)]
     exact ⟨_,rfl,o,m,rfl,hT,by omega⟩
    ·rw [if_pos (by simpa using q3)]
     obtain ⟨o',m',e,hT',hl'⟩:=(key q1 q2 q3).2
     rw [e]
     exact ⟨_,rfl,o',m',rfl,hT',by omega⟩
   ·rw [if_neg q2]
    exact ⟨_,rfl,o,m,rfl,hT,by omega⟩
  ·rw [if_neg q1]
   exact ⟨_,rfl,o,m,rfl,hT,by omega⟩
 ·obtain ⟨o,m,rfl,hT,hl⟩:=hJ
  rw [Oc,To,if_neg (by omega)]
  exact ⟨fun q=>absurd q (by omega),_,rfl,o,m,rfl,hT,by omega⟩
end
section
variable (of:EZ) (t:Cg) (out:List (P2×P2)) (told:NI) (A B:Int) (tr:List Int) (l:List cA) (c8 c9 Cu:Int)
def s2 (n:Int):EZ×(Cg×List (P2×P2)×NI×Int×Int×List Int×List cA×Int×Int×Int×Int):=(of,t,out,told,A,B,tr,l,c8,c9,Cu,n)
def s0 (c e:Int):EZ×(Cg×List (P2×P2)×NI×List cA×Int×Int):=(of,t,out,told,l,c,e)
theorem Ob (X:MA) (n:Int):gU X (s2 of t out told A B tr l c8 c9 Cu n)=(if n<Cu then
  (au (run (gV X) (s4 of t out told A B tr (tr.getD n.toNat 0) l c8 c9 Cu n (aj (n+1)).toNat ((tr.length- (aj (n+1)).toNat:Nat):Int) 0)) fun r=>
   .inl (s2 r.1 r.2.1 r.2.2.1 r.2.2.2.1 r.2.2.2.2.1 r.2.2.2.2.2.1 r.2.2.2.2.2.2.1 r.2.2.2.2.2.2.2.1 r.2.2.2.2.2.2.2.2.1 r.2.2.2.2.2.2.2.2.2.1 r.2.2.2.2.2.2.2.2.2.2.1 (aj (r.2.2.2.2.2.2.2.2.2.2.2+1)))) else .inr (s0 of t out told l c8 c9)):=by kernel_rfl
theorem Tn (X:MA) (n:Int):mD X (s2 of t out told A B tr l c8 c9 Cu n)=(n<Cu->((0<=n/\ n<(tr.length:Int))/\ (n.toNat<tr.length/\ (n.toNat<tr.length/\ ((0<=aj (n+1)/\ aj (n+1)<=(tr.length:Int))/\
  Term (gV X) (mE X) (s4 of t out told A B tr (tr.getD n.toNat 0) l c8 c9 Cu n (aj (n+1)).toNat ((tr.length- (aj (n+1)).toNat:Nat):Int) 0)))))):=by kernel_rfl
theorem Oa (X:MA) (c e:Int):lC X (s0 of t out told l c e)=(if e<c then
  (au (run (gU X) (s2 of t out told (l.getD e.toNat (0,0,[])).1 (l.getD e.toNat (0,0,[])).2.1 (l.getD e.toNat (0,0,[])).2.2 l c e ((l.getD e.toNat (0,0,[])).2.2.length:Int) 0)) fun r=>
   .inl (s0 r.1 r.2.1 r.2.2.1 r.2.2.2.1 r.2.2.2.2.1 r.2.2.2.2.2.1 (aj (r.2.2.2.2.2.2+1)))) else .inr out):=by kernel_rfl
theorem Tm (X:MA) (c e:Int):qL X (s0 of t out told l c e)=(e<c->((0<=e/\ e<(l.length:Int))/\ (e.toNat<l.length/\ (e.toNat<l.length/\
  Term (gU X) (mD X) (s2 of t out told (l.getD e.toNat (0,0,[])).1 (l.getD e.toNat (0,0,[])).2.1 (l.getD e.toNat (0,0,[])).2.2 l c e ((l.getD e.toNat (0,0,[])).2.2.length:Int) 0))))):=by kernel_rfl
end
section
variable {P:P2->P2->Prop} {X:MA} {of:EZ} {t:Cg} (hP:Two of t P) {out:List (P2×P2)} {told:NI}
include hP
theorem YR {A B:Int} {tr:List Int} {l:List cA} {c8 c9:Int} {c:Nat} (ht: ∀k∈tr,ZO X A B k) (hlen:tr.length<=1500) (h:Lh P out told) (hc:out.length<=c) (Yk:c+20250000<1099511627776):
  TR (gU X) (mD X) (s2 of t out told A B tr l c8 c9 (tr.length:Int) 0) fun r=> ∃out' told',r=s0 of t out' told' l c8 c9/\ Lh P out' told'/\ out'.length<=c+20250000:=by
 refine dj tr.length (fun n s=> ∃out' told',s=s2 of t out' told' A B tr l c8 c9 (tr.length:Int) (n:Int)/\ Lh P out' told'/\ out'.length<=c+13500*n) _ (fun n s hn hJ=> ?_) (fun s hJ=> ?_) ⟨out,told,rfl,h,hc⟩
 ·obtain ⟨o,m,rfl,hT,hl⟩:=hJ
  have hw:aj ((n:Int)+1)=((n+1:Nat):Int):=by rw [bf (by omega) (by omega)];omega
  have hk:=ht _ (fc hn 0)
  have key:=YS hP (X:=X) (l:=l) (c9:=c8) (Cu:=c9) (NL:=(tr.length:Int)) (NM:=(n:Int)) (pos:=n+1) (c:=c+13500*n) hk ht hlen (by omega) hT hl (by omega)
  rw [Ob,Tn,Int.toNat_natCast,if_pos (by omega),hw,Int.toNat_natCast]
  refine ⟨fun _=>⟨by omega,hn,hn,by omega,key.1⟩,.inl ?_⟩
  obtain ⟨o',m',e,hT',hl'⟩:=key.2
  have hf:o'.length<=c+13500*(n+1):=by rw [Nat.mul_succ,<- Nat.add_assoc];exact hl'
  unfold au
  rw [e]
  unfold r4
  dsimp only
  rw [hw]
  exact ⟨_,rfl,o',m',rfl,hT',hf⟩
 ·obtain ⟨o,m,rfl,hT,hl⟩:=hJ
  rw [Ob,Tn,if_neg (by omega)]
  exact ⟨fun q=>absurd q (by omega),_,rfl,o,m,rfl,hT,by omega⟩
theorem YQ {l:List cA} (ht: ∀e∈l,e.2.2.length<=1500/\ ∀k∈e.2.2,ZO X e.1 e.2.1 k) (hlen:l.length<=1500) (h:Lh P out told) (hc:out.length<=0):
  TR (lC X) (qL X) (s0 of t out told l (l.length:Int) 0) fun r=> ∃told',Lh P r told'/\ r.length<1099511627776:=by
 refine dj l.length (fun n s=> ∃out' told',s=s0 of t out' told' l (l.length:Int) (n:Int)/\ Lh P out' told'/\ out'.length<=20250000*n) _ (fun n s hn hJ=> ?_) (fun s hJ=> ?_) ⟨out,told,rfl,h,hc⟩
 ·obtain ⟨o,m,rfl,hT,hl⟩:=hJ
  have hw:aj ((n:Int)+1)=((n+1:Nat):Int):=by rw [bf (by omega) (by omega)];omega
  obtain ⟨h1,h2⟩:=ht _ (fc hn (0,0,[]))
  have key:=YR hP (X:=X) (l:=l) (c8:=(l.length:Int)) (c9:=(n:Int)) (c:=20250000*n) h2 h1 hT hl (by omega)
  rw [Oa,Tm,Int.toNat_natCast,if_pos (by omega)]
  refine ⟨fun _=>⟨by omega,hn,hn,key.1⟩,.inl ?_⟩
  obtain ⟨o',m',e,hT',hl'⟩:=key.2
  unfold au
  rw [e]
  unfold s0
  dsimp only
  rw [hw]
  exact ⟨_,rfl,o',m',rfl,hT',by omega⟩
 ·obtain ⟨o,m,rfl,hT,hl⟩:=hJ
  rw [Oa,Tm,if_neg (by omega)]
  exact ⟨fun q=>absurd q (by omega),_,rfl,m,hT,by omega⟩
end
end Go.Proofs.YtojielnkfeoccaaGreat
namespace Go.Proofs.YtojielnkfeoccaaGreat
open Go Go.Ev Go.Proofs
def U6 (X:MA) (T:List T2) (O:List Int) (n:Nat) (of:EZ) (t:Cg):Prop:=
 ∀i:Int,nj (k:=yi) of i=true->Has X.1 i/\ ∃k,k<n/\ aU (k:=yi) of i 0=O.getD k 0/\ aU (k:=yi) t i zT=T.getD k zT
theorem U6.put {X:MA} {T:List T2} {O:List Int} {n:Nat} {of:EZ} {t:Cg} (h:U6 X T O n of t) {i:Int} (hi:Has X.1 i):U6 X T O (n+1) (bU (k:=yi) of i (O.getD n 0)) (bU (k:=yi) t i (T.getD n zT)):=fun y hy=>by
 have e1:=tJ (k:=yi) rfl i (O.getD n 0) y of
 have e2:=tJ (k:=yi) rfl i (T.getD n zT) y t
 unfold nj at hy
 rw [e1] at hy
 unfold aU
 rw [e1,e2]
 by_cases e:iQ yi y i=true
 ·have e':=(dm (t:=yi) rfl _ _).1 e
  subst e'
  rw [if_pos e,if_pos e]
  exact ⟨hi,n,by omega,rfl,rfl⟩
 ·rw [if_neg e] at hy
  rw [if_neg e,if_neg e]
  obtain ⟨g,k,k1,k2,k3⟩:=h y hy
  exact ⟨g,k,by omega,k2,k3⟩
section
variable (T:List T2) (O:List Int) (of:EZ) (t:Cg) (n p:Int) (r:List Int) (c:Int)
def sA:List T2×(List Int×EZ×Cg×Int×Int):=(T,O,of,t,n,p)
def sB (j:Int):List T2×(List Int×EZ×Cg×Int×Int×List Int×Int×Int):=(T,O,of,t,n,p,r,c,j)
theorem Ov (X:MA) (j:Int):cR X (sB T O of t n p r c j)=(if j<c then (if List.getD r j.toNat 0<0 then .inr (.inl (of,t)) else (if List.getD r j.toNat 0>=(X.1.2.2.2.length:Int) then .inr (.inl (of,t)) else
  (au (bU (k:=yi) of (r.getD j.toNat 0) (O.getD n.toNat 0)) fun y=>(au (bU (k:=yi) t (r.getD j.toNat 0) (T.getD n.toNat zT)) fun y1=> .inl (sB T O y y1 (aj (n+1)) p r c (aj (j+1)))))))
  else .inr (.inr (sA T O of t n p))):=by kernel_rfl
theorem T0 (X:MA) (j:Int):iT X (sB T O of t n p r c j)=(j<c->((0<=j/\ j<(r.length:Int))/\ (j.toNat<r.length/\ (j.toNat<r.length/\ (¬(r.getD j.toNat 0<0)->(¬(r.getD j.toNat 0>=(X.1.2.2.2.length:Int))->
  ((0<=n/\ n<(O.length:Int))/\ (n.toNat<O.length/\ (n.toNat<O.length/\ ((0<=n/\ n<(T.length:Int))/\ (n.toNat<T.length/\ n.toNat<T.length))))))))))):=by kernel_rfl
theorem Ou (X:MA):fA X (sA T O of t n p)=(if p<(X.2.2.2.2.1.length:Int) then
  (au (run (cR X) (sB T O of t n p (X.2.2.2.2.1.getD p.toNat ([],[],0,0)).1 ((X.2.2.2.2.1.getD p.toNat ([],[],0,0)).1.length:Int) 0)) fun r=>Sum.elim (fun a=> .inr (.inl (a.1,a.2))) (fun b=> .inl (sA b.1 b.2.1 b.2.2.1 b.2.2.2.1 b.2.2.2.2.1 (aj (b.2.2.2.2.2+1)))) r)
  else .inr (.inr (of,t))):=by kernel_rfl
theorem TY (X:MA):kR X (sA T O of t n p)=(p<(X.2.2.2.2.1.length:Int)->((0<=p/\ p<(X.2.2.2.2.1.length:Int))/\ (p.toNat<X.2.2.2.2.1.length/\ (p.toNat<X.2.2.2.2.1.length/\
  Term (cR X) (iT X) (sB T O of t n p (X.2.2.2.2.1.getD p.toNat ([],[],0,0)).1 ((X.2.2.2.2.1.getD p.toNat ([],[],0,0)).1.length:Int) 0))))):=by kernel_rfl
end
theorem Y7 {X:MA} {T:List T2} {O:List Int} {of:EZ} {t:Cg} {n:Nat} {p:Int} {r:List Int} (hn:n+r.length<=T.length) (hO:O.length=T.length) (hT:T.length<1099511627776) (h:U6 X T O n of t):
  TR (cR X) (iT X) (sB T O of t (n:Int) p r (r.length:Int) 0) fun q=>(∃a,q= .inl a)\/ ∃XG t',q= .inr (sA T O XG t' ((n+r.length:Nat):Int) p)/\ U6 X T O (n+r.length) XG t':=by
 refine dj r.length (fun j s=> ∃XG t',s=sB T O XG t' ((n+j:Nat):Int) p r (r.length:Int) (j:Int)/\ U6 X T O (n+j) XG t') _ (fun j s hj hJ=> ?_) (fun s hJ=> ?_) ⟨of,t,rfl,h⟩
 ·obtain ⟨o,m,rfl,hM⟩:=hJ
  have hw:aj ((j:Int)+1)=((j+1:Nat):Int):=by rw [bf (by omega) (by omega)];omega
  have hw2:aj (((n+j:Nat):Int)+1)=((n+(j+1):Nat):Int):=by rw [bf (by omega) (by omega)];omega
  have hk:=fun q=>hM.put (i:=r.getD j 0) q
  rw [Ov,T0,Int.toNat_natCast,Int.toNat_natCast,if_pos (by omega),hw,hw2]
  generalize r.getD j 0=i at*
  have z1:(0:Int)<=(j:Int)/\ (j:Int)<(r.length:Int):=by omega
  have z2:(0:Int)<=((n+j:Nat):Int)/\ ((n+j:Nat):Int)<(O.length:Int):=by omega
  have z3:(0:Int)<=((n+j:Nat):Int)/\ ((n+j:Nat):Int)<(T.length:Int):=by omega
  have z4:n+j<O.length:=by omega
  have z5:n+j<T.length:=by omega
  refine ⟨fun _=>⟨z1,hj,hj,fun _ _=>⟨z2,z4,z4,z3,z5,z5⟩⟩,?_⟩
  by_cases c1:i<0
  ·rw [if_pos c1]
   exact .inr ⟨_,rfl,.inl ⟨_,rfl⟩⟩
  ·rw [if_neg c1]
   by_cases c2:i>=(X.1.2.2.2.length:Int)
   ·rw [if_pos c2]
    exact .inr ⟨_,rfl,.inl ⟨_,rfl⟩⟩
   ·rw [if_neg c2]
    exact .inl ⟨_,rfl,_,_,rfl,hk ⟨by omega,by omega⟩⟩
 ·obtain ⟨o,m,rfl,hM⟩:=hJ
  rw [Ov,T0,if_neg (by omega)]
  exact ⟨fun q=>absurd q (by omega),_,rfl,.inr ⟨_,_,rfl,hM⟩⟩
theorem T7 {m:vZ} {a:Cd} (hA:lG a) (hl:a.2.2.2.1.length<=1000) {T:List T2} {O:List Int} (hT:T=rI a.2.2.2.1 a.2.2.2.2 a.2.2.1 a.2.2.2.1.length) (hO:O=yS a.2.2.2.1 a.2.2.2.1.length):
  TR (fA (m,a)) (kR (m,a)) (sA T O [] [] 0 0) fun q=>(∃a,q= .inl a)\/ ∃of t,q= .inr (of,t)/\ U6 (m,a) T O T.length of t:=by
 obtain ⟨t1,t2,t3⟩:=rJ hA.XM a.2.2.2.2 a.2.2.1 a.2.2.2.1.length (Nat.le_refl _)
 rw [<- hT] at t1 t3
 rw [<- hO] at t2
 rw [List.take_length] at t1 t2
 have hle: ∀k,(lI (a.2.2.2.1.take k)).length<=(lI a.2.2.2.1).length:=fun k=>by
  have h:=congrArg (fun l=>(lI l).length) (List.take_append_drop k a.2.2.2.1)
  simp only [lI,List.flatMap_append,List.length_append] at h ⊢
  omega
 have hz:U6 (m,a) T O 0 [] []:=fun i h=>by cases h
 refine dj a.2.2.2.1.length (fun p s=> ∃XG t',s=sA T O XG t' (((lI (a.2.2.2.1.take p)).length:Nat):Int) (p:Int)/\ U6 (m,a) T O (lI (a.2.2.2.1.take p)).length XG t') _ (fun p s hp hJ=> ?_) (fun s hJ=> ?_) ⟨[],[],rfl,hz⟩
 ·obtain ⟨o,u,rfl,hM⟩:=hJ
  have hw:aj ((p:Int)+1)=((p+1:Nat):Int):=by rw [bf (by omega) (by omega)];omega
  have h1:=hle (p+1)
  have e1:(lI (a.2.2.2.1.take (p+1))).length=(lI (a.2.2.2.1.take p)).length+(a.2.2.2.1.getD p zP).1.length:=by rw [iU hp zP,tU,List.length_append]
  have key:=Y7 (X:=(m,a)) (p:=(p:Int)) (r:=(a.2.2.2.1.getD p zP).1) (n:=(lI (a.2.2.2.1.take p)).length) (by omega) (by omega) (by omega) hM
  rw [Ou,TY,Int.toNat_natCast,if_pos (show (p:Int)<(a.2.2.2.1.length:Int) by omega)]
  refine ⟨fun _=>⟨⟨by omega,by dsimp only;omega⟩,hp,hp,key.1⟩,?_⟩
  have k2:=key.2
  unfold au
  rcases k2 with ⟨b,e⟩|⟨o',u',e,hM'⟩
  ·refine .inr ⟨.inl (b.1,b.2),?_,.inl ⟨_,rfl⟩⟩
   show Sum.elim _ _ (run (cR (m,a)) (sB T O o u _ _ (a.2.2.2.1.getD p zP).1 _ 0))=_
   rw [e];rfl
  ·refine .inl ⟨_,?_,o',u',rfl,by rw [e1];exact hM'⟩
   show Sum.elim _ _ (run (cR (m,a)) (sB T O o u _ _ (a.2.2.2.1.getD p zP).1 _ 0))=_
   rw [e,e1,<- hw];rfl
 ·obtain ⟨o,u,rfl,hM⟩:=hJ
  rw [List.take_length] at hM
  rw [Ou,TY,if_neg (show¬((a.2.2.2.1.length:Nat):Int)<(a.2.2.2.1.length:Int) by omega)]
  exact ⟨fun q=>absurd (show ((a.2.2.2.1.length:Nat):Int)<(a.2.2.2.1.length:Int) from q) (by omega),_,rfl,.inr ⟨_,_,rfl,by rw [t1];exact hM⟩⟩
end Go.Proofs.YtojielnkfeoccaaGreat
