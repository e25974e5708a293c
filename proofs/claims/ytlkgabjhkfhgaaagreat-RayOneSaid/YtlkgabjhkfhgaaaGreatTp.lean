/- Sorting, plain: pdqsort sorts. -/
import Derived.Test.YtlkgabjhkfhgaaaGreatTl
noncomputable section
set_option linter.unusedSectionVars false
set_option linter.unusedVariables false
set_option linter.unusedSimpArgs false
namespace Go.Proofs.YtlkgabjhkfhgaaaGreat
open Go Go.Ev Go.Proofs
def Ni (r:RT) (d:List Int) (a b:Nat) (d':List Int):Prop:=Out r d a b d'/\ Sort.SortedIn (cW r) a b d'.toArray
theorem Ni.from {r:RT} {d d' e:List Int} {a b:Nat} (h:Out r d a b d') (hs:Ni r d' a b e):Ni r d a b e:=
 ⟨⟨Sort.permIn_trans _ _ _ _ _ h.1 hs.1.1,by rw [hs.1.2.1,h.2.1],hs.1.2.2⟩,hs.2⟩
section
variable [pq]
def Self (r:RT) (N:Nat):Prop:= ∀(d:List Int) (a b:Nat) (eL:Int),cr r d->a<=b->b<=d.length->b- a<N->Sort.Below (cW r) a b d.toArray->
 aH (d,((a:Int),((b:Int),(eL,r))))/\ Ni r d a b (ct (d,((a:Int),((b:Int),(eL,r))))).2.1
def PE (x:PX) (d:List Int) (a b:Nat) (v:PS⊕List Int):Prop:=match v with
 | .inl s'=>TR (cH x) (gq x) s' (Ni x.2.2.2.2 d a b)
 | .inr r'=>Ni x.2.2.2.2 d a b r'
theorem TR.of {x:PX} {s:PS} {d:List Int} {a b:Nat} (hp:gq x s) (h:PE x d a b (cH x s)):TR (cH x) (gq x) s (Ni x.2.2.2.2 d a b):=by
 cases e:cH x s with
 |inl s'=>rw [e] at h;exact TR.go hp e h
 |inr r'=>rw [e] at h;exact TR.stop hp e h
theorem PE.from {x:PX} {d d':List Int} {a b:Nat} (h:Out x.2.2.2.2 d a b d') {v:PS⊕List Int} (hs:PE x d' a b v):PE x d a b v:=by
 cases v with
 |inl s'=>exact TR.mono hs fun r hr=>Ni.from h hr
 |inr r'=>exact Ni.from h hs
def Next (x:PX) (N:Nat):Prop:= ∀(d:List Int) (a b:Nat) (eL:Int) (wb wp:Bool),cr x.2.2.2.2 d->a<=b->b<=d.length->b- a<N->Sort.Below (cW x.2.2.2.2) a b d.toArray->
 TR (cH x) (gq x) (d,((a:Int),((b:Int),(eL,(wb,wp))))) (Ni x.2.2.2.2 d a b)
theorem RW {x:PX} {a b pv:Nat} {d:List Int} (rL eL:Int) (wb wp:Bool) (hf:cr x.2.2.2.2 d) (hb:b<=d.length) (hap:a<=pv) (QN:pv<b) (hB:Sort.Below (cW x.2.2.2.2) a b d.toArray)
  (hS:Self x.2.2.2.2 (b- a)) (hN:Next x (b- a)) (d0:List Int):
  Mx x (d0,((a:Int),((b:Int),(rL,(wb,wp))))) d (pv:Int) eL/\ PE x d a b (My x (d0,((a:Int),((b:Int),(rL,(wb,wp))))) d (pv:Int) eL):=by
 have hl:=hf.len
 obtain ⟨p1,p2,p3,p4,p5⟩:=XC hf hap QN hb
 obtain ⟨m,hm⟩: ∃m,m=(Sort.partition (cW x.2.2.2.2) d.toArray a b pv).1:=⟨_,rfl⟩
 obtain ⟨k1,k2,k3,k4,k5⟩:=Sort.partition_holds (cW x.2.2.2.2) (gD _) d.toArray a b pv hap QN (by simpa using hb)
 obtain ⟨Y,hY⟩: ∃Y,Y=bn (d,((a:Int),((b:Int),((pv:Int),x.2.2.2.2)))):=⟨_,rfl⟩
 rw [<- hY] at p2 p3 p4 p5
 rw [<- p3] at k3 k4 k5
 rw [<- hm] at p2 k1 k2 k4 k5
 have e1:ae ((m:Int)- (a:Int))=((m- a:Nat):Int):=bT (by omega) (by omega)
 have e2:ae ((b:Int)- (m:Int))=((b- m:Nat):Int):=bT (by omega) (by omega)
 have e3:ae ((m:Int)+1)=((m+1:Nat):Int):=bT (by omega) (by omega)
 have VS:=pA (gD _) (by simpa using hb) hB k3
 have hBL:Sort.Below (cW x.2.2.2.2) a m Y.2.1.toArray:=VS.imp_right fun h i i1 i2=>h i i1 (by omega)
 have hBR:Sort.Below (cW x.2.2.2.2) (m+1) b Y.2.1.toArray:= .inr fun i i1 i2=>k5 i (by omega) i2
 obtain ⟨l1,l2⟩:=hS Y.2.1 a m eL p5 (by omega) (by omega) (by omega) hBL
 obtain ⟨r1,r2⟩:=hS Y.2.1 (m+1) b eL p5 (by omega) (by omega) (by omega) hBR
 refine ⟨?_,?_⟩
 ·simp only [Mx,az,←hY,p2,e1,e2,e3]
  exact ⟨p1,fun _=>l1,fun _=>r1⟩
 ·simp only [My,ai,←hY,p2,e1,e2,e3]
  split
  ·obtain ⟨E,hE⟩: ∃E,E=(ct (Y.2.1,((a:Int),((m:Int),(eL,x.2.2.2.2))))).2.1:=⟨_,rfl⟩
   rw [<- hE] at l2 ⊢
   have hBE:Sort.Below (cW x.2.2.2.2) (m+1) b E.toArray:= .inr fun i i1 i2=>by
    rw [l2.1.1.2.1 i (.inr (by omega)),l2.1.1.2.1 (m+1- 1) (.inr (by omega))]
    exact k5 i (by omega) i2
   refine (hN E (m+1) b eL _ _ l2.1.2.2 (by omega) (by rw [l2.1.2.1];omega) (by omega) hBE).mono fun z hz=> ?_
   have JW:Sort.SortedIn (cW x.2.2.2.2) a m z.toArray:=fun i j i1 i2 i3=>by
    rw [hz.1.1.2.1 i (.inl (by omega)),hz.1.1.2.1 j (.inl (by omega))];exact l2.2 i j i1 i2 i3
   obtain ⟨c1,c2⟩:=Nv (gD x.2.2.2.2) (by simpa using hb) k1 k2 k3 k4 k5 l2.1.1 hz.1.1 JW hz.2
   exact ⟨⟨c1,by rw [hz.1.2.1,l2.1.2.1,p4],hz.1.2.2⟩,c2⟩
  ·obtain ⟨E,hE⟩: ∃E,E=(ct (Y.2.1,(((m+1:Nat):Int),((b:Int),(eL,x.2.2.2.2))))).2.1:=⟨_,rfl⟩
   rw [<- hE] at r2 ⊢
   have hBE:Sort.Below (cW x.2.2.2.2) a m E.toArray:=hBL.imp_right fun h i i1 i2=>by
    rw [r2.1.1.2.1 i (.inl (by omega)),r2.1.1.2.1 (a- 1) (.inl (by omega))]
    exact h i i1 i2
   refine (hN E a m eL _ _ r2.1.2.2 (by omega) (by rw [r2.1.2.1];omega) (by omega) hBE).mono fun z hz=> ?_
   have hsr:Sort.SortedIn (cW x.2.2.2.2) (m+1) b z.toArray:=fun i j i1 i2 i3=>by
    rw [hz.1.1.2.1 i (.inr (by omega)),hz.1.1.2.1 j (.inr (by omega))];exact r2.2 i j i1 i2 i3
   obtain ⟨c1,c2⟩:=J7 (gD x.2.2.2.2) (by simpa using hb) k1 k2 k3 k4 k5 r2.1.1 hz.1.1 hz.2 hsr
   exact ⟨⟨c1,by rw [hz.1.2.1,r2.1.2.1,p4],hz.1.2.2⟩,c2⟩
theorem C1 {x:PX} {a b pv:Nat} {d:List Int} (rL eL:Int) (wb wp:Bool) (hf:cr x.2.2.2.2 d) (hb:b<=d.length) (hap:a<=pv) (QN:pv<b) (hB:Sort.Below (cW x.2.2.2.2) a b d.toArray)
  (hS:Self x.2.2.2.2 (b- a)) (hN:Next x (b- a)) (d0:List Int):
  xn x (d0,((a:Int),((b:Int),(rL,(wb,wp))))) d (pv:Int) eL/\ PE x d a b (xp x (d0,((a:Int),((b:Int),(rL,(wb,wp))))) d (pv:Int) eL):=by
 have hl:=hf.len
 obtain ⟨q1,q2⟩:=RW rL eL wb wp hf hb hap QN hB hS hN d0
 by_cases h0:0<a
 ·have e1:ae ((a:Int)- 1)=((a- 1:Nat):Int):=bT (by omega) (by omega)
  obtain ⟨p1,p2,p3,p4,p5⟩:=Xy hf hap QN hb
  have hby:=hf.LS (i:=a- 1) (j:=pv) (by omega) (by omega)
  refine ⟨?_,?_⟩
  ·simp only [xn,az,e1,Int.toNat_natCast]
   exact ⟨fun _=>⟨by omega,by omega,by omega,by omega,by omega,by omega,hby,fun _=>p1,fun _=>q1⟩,fun _=>q1⟩
  ·simp only [xp,ai,e1,Int.toNat_natCast]
   rw [if_pos (by omega)]
   by_cases hlt:(!cW x.2.2.2.2 (d.getD (a- 1) 0) (d.getD pv 0))=true
   ·rw [if_pos ((Mq _ _ _).2 hlt)]
    have abl:cW x.2.2.2.2 d.toArray[a- 1]! d.toArray[pv]! =false:=by rw [aS,aS];simpa using hlt
    have hall:=Nm (gD x.2.2.2.2) h0 hB abl
    obtain ⟨k1,k2,k3,k4,k5⟩:=Sort.partitionEqual_holds (cW x.2.2.2.2) (gD _) d.toArray a b pv hap QN (by simpa using hb) hall
    obtain ⟨m,hm⟩: ∃m,m=(Sort.partitionEqual (cW x.2.2.2.2) d.toArray a b pv).1:=⟨_,rfl⟩
    obtain ⟨Y,hY⟩: ∃Y,Y=dN (d,((a:Int),((b:Int),((pv:Int),x.2.2.2.2)))):=⟨_,rfl⟩
    rw [<- hY] at p2 p3 p4 p5
    rw [<- p3] at k3 k4 k5
    rw [<- hm] at p2 k1 k2 k4 k5
    rw [<- hY,p2]
    have hc:=fun z=>TC (gD x.2.2.2.2) (r':=z) (by simpa using hb) hall k1 k2 k3 k4 k5
    refine (hN Y.2.1 m b eL wb wp p5 k2 (by omega) (by omega) (hc d.toArray).1).mono fun z hz=> ?_
    obtain ⟨c1,c2⟩:=(hc z.toArray).2 hz.1.1 hz.2
    exact ⟨⟨c1,by rw [hz.1.2.1,p4],hz.1.2.2⟩,c2⟩
   ·rw [if_neg (fun h=>hlt ((Mq _ _ _).1 h))]
    exact q2
 ·refine ⟨?_,?_⟩
  ·simp only [xn]
   exact ⟨fun h=>absurd h (show¬((a:Int)>0) by omega),fun _=>q1⟩
  ·simp only [xp]
   rw [if_neg (by omega)]
   exact q2
theorem Na {x:PX} {a b pv:Nat} {d:List Int} (rL eL:Int) (wb wp:Bool) (hf:cr x.2.2.2.2 d) (hb:b<=d.length) (hap:a<=pv) (QN:pv<b) (hB:Sort.Below (cW x.2.2.2.2) a b d.toArray)
  (hS:Self x.2.2.2.2 (b- a)) (hN:Next x (b- a)) (d0:List Int):
  Vv x (d0,((a:Int),((b:Int),(rL,(wb,wp))))) d (pv:Int) eL/\ PE x d a b (Vw x (d0,((a:Int),((b:Int),(rL,(wb,wp))))) d (pv:Int) eL):=by
 obtain ⟨p1,p2,p3⟩:=XA hf (show a<b by omega) hb hB
 obtain ⟨Y,hY⟩: ∃Y,Y=lC (d,((a:Int),((b:Int),x.2.2.2.2))):=⟨_,rfl⟩
 rw [<- hY] at p2 p3
 have VS:=pA (gD _) (by simpa using hb) hB p2.1
 obtain ⟨q1,q2⟩:=C1 rL eL wb wp p2.2.2 (by rw [p2.2.1];exact hb) hap QN VS hS hN d0
 refine ⟨?_,?_⟩
 ·simp only [Vv,az,←hY]
  exact ⟨p1,fun _=>q1⟩
 ·simp only [Vw,ai,←hY]
  split
  ·rename_i h
   exact ⟨p2,p3 h⟩
  ·exact PE.from p2 q2
theorem Ii {x:PX} {a b:Nat} {d:List Int} (rL eL:Int) (wb wp:Bool) (hf:cr x.2.2.2.2 d) (hab:a<b) (hb:b<=d.length) (hB:Sort.Below (cW x.2.2.2.2) a b d.toArray)
  (hS:Self x.2.2.2.2 (b- a)) (hN:Next x (b- a)) (d0:List Int):
  L4 x (d0,((a:Int),((b:Int),(rL,(wb,wp))))) d eL/\ PE x d a b (L5 x (d0,((a:Int),((b:Int),(rL,(wb,wp))))) d eL):=by
 have hl:=hf.len
 obtain ⟨p1,p2,p3⟩:=U5 hf hab hb
 obtain ⟨Y,hY⟩: ∃Y,Y=zN (d,((a:Int),((b:Int),x.2.2.2.2))):=⟨_,rfl⟩
 rw [<- hY] at p2 p3
 obtain ⟨pv,hpv⟩: ∃pv:Nat,Y.1=(pv:Int):=⟨Y.1.toNat,by omega⟩
 rw [hpv] at p2 p3
 have e1:ae ((b:Int)- 1)=((b- 1:Nat):Int):=bT (by omega) (by omega)
 have e2:ae ((pv:Int)- (a:Int))=((pv- a:Nat):Int):=bT (by omega) (by omega)
 have e3:ae (((b- 1:Nat):Int)- ((pv- a:Nat):Int))=((b- 1- (pv- a):Nat):Int):=bT (by omega) (by omega)
 obtain ⟨r1,r2⟩:=Vm hf hab hb
 obtain ⟨Z,hZ⟩: ∃Z,Z=DL (d,((a:Int),((b:Int),x.2.2.2.2))):=⟨_,rfl⟩
 rw [<- hZ] at r2
 have VS:=pA (gD _) (by simpa using hb) hB r2.1
 have T1:=C1 (pv:=b- 1- (pv- a)) rL eL wb wp r2.2.2 (by rw [r2.2.1];exact hb) (by omega) (by omega) VS hS hN d0
 have T2:=Na (pv:=b- 1- (pv- a)) rL eL wb wp r2.2.2 (by rw [r2.2.1];exact hb) (by omega) (by omega) VS hS hN d0
 have T3:=C1 (pv:=pv) rL eL wb wp hf hb (by omega) (by omega) hB hS hN d0
 have T4:=Na (pv:=pv) rL eL wb wp hf hb (by omega) (by omega) hB hS hN d0
 refine ⟨?_,?_⟩
 ·simp only [L4,az,←hY,←hZ,hpv,e1,e2,e3]
  exact ⟨p1,fun _=>⟨r1,fun _=>⟨fun _=>T2.1,fun _=>T1.1⟩,fun _=>T1.1⟩,fun _=>⟨fun _=>⟨fun _=>⟨fun _=>T4.1,fun _=>T3.1⟩,fun _=>T3.1⟩,fun _=>T3.1⟩⟩
 ·simp only [L5,ai,←hY,←hZ,hpv,e1,e2,e3]
  split
  ·refine PE.from r2 ?_
   split
   ·split
    ·exact T2.2
    ·exact T1.2
   ·exact T1.2
  ·split
   ·split
    ·split
     ·exact T4.2
     ·exact T3.2
    ·exact T3.2
   ·exact T3.2
theorem R7 (x:PX) (N:Nat) (hS:Self x.2.2.2.2 N): ∀n,n<=N+1->Next x n:=by
 intro n
 induction n with
 |zero=>intro _ d a b eL wb wp _ _ _ h;omega
 |succ n ih=>
  intro hn d a b eL wb wp hf hab hb hlt hB
  have hl:=hf.len
  have ih:=ih (by omega)
  have hN:Next x (b- a):=fun d a2 b2 eL wb wp h1 h2 h3 h4 h5=>ih d a2 b2 eL wb wp h1 h2 h3 (by omega) h5
  have ZW:Self x.2.2.2.2 (b- a):=fun d a2 b2 eL h1 h2 h3 h4 h5=>hS d a2 b2 eL h1 h2 h3 (by omega) h5
  have e:ae ((b:Int)- (a:Int))=((b- a:Nat):Int):=bT (by omega) (by omega)
  obtain ⟨i1,i2,i3⟩:=Uh hf hab hb
  obtain ⟨h1,h2,h3⟩:=QE hf hab hb
  obtain ⟨b1,b2⟩:=TA hf hab hb
  by_cases h12:b- a<=12
  ·refine TR.of ?_ ?_
   ·rw [R9]
    simp only [az,e]
    exact ⟨fun _=>i1,fun h=>absurd (show ((b- a:Nat):Int)<=12 by omega) h⟩
   ·rw [step_eq]
    simp only [ai,e]
    rw [if_pos (by omega)]
    exact ⟨i2,i3⟩
  ·have VS:=pA (gD _) (by simpa using hb) hB b2.1
   have T1:=Ii eL (ae (eL- 1)) wb wp b2.2.2 (by omega) (by rw [b2.2.1];exact hb) VS ZW hN d
   have T2:=Ii eL eL wb wp hf (by omega) hb hB ZW hN d
   refine TR.of ?_ ?_
   ·rw [R9]
    simp only [az,e]
    exact ⟨fun h=>absurd h (show¬((b- a:Nat):Int)<=12 by omega),fun _=>⟨fun _=>h1,fun _=>⟨fun _=>⟨b1,T1.1⟩,fun _=>T2.1⟩⟩⟩
   ·rw [step_eq]
    simp only [ai,e]
    rw [if_neg (by omega)]
    split
    ·exact ⟨h2,h3⟩
    ·split
     ·exact PE.from b2 T1.2
     ·exact T2.2
theorem R6 {r:RT} {N:Nat} (hS:Self r N) {d:List Int} {a b:Nat} (eL:Int) (hf:cr r d) (hab:a<=b) (hb:b<=d.length) (hn:b- a<N+1) (hB:Sort.Below (cW r) a b d.toArray):
  B8 (d,((a:Int),((b:Int),(eL,r))))/\ Ni r d a b (Xv (d,((a:Int),((b:Int),(eL,r))))).2.1:=by
 obtain ⟨h1,h2⟩:=R7 (d,((a:Int),((b:Int),(eL,r)))) N hS (N+1) (Nat.le_refl _) d a b eL true true hf hab hb hn hB
 refine ⟨⟨h1,?_⟩,h2⟩
 exact h2.1.2.1
end
end Go.Proofs.YtlkgabjhkfhgaaaGreat
namespace Go.Proofs.YtlkgabjhkfhgaaaGreat
open Go Go.Ev Go.Proofs
theorem UD:ak Tryz.prog 106 (bf ⟨R4,.none,fun _=>False,fun x=>(false,(x.1,(false,(false,(false,false)))))⟩):=by
 intro X args hp nm k hs
 unfold bf at hs
 split at hs
 ·split at hs
  ·obtain ⟨_,h,_⟩:=br hs
   exact h.elim
  ·exact hs.elim
 ·exact hs.elim
@[reducible] noncomputable def DJ:Nat->pq
 |0=>⟨fun _=>False,fun x=>(false,(x.1,(false,(false,(false,false))))),UD⟩
 |n+1=>⟨@B8 (DJ n),@Xv (DJ n),@UW (DJ n)⟩
theorem OW (r:RT): ∀n,@Self (DJ n) r n:=by
 intro n
 induction n with
 |zero=>intro d a b eL _ _ _ h;omega
 |succ n ih=>
  intro d a b eL hf hab hb hn hB
  exact @R6 (DJ n) r n ih d a b eL hf hab hb hn hB
def B9 (x:List Int×Int×Int×Int×RT):Prop:= @aH (DJ ((x.2.2.1- x.2.1).toNat+1)) x
def UY (x:List Int×Int×Int×Int×RT):Bool×List Int×Bool×Bool×Bool×Bool:= @ct (DJ ((x.2.2.1- x.2.1).toNat+1)) x
abbrev Lb:Dh:=⟨R4,.none,B9,UY⟩
theorem UZ:ak Tryz.prog 106 (bf Lb):=by
 intro X args hp nm k hs
 unfold bf at hs
 split at hs
 rotate_left
 ·exact hs.elim
 rename_i x tc ws b hd
 refine (DJ ((x.2.2.1- x.2.1).toNat+1)).ok X args hp nm k ?_
 unfold bf
 rw [show qA hp R4 args=some (x,[],tc,ws,b) from hd]
 exact hs
theorem R5 {r:RT} {d:List Int} {a b:Nat} (eL:Int) (hf:cr r d) (hab:a<=b) (hb:b<=d.length) (hB:Sort.Below (cW r) a b d.toArray):
  B9 (d,((a:Int),((b:Int),(eL,r))))/\ Ni r d a b (UY (d,((a:Int),((b:Int),(eL,r))))).2.1:=by
 have e:(((b:Int)- (a:Int)).toNat+1)=(b- a)+1:=by omega
 show @aH (DJ (((b:Int)- (a:Int)).toNat+1)) _/\ Ni r d a b (@ct (DJ (((b:Int)- (a:Int)).toNat+1)) _).2.1
 rw [e]
 exact OW r _ d a b eL hf hab hb (by omega) hB
end Go.Proofs.YtlkgabjhkfhgaaaGreat
namespace Go.Proofs.YtlkgabjhkfhgaaaGreat
open Go Go.Ev Go.Proofs
def MY:List (Nat×Ev.Spec):=(106,bf Lb)::CK
theorem CM:ah Tryz.prog MY:=ah.add (fn:=Tryz.f106) (by kernel_rfl) UZ zv
def Cv (x:((List Int)×((List I9)×Int))):(Bool×((List Int)×Bool)):=
 (ai (Iu (IntKind.wrap IntKind.u64 (x.1.length:Int))) fun y=>
 (ai (UY (x.1,((0:Int),((x.1.length:Int),(y,x.2))))) fun aq=>
 (false,(aq.2.1,false))))
def oV (x:((List Int)×((List I9)×Int))):Prop:=
 ((vM (IntKind.wrap IntKind.u64 (x.1.length:Int)))/\
 az (Iu (IntKind.wrap IntKind.u64 (x.1.length:Int))) fun y=>
 ((B9 (x.1,((0:Int),((x.1.length:Int),(y,x.2)))))/\
 az (UY (x.1,((0:Int),((x.1.length:Int),(y,x.2))))) fun aq=>
 ((List.length aq.2.1)=(List.length x.1))))
def Vq (x:((List Int)×((List I9)×Int))):Tr (Bool×((List Int)×Bool)) true:=
 (.fn BG (IntKind.wrap IntKind.u64 (nL x.1)) fun y=>
 (.cz Lb (x.1,(z0,((nL x.1),(y,x.2)))) fun aq=>
 (.pn 0 2
 (.og ((decide ((List.length aq.2.1)=(List.length x.1)))&&true) ((List.length aq.2.1)=(List.length x.1)) (fun h=>(c7 (decide_eq_true h) rfl))
 (.ret (false,(aq.2.1,false)))))))
abbrev GR:Dh:=⟨(.pair (.row yi) (.val ug)),.none,oV,Cv⟩
theorem SB:ak Tryz.prog 74 (bf GR):=ak.Ly GR Vq (fn:=Tryz.f74) aC CM mixed (by kernel_rfl) (aA.nil _ _) (fun x=>aB.nil) (fun x=>(by kernel_rfl)) fun x r0 Q=>(by kernel_rfl)
def Jy:List (Nat×Ev.Spec):=(74,bf GR)::MY
theorem so:ah Tryz.prog Jy:=ah.add (fn:=Tryz.f74) (by kernel_rfl) SB CM
end Go.Proofs.YtlkgabjhkfhgaaaGreat
namespace Go.Proofs.YtlkgabjhkfhgaaaGreat
open Go Go.Ev Go.Proofs
theorem Zl (n:Nat):kf (n:Int):=by
 simp only [kf,u8w]
 repeat' (first|with_reducible apply And.intro|intro _)
 all_goals omega
def srt (r:RT) (d:List Int):List Int:=d.mergeSort fun x y=> !cW r y x
theorem SC {r:RT} {d:List Int} (hf:cr r d):oV (d,r)/\ (Cv (d,r)).2.1=srt r d:=by
 have hl:=hf.len
 have e:IntKind.wrap IntKind.u64 ((d.length:Nat):Int)=((d.length:Nat):Int):=by rw [SS];omega
 have h:=fun eL=>R5 (d:=d) (a:=0) (b:=d.length) eL hf (Nat.zero_le _) (Nat.le_refl _) (.inl rfl)
 refine ⟨?_,?_⟩
 ·simp only [oV,az,e]
  exact ⟨Zl _,(h _).1,(h _).2.1.2.1⟩
 ·simp only [Cv,ai,e]
  have h2:=(h (Iu ((d.length:Nat):Int))).2
  have:=Sort.sorted_unique_holds (gD r) (OC r) d.toArray _ (by simpa using h2.1.1) (by simpa using h2.2)
  simpa [srt] using this
theorem JG (r:RT) (d:List Int):(srt r d).Perm d:=List.mergeSort_perm _ _
end Go.Proofs.YtlkgabjhkfhgaaaGreat
