/- Sorting, plain: pdqsort sorts. -/
import Derived.Test.YtaipcbdilkcdbaaTl
noncomputable section
set_option linter.unusedSectionVars false
set_option linter.unusedVariables false
set_option linter.unusedSimpArgs false
namespace Go.Proofs.Ytaipcbdilkcdbaa
open Go Go.Ev Go.Proofs
def Lw (r:RT) (d:List Int) (a b:Nat) (d':List Int):Prop:=Out r d a b d'/\ Sort.SortedIn (c5 r) a b d'.toArray
theorem Lw.from {r:RT} {d d' e:List Int} {a b:Nat} (h:Out r d a b d') (hs:Lw r d' a b e):Lw r d a b e:=
 ⟨⟨Sort.permIn_trans _ _ _ _ _ h.1 hs.1.1,by rw [hs.1.2.1,h.2.1],hs.1.2.2⟩,hs.2⟩
section
variable [pQ]
def Self (r:RT) (N:Nat):Prop:= ∀(d:List Int) (a b:Nat) (eW:Int),cJ r d->a<=b->b<=d.length->b- a<N->Sort.Below (c5 r) a b d.toArray->
 aK (d,((a:Int),((b:Int),(eW,r))))/\ Lw r d a b (cN (d,((a:Int),((b:Int),(eW,r))))).2.1
def ND (x:PX) (d:List Int) (a b:Nat) (v:PS⊕List Int):Prop:=match v with
 | .inl s'=>TR (c6 x) (gy x) s' (Lw x.2.2.2.2 d a b)
 | .inr r'=>Lw x.2.2.2.2 d a b r'
theorem TR.of {x:PX} {s:PS} {d:List Int} {a b:Nat} (hp:gy x s) (h:ND x d a b (c6 x s)):TR (c6 x) (gy x) s (Lw x.2.2.2.2 d a b):=by
 cases e:c6 x s with
 |inl s'=>rw [e] at h;exact TR.go hp e h
 |inr r'=>rw [e] at h;exact TR.stop hp e h
theorem ND.from {x:PX} {d d':List Int} {a b:Nat} (h:Out x.2.2.2.2 d a b d') {v:PS⊕List Int} (hs:ND x d' a b v):ND x d a b v:=by
 cases v with
 |inl s'=>exact TR.mono hs fun r hr=>Lw.from h hr
 |inr r'=>exact Lw.from h hs
def Next (x:PX) (N:Nat):Prop:= ∀(d:List Int) (a b:Nat) (eW:Int) (wb wp:Bool),cJ x.2.2.2.2 d->a<=b->b<=d.length->b- a<N->Sort.Below (c5 x.2.2.2.2) a b d.toArray->
 TR (c6 x) (gy x) (d,((a:Int),((b:Int),(eW,(wb,wp))))) (Lw x.2.2.2.2 d a b)
theorem PD {x:PX} {a b pv:Nat} {d:List Int} (rM eW:Int) (wb wp:Bool) (hf:cJ x.2.2.2.2 d) (hb:b<=d.length) (hap:a<=pv) (OJ:pv<b) (hB:Sort.Below (c5 x.2.2.2.2) a b d.toArray)
  (hS:Self x.2.2.2.2 (b- a)) (hN:Next x (b- a)) (d0:List Int):
  KU x (d0,((a:Int),((b:Int),(rM,(wb,wp))))) d (pv:Int) eW/\ ND x d a b (KV x (d0,((a:Int),((b:Int),(rM,(wb,wp))))) d (pv:Int) eW):=by
 have hl:=hf.len
 obtain ⟨p1,p2,p3,p4,p5⟩:=UY hf hap OJ hb
 obtain ⟨m,hm⟩: ∃m,m=(Sort.partition (c5 x.2.2.2.2) d.toArray a b pv).1:=⟨_,rfl⟩
 obtain ⟨k1,k2,k3,k4,k5⟩:=Sort.partition_holds (c5 x.2.2.2.2) (gK _) d.toArray a b pv hap OJ (by simpa using hb)
 obtain ⟨Y,hY⟩: ∃Y,Y=bA (d,((a:Int),((b:Int),((pv:Int),x.2.2.2.2)))):=⟨_,rfl⟩
 rw [<- hY] at p2 p3 p4 p5
 rw [<- p3] at k3 k4 k5
 rw [<- hm] at p2 k1 k2 k4 k5
 have e1:ae ((m:Int)- (a:Int))=((m- a:Nat):Int):=bU (by omega) (by omega)
 have e2:ae ((b:Int)- (m:Int))=((b- m:Nat):Int):=bU (by omega) (by omega)
 have e3:ae ((m:Int)+1)=((m+1:Nat):Int):=bU (by omega) (by omega)
 have SW:=pS (gK _) (by simpa using hb) hB k3
 have ZK:Sort.Below (c5 x.2.2.2.2) a m Y.2.1.toArray:=SW.imp_right fun h i i1 i2=>h i i1 (by omega)
 have hBR:Sort.Below (c5 x.2.2.2.2) (m+1) b Y.2.1.toArray:= .inr fun i i1 i2=>k5 i (by omega) i2
 obtain ⟨l1,l2⟩:=hS Y.2.1 a m eW p5 (by omega) (by omega) (by omega) ZK
 obtain ⟨r1,r2⟩:=hS Y.2.1 (m+1) b eW p5 (by omega) (by omega) (by omega) hBR
 refine ⟨?_,?_⟩
 ·simp only [KU,ay,←hY,p2,e1,e2,e3]
  exact ⟨p1,fun _=>l1,fun _=>r1⟩
 ·simp only [KV,ai,←hY,p2,e1,e2,e3]
  split
  ·obtain ⟨E,hE⟩: ∃E,E=(cN (Y.2.1,((a:Int),((m:Int),(eW,x.2.2.2.2))))).2.1:=⟨_,rfl⟩
   rw [<- hE] at l2 ⊢
   have Ye:Sort.Below (c5 x.2.2.2.2) (m+1) b E.toArray:= .inr fun i i1 i2=>by
    rw [l2.1.1.2.1 i (.inr (by omega)),l2.1.1.2.1 (m+1- 1) (.inr (by omega))]
    exact k5 i (by omega) i2
   refine (hN E (m+1) b eW _ _ l2.1.2.2 (by omega) (by rw [l2.1.2.1];omega) (by omega) Ye).mono fun z hz=> ?_
   have Vt:Sort.SortedIn (c5 x.2.2.2.2) a m z.toArray:=fun i j i1 i2 i3=>by
    rw [hz.1.1.2.1 i (.inl (by omega)),hz.1.1.2.1 j (.inl (by omega))];exact l2.2 i j i1 i2 i3
   obtain ⟨c1,c2⟩:=LJ (gK x.2.2.2.2) (by simpa using hb) k1 k2 k3 k4 k5 l2.1.1 hz.1.1 Vt hz.2
   exact ⟨⟨c1,by rw [hz.1.2.1,l2.1.2.1,p4],hz.1.2.2⟩,c2⟩
  ·obtain ⟨E,hE⟩: ∃E,E=(cN (Y.2.1,(((m+1:Nat):Int),((b:Int),(eW,x.2.2.2.2))))).2.1:=⟨_,rfl⟩
   rw [<- hE] at r2 ⊢
   have Ye:Sort.Below (c5 x.2.2.2.2) a m E.toArray:=ZK.imp_right fun h i i1 i2=>by
    rw [r2.1.1.2.1 i (.inl (by omega)),r2.1.1.2.1 (a- 1) (.inl (by omega))]
    exact h i i1 i2
   refine (hN E a m eW _ _ r2.1.2.2 (by omega) (by rw [r2.1.2.1];omega) (by omega) Ye).mono fun z hz=> ?_
   have hsr:Sort.SortedIn (c5 x.2.2.2.2) (m+1) b z.toArray:=fun i j i1 i2 i3=>by
    rw [hz.1.1.2.1 i (.inr (by omega)),hz.1.1.2.1 j (.inr (by omega))];exact r2.2 i j i1 i2 i3
   obtain ⟨c1,c2⟩:=Iz (gK x.2.2.2.2) (by simpa using hb) k1 k2 k3 k4 k5 r2.1.1 hz.1.1 hz.2 hsr
   exact ⟨⟨c1,by rw [hz.1.2.1,r2.1.2.1,p4],hz.1.2.2⟩,c2⟩
theorem Co {x:PX} {a b pv:Nat} {d:List Int} (rM eW:Int) (wb wp:Bool) (hf:cJ x.2.2.2.2 d) (hb:b<=d.length) (hap:a<=pv) (OJ:pv<b) (hB:Sort.Below (c5 x.2.2.2.2) a b d.toArray)
  (hS:Self x.2.2.2.2 (b- a)) (hN:Next x (b- a)) (d0:List Int):
  xh x (d0,((a:Int),((b:Int),(rM,(wb,wp))))) d (pv:Int) eW/\ ND x d a b (xj x (d0,((a:Int),((b:Int),(rM,(wb,wp))))) d (pv:Int) eW):=by
 have hl:=hf.len
 obtain ⟨q1,q2⟩:=PD rM eW wb wp hf hb hap OJ hB hS hN d0
 by_cases h0:0<a
 ·have e1:ae ((a:Int)- 1)=((a- 1:Nat):Int):=bU (by omega) (by omega)
  obtain ⟨p1,p2,p3,p4,p5⟩:=UU hf hap OJ hb
  have hby:=hf.Ke (i:=a- 1) (j:=pv) (by omega) (by omega)
  refine ⟨?_,?_⟩
  ·simp only [xh,ay,e1,Int.toNat_natCast]
   exact ⟨fun _=>⟨by omega,by omega,by omega,by omega,by omega,by omega,hby,fun _=>p1,fun _=>q1⟩,fun _=>q1⟩
  ·simp only [xj,ai,e1,Int.toNat_natCast]
   rw [if_pos (by omega)]
   by_cases hlt:(!c5 x.2.2.2.2 (d.getD (a- 1) 0) (d.getD pv 0))=true
   ·rw [if_pos ((KJ _ _ _).2 hlt)]
    have YN:c5 x.2.2.2.2 d.toArray[a- 1]! d.toArray[pv]! =false:=by rw [bf,bf];simpa using hlt
    have hall:=LC (gK x.2.2.2.2) h0 hB YN
    obtain ⟨k1,k2,k3,k4,k5⟩:=Sort.partitionEqual_holds (c5 x.2.2.2.2) (gK _) d.toArray a b pv hap OJ (by simpa using hb) hall
    obtain ⟨m,hm⟩: ∃m,m=(Sort.partitionEqual (c5 x.2.2.2.2) d.toArray a b pv).1:=⟨_,rfl⟩
    obtain ⟨Y,hY⟩: ∃Y,Y=ef (d,((a:Int),((b:Int),((pv:Int),x.2.2.2.2)))):=⟨_,rfl⟩
    rw [<- hY] at p2 p3 p4 p5
    rw [<- p3] at k3 k4 k5
    rw [<- hm] at p2 k1 k2 k4 k5
    rw [<- hY,p2]
    have hc:=fun z=>Rd (gK x.2.2.2.2) (r':=z) (by simpa using hb) hall k1 k2 k3 k4 k5
    refine (hN Y.2.1 m b eW wb wp p5 k2 (by omega) (by omega) (hc d.toArray).1).mono fun z hz=> ?_
    obtain ⟨c1,c2⟩:=(hc z.toArray).2 hz.1.1 hz.2
    exact ⟨⟨c1,by rw [hz.1.2.1,p4],hz.1.2.2⟩,c2⟩
   ·rw [if_neg (fun h=>hlt ((KJ _ _ _).1 h))]
    exact q2
 ·refine ⟨?_,?_⟩
  ·simp only [xh]
   exact ⟨fun h=>absurd h (show¬((a:Int)>0) by omega),fun _=>q1⟩
  ·simp only [xj]
   rw [if_neg (by omega)]
   exact q2
theorem Lo {x:PX} {a b pv:Nat} {d:List Int} (rM eW:Int) (wb wp:Bool) (hf:cJ x.2.2.2.2 d) (hb:b<=d.length) (hap:a<=pv) (OJ:pv<b) (hB:Sort.Below (c5 x.2.2.2.2) a b d.toArray)
  (hS:Self x.2.2.2.2 (b- a)) (hN:Next x (b- a)) (d0:List Int):
  SI x (d0,((a:Int),((b:Int),(rM,(wb,wp))))) d (pv:Int) eW/\ ND x d a b (SJ x (d0,((a:Int),((b:Int),(rM,(wb,wp))))) d (pv:Int) eW):=by
 obtain ⟨p1,p2,p3⟩:=UX hf (show a<b by omega) hb hB
 obtain ⟨Y,hY⟩: ∃Y,Y=lN (d,((a:Int),((b:Int),x.2.2.2.2))):=⟨_,rfl⟩
 rw [<- hY] at p2 p3
 have SW:=pS (gK _) (by simpa using hb) hB p2.1
 obtain ⟨q1,q2⟩:=Co rM eW wb wp p2.2.2 (by rw [p2.2.1];exact hb) hap OJ SW hS hN d0
 refine ⟨?_,?_⟩
 ·simp only [SI,ay,←hY]
  exact ⟨p1,fun _=>q1⟩
 ·simp only [SJ,ai,←hY]
  split
  ·rename_i h
   exact ⟨p2,p3 h⟩
  ·exact ND.from p2 q2
theorem Gr {x:PX} {a b:Nat} {d:List Int} (rM eW:Int) (wb wp:Bool) (hf:cJ x.2.2.2.2 d) (hab:a<b) (hb:b<=d.length) (hB:Sort.Below (c5 x.2.2.2.2) a b d.toArray)
  (hS:Self x.2.2.2.2 (b- a)) (hN:Next x (b- a)) (d0:List Int):
  Km x (d0,((a:Int),((b:Int),(rM,(wb,wp))))) d eW/\ ND x d a b (Ko x (d0,((a:Int),((b:Int),(rM,(wb,wp))))) d eW):=by
 have hl:=hf.len
 obtain ⟨p1,p2,p3⟩:=Sh hf hab hb
 obtain ⟨Y,hY⟩: ∃Y,Y=zF (d,((a:Int),((b:Int),x.2.2.2.2))):=⟨_,rfl⟩
 rw [<- hY] at p2 p3
 obtain ⟨pv,YV⟩: ∃pv:Nat,Y.1=(pv:Int):=⟨Y.1.toNat,by omega⟩
 rw [YV] at p2 p3
 have e1:ae ((b:Int)- 1)=((b- 1:Nat):Int):=bU (by omega) (by omega)
 have e2:ae ((pv:Int)- (a:Int))=((pv- a:Nat):Int):=bU (by omega) (by omega)
 have e3:ae (((b- 1:Nat):Int)- ((pv- a:Nat):Int))=((b- 1- (pv- a):Nat):Int):=bU (by omega) (by omega)
 obtain ⟨r1,r2⟩:=SB hf hab hb
 obtain ⟨Z,hZ⟩: ∃Z,Z=CT (d,((a:Int),((b:Int),x.2.2.2.2))):=⟨_,rfl⟩
 rw [<- hZ] at r2
 have SW:=pS (gK _) (by simpa using hb) hB r2.1
 have T1:=Co (pv:=b- 1- (pv- a)) rM eW wb wp r2.2.2 (by rw [r2.2.1];exact hb) (by omega) (by omega) SW hS hN d0
 have T2:=Lo (pv:=b- 1- (pv- a)) rM eW wb wp r2.2.2 (by rw [r2.2.1];exact hb) (by omega) (by omega) SW hS hN d0
 have T3:=Co (pv:=pv) rM eW wb wp hf hb (by omega) (by omega) hB hS hN d0
 have T4:=Lo (pv:=pv) rM eW wb wp hf hb (by omega) (by omega) hB hS hN d0
 refine ⟨?_,?_⟩
 ·simp only [Km,ay,←hY,←hZ,YV,e1,e2,e3]
  exact ⟨p1,fun _=>⟨r1,fun _=>⟨fun _=>T2.1,fun _=>T1.1⟩,fun _=>T1.1⟩,fun _=>⟨fun _=>⟨fun _=>⟨fun _=>T4.1,fun _=>T3.1⟩,fun _=>T3.1⟩,fun _=>T3.1⟩⟩
 ·simp only [Ko,ai,←hY,←hZ,YV,e1,e2,e3]
  split
  ·refine ND.from r2 ?_
   split
   ·split
    ·exact T2.2
    ·exact T1.2
   ·exact T1.2
  ·split
   ·split
    ·split
     ·exact T4.2
     ·exact T3.2
    ·exact T3.2
   ·exact T3.2
theorem PU (x:PX) (N:Nat) (hS:Self x.2.2.2.2 N): ∀n,n<=N+1->Next x n:=by
 intro n
 induction n with
 |zero=>intro _ d a b eW wb wp _ _ _ h;omega
 |succ n ih=>
  intro hn d a b eW wb wp hf hab hb hlt hB
  have hl:=hf.len
  have ih:=ih (by omega)
  have hN:Next x (b- a):=fun d a2 b2 eW wb wp h1 h2 h3 h4 h5=>ih d a2 b2 eW wb wp h1 h2 h3 (by omega) h5
  have Vl:Self x.2.2.2.2 (b- a):=fun d a2 b2 eW h1 h2 h3 h4 h5=>hS d a2 b2 eW h1 h2 h3 (by omega) h5
  have e:ae ((b:Int)- (a:Int))=((b- a:Nat):Int):=bU (by omega) (by omega)
  obtain ⟨i1,i2,i3⟩:=RC hf hab hb
  obtain ⟨h1,h2,h3⟩:=Ow hf hab hb
  obtain ⟨b1,b2⟩:=Ra hf hab hb
  by_cases QH:b- a<=12
  ·refine TR.of ?_ ?_
   ·rw [PY]
    simp only [ay,e]
    exact ⟨fun _=>i1,fun h=>absurd (show ((b- a:Nat):Int)<=12 by omega) h⟩
   ·rw [step_eq]
    simp only [ai,e]
    rw [if_pos (by omega)]
    exact ⟨i2,i3⟩
  ·have SW:=pS (gK _) (by simpa using hb) hB b2.1
   have T1:=Gr eW (ae (eW- 1)) wb wp b2.2.2 (by omega) (by rw [b2.2.1];exact hb) SW Vl hN d
   have T2:=Gr eW eW wb wp hf (by omega) hb hB Vl hN d
   refine TR.of ?_ ?_
   ·rw [PY]
    simp only [ay,e]
    exact ⟨fun h=>absurd h (show¬((b- a:Nat):Int)<=12 by omega),fun _=>⟨fun _=>h1,fun _=>⟨fun _=>⟨b1,T1.1⟩,fun _=>T2.1⟩⟩⟩
   ·rw [step_eq]
    simp only [ai,e]
    rw [if_neg (by omega)]
    split
    ·exact ⟨h2,h3⟩
    ·split
     ·exact ND.from b2 T1.2
     ·exact T2.2
theorem PT {r:RT} {N:Nat} (hS:Self r N) {d:List Int} {a b:Nat} (eW:Int) (hf:cJ r d) (hab:a<=b) (hb:b<=d.length) (hn:b- a<N+1) (hB:Sort.Below (c5 r) a b d.toArray):
  BJ (d,((a:Int),((b:Int),(eW,r))))/\ Lw r d a b (UR (d,((a:Int),((b:Int),(eW,r))))).2.1:=by
 obtain ⟨h1,h2⟩:=PU (d,((a:Int),((b:Int),(eW,r)))) N hS (N+1) (Nat.le_refl _) d a b eW true true hf hab hb hn hB
 refine ⟨⟨h1,?_⟩,h2⟩
 exact h2.1.2.1
end
end Go.Proofs.Ytaipcbdilkcdbaa
namespace Go.Proofs.Ytaipcbdilkcdbaa
open Go Go.Ev Go.Proofs
theorem RS:av Try.prog 51 (bC ⟨PL,.none,fun _=>False,fun x=>(false,(x.1,(false,(false,(false,false)))))⟩):=by
 intro X args hp nm k hs
 unfold bC at hs
 split at hs
 ·split at hs
  ·obtain ⟨_,h,_⟩:=bh hs
   exact h.elim
  ·exact hs.elim
 ·exact hs.elim
@[reducible] noncomputable def CR:Nat->pQ
 |0=>⟨fun _=>False,fun x=>(false,(x.1,(false,(false,(false,false))))),RS⟩
 |n+1=>⟨@BJ (CR n),@UR (CR n),@R9 (CR n)⟩
theorem MQ (r:RT): ∀n,@Self (CR n) r n:=by
 intro n
 induction n with
 |zero=>intro d a b eW _ _ _ h;omega
 |succ n ih=>
  intro d a b eW hf hab hb hn hB
  exact @PT (CR n) r n ih d a b eW hf hab hb hn hB
def BK (x:List Int×Int×Int×Int×RT):Prop:= @aK (CR ((x.2.2.1- x.2.1).toNat+1)) x
def Sc (x:List Int×Int×Int×Int×RT):Bool×List Int×Bool×Bool×Bool×Bool:= @cN (CR ((x.2.2.1- x.2.1).toNat+1)) x
abbrev JE:Cz:=⟨PL,.none,BK,Sc⟩
theorem Sd:av Try.prog 51 (bC JE):=by
 intro X args hp nm k hs
 unfold bC at hs
 split at hs
 rotate_left
 ·exact hs.elim
 rename_i x tc ws b hd
 refine (CR ((x.2.2.1- x.2.1).toNat+1)).ok X args hp nm k ?_
 unfold bC
 rw [show qN hp PL args=some (x,[],tc,ws,b) from hd]
 exact hs
theorem PN {r:RT} {d:List Int} {a b:Nat} (eW:Int) (hf:cJ r d) (hab:a<=b) (hb:b<=d.length) (hB:Sort.Below (c5 r) a b d.toArray):
  BK (d,((a:Int),((b:Int),(eW,r))))/\ Lw r d a b (Sc (d,((a:Int),((b:Int),(eW,r))))).2.1:=by
 have e:(((b:Int)- (a:Int)).toNat+1)=(b- a)+1:=by omega
 show @aK (CR (((b:Int)- (a:Int)).toNat+1)) _/\ Lw r d a b (@cN (CR (((b:Int)- (a:Int)).toNat+1)) _).2.1
 rw [e]
 exact MQ r _ d a b eW hf hab hb (by omega) hB
end Go.Proofs.Ytaipcbdilkcdbaa
namespace Go.Proofs.Ytaipcbdilkcdbaa
open Go Go.Ev Go.Proofs
def Lg:List (Nat×Ev.Spec):=(51,bC JE)::Cd
theorem Cf:ah Try.prog Lg:=ah.add (fn:=Try.f51) (by kernel_rfl) Sd ze
def tS (x:((List Int)×((List I9)×Int))):(Bool×((List Int)×Bool)):=
 (ai (GK (IntKind.wrap IntKind.u64 (x.1.length:Int))) fun y=>
 (ai (Sc (x.1,((0:Int),((x.1.length:Int),(y,x.2))))) fun aq=>
 (false,(aq.2.1,false))))
def kV (x:((List Int)×((List I9)×Int))):Prop:=
 ((vN (IntKind.wrap IntKind.u64 (x.1.length:Int)))/\
 ay (GK (IntKind.wrap IntKind.u64 (x.1.length:Int))) fun y=>
 ((BK (x.1,((0:Int),((x.1.length:Int),(y,x.2)))))/\
 ay (Sc (x.1,((0:Int),((x.1.length:Int),(y,x.2))))) fun aq=>
 ((List.length aq.2.1)=(List.length x.1))))
def SF (x:((List Int)×((List I9)×Int))):Tr (Bool×((List Int)×Bool)) true:=
 (.fn Bh (IntKind.wrap IntKind.u64 (nL x.1)) fun y=>
 (.cV JE (x.1,(z0,((nL x.1),(y,x.2)))) fun aq=>
 (.pn 0 2
 (.og ((decide ((List.length aq.2.1)=(List.length x.1)))&&true) ((List.length aq.2.1)=(List.length x.1)) (fun h=>(cj (decide_eq_true h) rfl))
 (.ret (false,(aq.2.1,false)))))))
abbrev z8:Cz:=⟨(.pair (.row yi) (.val uc)),.none,kV,tS⟩
theorem Ql:av Try.prog 38 (bC z8):=av.Ln z8 SF (fn:=Try.f38) aQ Cf mixed (by kernel_rfl) (aD.nil _ _) (fun x=>aB.nil) (fun x=>(by kernel_rfl)) fun x r0 Q=>(by kernel_rfl)
def HW:List (Nat×Ev.Spec):=(38,bC z8)::Lg
theorem sg:ah Try.prog HW:=ah.add (fn:=Try.f38) (by kernel_rfl) Ql Cf
end Go.Proofs.Ytaipcbdilkcdbaa
namespace Go.Proofs.Ytaipcbdilkcdbaa
open Go Go.Ev Go.Proofs
theorem WW (n:Nat):kE (n:Int):=by
 simp only [kE,Zv]
 repeat' (first|with_reducible apply And.intro|intro _)
 all_goals omega
def VA (r:RT) (d:List Int):List Int:=d.mergeSort fun x y=> !c5 r y x
theorem HB {r:RT} {d:List Int} (hf:cJ r d):kV (d,r)/\ (tS (d,r)).2.1=VA r d:=by
 have hl:=hf.len
 have e:IntKind.wrap IntKind.u64 ((d.length:Nat):Int)=((d.length:Nat):Int):=by rw [Qz];omega
 have h:=fun eW=>PN (d:=d) (a:=0) (b:=d.length) eW hf (Nat.zero_le _) (Nat.le_refl _) (.inl rfl)
 refine ⟨?_,?_⟩
 ·simp only [kV,ay,e]
  exact ⟨WW _,(h _).1,(h _).2.1.2.1⟩
 ·simp only [tS,ai,e]
  have h2:=(h (GK ((d.length:Nat):Int))).2
  have:=Sort.sorted_unique_holds (gK r) (Dv r) d.toArray _ (by simpa using h2.1.1) (by simpa using h2.2)
  simpa [VA] using this
theorem xb (r:RT) (d:List Int):(VA r d).Perm d:=List.mergeSort_perm _ _
end Go.Proofs.Ytaipcbdilkcdbaa
