/- Plain laws: meshes. -/
import Derived.Test.YtojielnkfeoccaaGreatQe
import Derived.Test.YtojielnkfeoccaaGreatAa
import Derived.Test.YtojielnkfeoccaaGreatQa
noncomputable section
set_option linter.unusedSectionVars false
set_option linter.unusedVariables false
set_option linter.unusedSimpArgs false
namespace Go.Proofs.YtojielnkfeoccaaGreat
open Go Go.Ev Go.Proofs
abbrev Lp (p:Int×(Int×Int)):Prop:=(-1048576<=p.1/\ p.1<=1048576)/\ (-1048576<=p.2.1/\ p.2.1<=1048576)/\ (-1048576<=p.2.2/\ p.2.2<=1048576)
theorem BU (x:List (Int×Int×Int)) (hl:x.length<4611686018427387904):BV x/\ ZK x=decide (∀p∈x,Lp p):=by
 have hn: ∀a b c:Int,near [a,b,c]=decide (Lp (a,b,c)):=fun a b c=>by
  rw [(xB [a,b,c] (by simp)).2,Bool.eq_iff_iff];simp
 rw [<- MT (bad:=fun p=> !decide (Lp p)) (fun _=>rfl)]
 refine pG x hl _ _ _ (fun i hi=> ?_) (fun i v hv=> ?_) ?_
 ·unfold C8
  intro h
  simp only [Int.toNat_natCast]
  exact ⟨by omega,by omega,by omega,(xB _ (by simp)).1⟩
 ·have hlt:=cU hv
  unfold oC
  rw [if_pos (by omega),Int.toNat_natCast,gY hv]
  unfold au
  rw [hn]
 ·unfold oC
  rw [if_neg (by omega)]
abbrev P3:Type:=Int×(Int×Int)
abbrev T3:Type:=P3×(P3×P3)
abbrev vZ:Type:=List P3×(List P2×List P3×List T3)
theorem hU {α:Type} {b c:Bool} {A B X:α} (h:X=if (!c)=true then A else B):(if (!b)=true then A else X)=if (!(b&&c))=true then A else B:=by
 cases b<;>simp [h]
def W3 (m:vZ) (t:T3):Bool:=
 among (t.1.1,((m.1.length:Nat):Int),false)&&(among (t.1.2.1,((m.2.1.length:Nat):Int),true)&&(among (t.1.2.2,((m.2.2.1.length:Nat):Int),true)&&((decide (t.1.2.1<0)==decide (t.1.2.1<0))&&((decide (t.1.2.2<0)==decide (t.1.2.2<0))&&
 (among (t.2.1.1,((m.1.length:Nat):Int),false)&&(among (t.2.1.2.1,((m.2.1.length:Nat):Int),true)&&(among (t.2.1.2.2,((m.2.2.1.length:Nat):Int),true)&&((decide (t.2.1.2.1<0)==decide (t.1.2.1<0))&&((decide (t.2.1.2.2<0)==decide (t.1.2.2<0))&&
 (among (t.2.2.1,((m.1.length:Nat):Int),false)&&(among (t.2.2.2.1,((m.2.1.length:Nat):Int),true)&&(among (t.2.2.2.2,((m.2.2.1.length:Nat):Int),true)&&((decide (t.2.2.2.1<0)==decide (t.1.2.1<0))&&(decide (t.2.2.2.2<0)==decide (t.1.2.2<0)))))))))))))))
def Qd (m:vZ):Bool:=decide (m.1.length<=2000/\ m.2.1.length<=2000/\ m.2.2.1.length<=2000/\ m.2.2.2.length<=500)
theorem YX (a b c k:Int):aS (aS a b) c<=k↔a<=k/\ b<=k/\ c<=k:=by
 unfold aS;split<;>split<;>omega
theorem adT (a b c k:Int):k<=aO (aO a b) c↔k<=a/\ k<=b/\ k<=c:=by
 unfold aO;split<;>split<;>omega
theorem TH (m:vZ):TG m=Qd m:=by
 obtain ⟨a,b,c,d⟩:=m
 unfold TG Qd
 dsimp only
 rw [Bool.eq_iff_iff,decide_eq_true_iff]
 split
 ·rename_i h
  rw [YX] at h
  rw [decide_eq_true_iff];omega
 ·rename_i h
  rw [YX] at h
  refine ⟨fun h=>(by cases h),fun q=>absurd ?_ h⟩
  omega
def xx (m:vZ):Bool:=Qd m&&decide (∀p∈m.1,Lp p)&&decide (∀p∈m.2.1,Rz p)&&decide (∀p∈m.2.2.1,Lp p)&&m.2.2.2.all (W3 m)
theorem Vy {α:Type} (l:List α) (f:α->Bool):(!l.any fun x=> !f x)=l.all f:=by
 induction l with
 |nil=>rfl
 |cons a r ih=>simp only [List.any_cons,List.all_cons,Bool.not_or,Bool.not_not,ih]
theorem Ka (m:vZ) (h:m.2.2.2.length<=500):Term (fW m) (pg m) 0/\ Sum.elim (fun _=>false) (fun _=>true) (run (fW m) 0)=m.2.2.2.all (W3 m):=by
 rw [<- Vy]
 refine pG m.2.2.2 (by omega) (fun t=> !W3 m t) _ _ (fun i hi=> ?_) (fun i t ht=> ?_) ?_
 ·unfold pg
  intro h
  simp only [Int.toNat_natCast]
  exact ⟨⟨by omega,h⟩,by omega,by omega⟩
 ·have hlt:=cU ht
  unfold fW
  rw [if_pos (by omega),Int.toNat_natCast,gY ht]
  dsimp only [au]
  unfold W3
  exact hU (hU (hU (hU (hU (hU (hU (hU (hU (hU (hU (hU (hU (hU rfl)))))))))))))
 ·unfold fW
  rw [if_neg (by omega)]
theorem NZ {m:vZ} (h:Qd m=true):m.1.length<=2000/\ m.2.1.length<=2000/\ m.2.2.1.length<=2000/\ m.2.2.2.length<=500:=by
 unfold Qd at h;exact of_decide_eq_true h
theorem jr (m:vZ):kL m/\ pe m=xx m:=by
 unfold kL pe xx
 dsimp only [aM,au]
 rw [TH]
 cases hf:Qd m with
 |false=>exact ⟨fun h=>absurd rfl h,rfl⟩
 |true=>
  obtain ⟨h1,h2,h3,h4⟩:=NZ hf
  rw [(BU m.1 (by omega)).2,(tH m.2.1 (by omega)).2,(BU m.2.2.1 (by omega)).2,(Ka m h4).2]
  refine ⟨fun _=>⟨(BU m.1 (by omega)).1,fun _=>⟨(tH m.2.1 (by omega)).1,fun _=>⟨(BU m.2.2.1 (by omega)).1,fun _=>(Ka m h4).1⟩⟩⟩,?_⟩
  generalize decide (∀p∈m.1,Lp p)=b1
  generalize decide (∀p∈m.2.1,Rz p)=b2
  generalize decide (∀p∈m.2.2.1,Lp p)=b3
  cases b1<;>cases b2<;>cases b3<;>simp
abbrev Nr (p:P3):Prop:=(-4096<=p.1/\ p.1<=4096)/\ (-4096<=p.2.1/\ p.2.1<=4096)/\ (-4096<=p.2.2/\ p.2.2<=4096)
theorem NW (p:P3):Z9 p= !decide (Nr p):=by
 obtain ⟨x,y,z⟩:=p
 have h1:=YX x y z 4096
 have h2:=adT x y z (-4096)
 unfold Z9
 dsimp only
 rw [Bool.eq_iff_iff,Bool.not_eq_true',decide_eq_false_iff_not]
 split
 ·exact ⟨fun _=>by dsimp only [Nr];omega,fun _=>rfl⟩
 ·rw [decide_eq_true_iff]
  dsimp only [Nr];omega
theorem rP (l:List P3) (hl:l.length<4611686018427387904) (b:Bool):mX (l,b)/\ qg (l,b)= !decide (∀p∈l,Nr p):=by
 have hh:=ny l hl Z9 (gF (l,false)) (nx (l,false)) (fun i hi=>by
   unfold nx
   intro h
   simp only [Int.toNat_natCast];dsimp only at h ⊢;omega) (fun i x hx=>by
   have hlt:=cU hx
   unfold gF
   dsimp only [au]
   rw [if_pos (by omega),Int.toNat_natCast,gY hx]) (by
   unfold gF
   dsimp only
   rw [if_neg (by omega)])
 refine ⟨hh.1,?_⟩
 unfold qg HK
 dsimp only [au]
 rw [hh.2,wM]
 rw [Bool.eq_iff_iff,List.any_eq_true,Bool.not_eq_true',decide_eq_false_iff_not]
 constructor
 ·rintro ⟨x,h1,h2⟩ h3
  rw [NW,Bool.not_eq_true',decide_eq_false_iff_not] at h2
  exact h2 (h3 x h1)
 ·intro h
  refine Classical.byContradiction fun h2=>h fun p hp=>Classical.byContradiction fun h3=>h2 ⟨p,hp,?_⟩
  rw [NW,Bool.not_eq_true',decide_eq_false_iff_not];exact h3
def US (m:vZ):Bool:=xx m&&decide (∀p∈m.1,Nr p)
theorem Dm {m:vZ} (h:xx m=true):m.1.length<=2000/\ m.2.1.length<=2000/\ m.2.2.1.length<=2000/\ m.2.2.2.length<=500:=by
 unfold xx at h
 simp only [Bool.and_eq_true] at h
 exact NZ h.1.1.1.1
theorem K7 (m:vZ):sZ m/\ K6 m=US m:=by
 unfold sZ K6 US
 dsimp only [aM,au]
 rw [(jr m).2]
 refine ⟨⟨(jr m).1,fun h=>(rP _ (by have:=Dm h;omega) _).1⟩,?_⟩
 cases h:xx m with
 |false=>rfl
 |true=>
  rw [if_pos rfl,(rP _ (by have:=Dm h;omega) _).2,Bool.not_not,Bool.true_and]
def Tr (m:vZ) (i:Int):T3:=m.2.2.2.getD i.toNat ((0,0,0),(0,0,0),0,0,0)
abbrev Has (m:vZ) (i:Int):Prop:=0<=i/\ i<m.2.2.2.length
end Go.Proofs.YtojielnkfeoccaaGreat
namespace Go.Proofs.YtojielnkfeoccaaGreat
open Go Go.Ev Go.Proofs
theorem dj {S R:Type} [Inhabited R] {step:S->S⊕R} {pre:S->Prop} (n:Nat) (J:Nat->S->Prop) (Post:R->Prop)
  (h1: ∀i s,i<n->J i s->pre s/\ ((∃s',step s= .inl s'/\ J (i+1) s')\/ (∃r,step s= .inr r/\ Post r)))
  (h2: ∀s,J n s->pre s/\ ∃r,step s= .inr r/\ Post r) {s:S} (h0:J 0 s):TR step pre s Post:=by
 have key: ∀k i,i+k=n-> ∀s,J i s->TR step pre s Post:=by
  intro k
  induction k with
  |zero=>
   intro i e s hj
   have:i=n:=by omega
   subst this
   obtain ⟨hp,r,e1,hq⟩:=h2 s hj
   exact TR.stop hp e1 hq
  |succ k ih=>
   intro i e s hj
   obtain ⟨hp,⟨s',e1,hj'⟩|⟨r,e1,hq⟩⟩:=h1 i s (by omega) hj
   ·exact TR.go hp e1 (ih (i+1) (by omega) s' hj')
   ·exact TR.stop hp e1 hq
 exact key n 0 (by omega) s h0
theorem iU {α:Type} {l:List α} {i:Nat} (h:i<l.length) (d:α):l.take (i+1)=l.take i++ [l.getD i d]:=by
 rw [List.take_add_one,List.getD_eq_getElem?_getD,List.getElem?_eq_getElem h];rfl
theorem fc {α:Type} {l:List α} {i:Nat} (h:i<l.length) (d:α):l.getD i d∈l:=by
 rw [List.getD_eq_getElem?_getD,List.getElem?_eq_getElem h];exact List.getElem_mem h
theorem Jh {i n:Nat} (h:i<n) (hn:n<4611686018427387904):aj ((i:Int)+1)=((i+1:Nat):Int):=cnt h hn
def uc (v:Int):Prop:=1<=v/\ v<=256
end Go.Proofs.YtojielnkfeoccaaGreat
namespace Go.Proofs.YtojielnkfeoccaaGreat
open Go Go.Ev Go.Proofs
abbrev G5:Type:=Int×(Int×Int×Int)
abbrev zR:G5:=(0,0,0,0)
def XU (w h:Int) (r:G5):Prop:=(1<=r.2.2.1/\ 1<=r.2.2.2)/\ (0<=r.1/\ 0<=r.2.1)/\ r.1+r.2.2.1<=w/\ r.2.1+r.2.2.2<=h
def Ph (a b:G5):Prop:=a.1+a.2.2.1<=b.1\/ b.1+b.2.2.1<=a.1\/ a.2.1+a.2.2.2<=b.2.1\/ b.2.1+b.2.2.2<=a.2.1
theorem Ph.symm {a b:G5} (h:Ph a b):Ph b a:=by unfold Ph at*;omega
theorem wrap64 {n:Int} (h1:0<=n) (h2:n<18446744073709551616):IntKind.wrap IntKind.u64 n=n:=by
 unfold IntKind.wrap
 simp [IntKind.bits,IntKind.signed]
 omega
theorem qd {a n b:Int} (ha:0<=a) (hn:0<=n) (hb:0<=b) (ha2:a<1000) (Mc:n<1000) (iW:b<1000):behind (a,n,b)=decide (a+n<=b):=by
 unfold behind
 dsimp only
 by_cases h:b>=a
 ·rw [if_pos h,wrap64 hb (by omega),wrap64 ha (by omega),wrap64 hn (by omega),wrap64 (by omega) (by omega),decide_eq_decide]
  omega
 ·rw [if_neg h];symm;exact decide_eq_false (by omega)
theorem DN {w h:Int} (hw:uc w) (hh:uc h) {a b:G5} (ha:XU w h a) (hb:XU w h b):Iw (a,b)=true↔Ph a b:=by
 obtain ⟨⟨a1,a2⟩,⟨a3,a4⟩,a5,a6⟩:=ha
 obtain ⟨⟨b1,b2⟩,⟨b3,b4⟩,b5,b6⟩:=hb
 obtain ⟨_,w2⟩:=hw
 obtain ⟨_,h2⟩:=hh
 have n1: ¬a.2.2.1<=0:=by omega
 have n2: ¬a.2.2.2<=0:=by omega
 have n3: ¬b.2.2.1<=0:=by omega
 have n4: ¬b.2.2.2<=0:=by omega
 have k1:=qd (a:=a.1) (n:=a.2.2.1) (b:=b.1) (by omega) (by omega) (by omega) (by omega) (by omega) (by omega)
 have k2:=qd (a:=b.1) (n:=b.2.2.1) (b:=a.1) (by omega) (by omega) (by omega) (by omega) (by omega) (by omega)
 have k3:=qd (a:=a.2.1) (n:=a.2.2.2) (b:=b.2.1) (by omega) (by omega) (by omega) (by omega) (by omega) (by omega)
 have k4:=qd (a:=b.2.1) (n:=b.2.2.2) (b:=a.2.1) (by omega) (by omega) (by omega) (by omega) (by omega) (by omega)
 unfold Iw OP au
 dsimp only
 rw [if_neg n1,if_neg n2,if_neg n3,if_neg n4,k1,k2,k3,k4]
 unfold Ph
 simp only [decide_eq_true_eq]
 by_cases c1:a.1+a.2.2.1<=b.1
 ·simp [c1]
 ·by_cases c2:b.1+b.2.2.1≤a.1
  ·simp [c1,c2]
  ·by_cases c3:a.2.1+a.2.2.2≤b.2.1
   ·simp [c1,c2,c3]
   ·simp [c1,c2,c3]
theorem Ew (l:List G5) (hl:l.length<4611686018427387904) (r:G5):oT (l,r)/\ tf (l,r)=l.any fun o=>Kh (o,r):=by
 have h:=ny l hl (fun o=>Kh (o,r)) (iG (l,r)) (pb (l,r)) (fun i hi=>by
   unfold pb
   intro h
   simp only [Int.toNat_natCast]
   dsimp only at h ⊢;omega) (fun i x hx=>by
   have hlt:=cU hx
   unfold iG au
   rw [if_pos (by dsimp only;omega),Int.toNat_natCast]
   dsimp only
   rw [gY hx]) (by
   unfold iG
   rw [if_neg (by dsimp only;omega)])
 refine ⟨h.1,?_⟩
 have e:Ms (l,r)=_:=h.2
 unfold tf au
 rw [e]
 exact wM l _
def RB (w h:Int) (l:List G5):Prop:= ∀i,i<l.length->XU w h (l.getD i zR)/\ ∀k,k<i->Ph (l.getD k zR) (l.getD i zR)
theorem Uz {w h:Int} (hw:uc w) (hh:uc h) (l:List G5) (hl:l.length<4611686018427387904):DR (w,h,l)/\ (Uy (w,h,l)=true↔RB w h l):=by
 have key:TR (kj (w,h,l)) (oM (w,h,l)) 0 fun r=>(r= .inl ()/\ ¬RB w h l)\/ (r= .inr ()/\ RB w h l):=by
  refine dj l.length (fun i s=>s=(i:Int)/\ ∀j,j<i->XU w h (l.getD j zR)/\ ∀k,k<j->Ph (l.getD k zR) (l.getD j zR)) _ (fun i s hi hj=> ?_) (fun s hj=> ?_) ⟨rfl,fun j hj=>absurd hj (Nat.not_lt_zero _)⟩
  ·obtain ⟨e,hJ⟩:=hj
   subst e
   have L7:(¬(XU w h (l.getD i zR)/\ ∀k,k<i->Ph (l.getD k zR) (l.getD i zR)))-> ¬RB w h l:=fun q q'=>q (q' i hi)
   obtain ⟨c1,c2⟩:=Ew (l.take i) (by rw [List.length_take];omega) (l.getD i zR)
   have m1:=da (l.getD i zR).2.2.1 (l.getD i zR).2.2.2
   have m2:=da (l.getD i zR).1 (l.getD i zR).2.1
   have Wa:=hw
   have BS:=hh
   obtain ⟨w1,w2⟩:=hw
   obtain ⟨h1,h2⟩:=hh
   refine ⟨?_,?_⟩
   ·unfold oM
    intro _
    dsimp only
    rw [Int.toNat_natCast]
    exact ⟨by omega,hi,hi,fun _ _ _ _ _ _=>⟨by omega,c1⟩⟩
   ·unfold kj au
    dsimp only
    rw [if_pos (by omega),Int.toNat_natCast]
    by_cases d1:aO (l.getD i zR).2.2.1 (l.getD i zR).2.2.2<1
    ·rw [if_pos d1]
     exact .inr ⟨_,rfl,.inl ⟨rfl,L7 fun q=>by have:=q.1.1;omega⟩⟩
    rw [if_neg d1]
    by_cases d2:aO (l.getD i zR).1 (l.getD i zR).2.1<0
    ·rw [if_pos d2]
     exact .inr ⟨_,rfl,.inl ⟨rfl,L7 fun q=>by have:=q.1.2.1;omega⟩⟩
    rw [if_neg d2]
    by_cases d3:(l.getD i zR).2.2.1>w
    ·rw [if_pos d3]
     exact .inr ⟨_,rfl,.inl ⟨rfl,L7 fun q=>by have:=q.1.2.2.1;have:=q.1.2.1;omega⟩⟩
    rw [if_neg d3]
    by_cases d4:(l.getD i zR).2.2.2>h
    ·rw [if_pos d4]
     exact .inr ⟨_,rfl,.inl ⟨rfl,L7 fun q=>by have:=q.1.2.2.2;have:=q.1.2.1;omega⟩⟩
    rw [if_neg d4,bf (n:=w- (l.getD i zR).2.2.1) (by omega) (by omega)]
    by_cases d5:(l.getD i zR).1>w- (l.getD i zR).2.2.1
    ·rw [if_pos d5]
     exact .inr ⟨_,rfl,.inl ⟨rfl,L7 fun q=>by have:=q.1.2.2.1;omega⟩⟩
    rw [if_neg d5,bf (n:=h- (l.getD i zR).2.2.2) (by omega) (by omega)]
    by_cases d6:(l.getD i zR).2.1>h- (l.getD i zR).2.2.2
    ·rw [if_pos d6]
     exact .inr ⟨_,rfl,.inl ⟨rfl,L7 fun q=>by have:=q.1.2.2.2;omega⟩⟩
    rw [if_neg d6,c2]
    have hin:XU w h (l.getD i zR):=⟨⟨by omega,by omega⟩,⟨by omega,by omega⟩,by omega,by omega⟩
    have aav:((l.take i).any fun o=>Kh (o,l.getD i zR))=false↔ ∀k,k<i->Ph (l.getD k zR) (l.getD i zR):=by
     rw [List.any_eq_false]
     constructor
     ·intro q k hk
      have hm:l.getD k zR∈l.take i:=by
       have:l.getD k zR=(l.take i).getD k zR:=by rw [List.getD_eq_getElem?_getD,List.getD_eq_getElem?_getD,List.getElem?_take,if_pos hk]
       rw [this];exact fc (by rw [List.length_take];omega) _
      have:=q _ hm
      unfold Kh au at this
      exact (DN Wa BS (hJ k hk).1 hin).1 (by simpa using this)
     ·intro q o ho
      obtain ⟨k,hk,rfl⟩:=List.getElem_of_mem ho
      rw [List.length_take] at hk
      have e:(l.take i)[k]=l.getD k zR:=by
       rw [List.getElem_take,List.getD_eq_getElem?_getD,List.getElem?_eq_getElem (by omega)];rfl
      rw [e]
      unfold Kh au
      rw [(DN Wa BS (hJ k (by omega)).1 hin).2 (q k (by omega))];simp
    cases hc:(l.take i).any fun o=>Kh (o,l.getD i zR) with
    |true=>
     rw [if_pos rfl]
     refine .inr ⟨_,rfl,.inl ⟨rfl,L7 fun q=> ?_⟩⟩
     rw [aav.2 q.2] at hc;cases hc
    |false=>
     rw [if_neg (by decide)]
     refine .inl ⟨_,rfl,Jh hi hl,fun j hj=> ?_⟩
     rcases Nat.lt_or_ge j i with Yt|Yt
     ·exact hJ j Yt
     ·have:j=i:=by omega
      subst this
      exact ⟨hin,aav.1 hc⟩
  ·obtain ⟨e,hJ⟩:=hj
   subst e
   refine ⟨?_,.inr (),?_,.inr ⟨rfl,hJ⟩⟩
   ·unfold oM
    intro q
    dsimp only at q;omega
   ·unfold kj
    rw [if_neg (by dsimp only;omega)]
 refine ⟨key.1,?_⟩
 unfold Uy au
 rcases key.2 with ⟨e,hn⟩|⟨e,hy⟩
 ·rw [e];exact ⟨fun q=>(by cases q),fun q=>absurd q hn⟩
 ·rw [e];exact ⟨fun _=>hy,fun _=>rfl⟩
end Go.Proofs.YtojielnkfeoccaaGreat
