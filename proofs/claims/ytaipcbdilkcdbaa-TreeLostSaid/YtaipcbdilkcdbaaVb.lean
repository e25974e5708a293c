/- Plain laws: boxes of points. -/
import Derived.Test.YtaipcbdilkcdbaaTq
import Derived.Test.YtaipcbdilkcdbaaTp
import Derived.Test.YtaipcbdilkcdbaaTf
noncomputable section
set_option linter.unusedSectionVars false
set_option linter.unusedVariables false
set_option linter.unusedSimpArgs false
namespace Go.Proofs.Ytaipcbdilkcdbaa
open Go Go.Ev Go.Proofs
abbrev P3:Type:=Int×(Int×Int)
abbrev T3:Type:=P3×(P3×P3)
abbrev z3:P3:=(0,(0,0))
abbrev zT:T3:=(z3,(z3,z3))
abbrev B3:Type:=P3×P3
theorem Cv (m:Int) (hm:0<=m) (OE:m<4611686018427387904) (x:List Int) (hl:x.length<4611686018427387904):uW (m,x)/\ within (m,x)= !x.any (fun v=>decide (v< -m)||decide (v>m)):=by
 refine FO x hl _ _ _ (fun i hi=> ?_) (fun i v hv=> ?_) ?_
 ·unfold tW
  intro h
  simp only [Int.toNat_natCast];dsimp only at h ⊢;omega
 ·have hlt:=kH hv
  unfold j7
  rw [if_pos (by dsimp only;omega),Int.toNat_natCast]
  dsimp only
  rw [sH hv,cC (n:=0- m) (by omega) (by omega),show 0- m= -m by omega]
  by_cases h1:v< -m
  ·simp [h1]
  ·by_cases h2:v>m
   ·simp [h1,h2]
   ·simp [h1,h2]
 ·unfold j7
  rw [if_neg (by dsimp only;omega)]
abbrev FN (p:Int×(Int×Int)):Prop:=(-16384<=p.1/\ p.1<=16384)/\ (-16384<=p.2.1/\ p.2.1<=16384)/\ (-16384<=p.2.2/\ p.2.2<=16384)
theorem UI {α:Type} {l:List α} {bad:α->Bool} {P:α->Prop} [DecidablePred P] (h: ∀x,bad x= !decide (P x)):(!l.any bad)=decide (∀x∈l,P x):=by
 rw [Bool.eq_iff_iff]
 simp [h]
theorem uK (x:List (Int×(Int×Int))) (hl:x.length<4611686018427387904):nt x/\ x3 x=decide (∀p∈x,FN p):=by
 have hn: ∀a b c:Int,within (16384,[a,b,c])=decide (FN (a,(b,c))):=fun a b c=>by
  rw [(Cv 16384 (by omega) (by omega) [a,b,c] (by simp)).2,Bool.eq_iff_iff];simp
 rw [<- UI (bad:=fun p=> !decide (FN p)) (fun _=>rfl)]
 refine FO x hl _ _ _ (fun i hi=> ?_) (fun i v hv=> ?_) ?_
 ·unfold tR
  intro h
  simp only [Int.toNat_natCast]
  exact ⟨by omega,by omega,by omega,(Cv 16384 (by omega) (by omega) _ (by simp)).1⟩
 ·have hlt:=kH hv
  unfold jZ
  rw [if_pos (by omega),Int.toNat_natCast,sH hv]
  unfold ai
  rw [hn]
 ·unfold jZ
  rw [if_neg (by omega)]
theorem fU {S R:Type} [Inhabited R] {step:S->S⊕R} {pre:S->Prop} (n:Nat) (J:Nat->S->Prop) (Post:R->Prop)
  (h1: ∀i s,i<n->J i s->pre s/\ ((∃s',step s= .inl s'/\ J (i+1) s')\/ (∃r,step s= .inr r/\ Post r)))
  (h2: ∀s,J n s->pre s/\ ∃r,step s= .inr r/\ Post r) {s:S} (h0:J 0 s):TR step pre s Post:=by
 have key: ∀k i,i+k=n-> ∀s,J i s->TR step pre s Post:=by
  intro k
  induction k with
  |zero=>
   intro i e s hj
   have:i=n:=by omega
   subst this
   obtain ⟨hp,r,e1,hq⟩:=h2 s hj
   exact TR.stop hp e1 hq
  |succ k ih=>
   intro i e s hj
   obtain ⟨hp,⟨s',e1,hj'⟩|⟨r,e1,hq⟩⟩:=h1 i s (by omega) hj
   ·exact TR.go hp e1 (ih (i+1) (by omega) s' hj')
   ·exact TR.stop hp e1 hq
 exact key n 0 (by omega) s h0
theorem gG {α:Type} {l:List α} {i:Nat} (h:i<l.length) (d:α):l.take (i+1)=l.take i++ [l.getD i d]:=by
 rw [List.take_add_one,List.getD_eq_getElem?_getD,List.getElem?_eq_getElem h];rfl
theorem sG {α:Type} {l:List α} {i:Nat} (h:i<l.length) (d:α):l.getD i d∈l:=by
 rw [List.getD_eq_getElem?_getD,List.getElem?_eq_getElem h];exact List.getElem_mem h
theorem CB {i n:Nat} (h:i<n) (hn:n<4611686018427387904):ae ((i:Int)+1)=((i+1:Nat):Int):=cnt h hn
theorem Fj (a b:Int):iI a b<=a/\ iI a b<=b/\ (iI a b=a\/ iI a b=b):=by unfold iI;split<;>omega
theorem vR (a b:Int):a<=dJ a b/\ b<=dJ a b/\ (dJ a b=a\/ dJ a b=b):=by unfold dJ;split<;>omega
def Ig (p q:P3):Prop:=p.1<=q.1/\ p.2.1<=q.2.1/\ p.2.2<=q.2.2
structure zK (x:List P3) (b:B3):Prop where
 low: ∀p∈x,Ig b.1 p
 high: ∀p∈x,Ig p b.2
 l1: ∃p∈x,p.1=b.1.1
 l2: ∃p∈x,p.2.1=b.1.2.1
 l3: ∃p∈x,p.2.2=b.1.2.2
 h1: ∃p∈x,p.1=b.2.1
 h2: ∃p∈x,p.2.1=b.2.2.1
 h3: ∃p∈x,p.2.2=b.2.2.2
theorem zK.uniq {x:List P3} {b b':B3} (h:zK x b) (h':zK x b'):b=b':=by
 obtain ⟨⟨a1,a2,a3⟩,c1,c2,c3⟩:=b
 obtain ⟨⟨a1',a2',a3'⟩,c1',c2',c3'⟩:=b'
 obtain ⟨p1,m1,e1⟩:=h.l1
 obtain ⟨p2,m2,e2⟩:=h.l2
 obtain ⟨p3,m3,e3⟩:=h.l3
 obtain ⟨p4,m4,e4⟩:=h.h1
 obtain ⟨p5,m5,e5⟩:=h.h2
 obtain ⟨p6,m6,e6⟩:=h.h3
 obtain ⟨q1,n1,f1⟩:=h'.l1
 obtain ⟨q2,n2,f2⟩:=h'.l2
 obtain ⟨q3,n3,f3⟩:=h'.l3
 obtain ⟨q4,n4,f4⟩:=h'.h1
 obtain ⟨q5,n5,f5⟩:=h'.h2
 obtain ⟨q6,n6,f6⟩:=h'.h3
 have g1:=(h'.low p1 m1).1
 have g2:=(h'.low p2 m2).2.1
 have g3:=(h'.low p3 m3).2.2
 have g4:=(h'.high p4 m4).1
 have g5:=(h'.high p5 m5).2.1
 have g6:=(h'.high p6 m6).2.2
 have k1:=(h.low q1 n1).1
 have k2:=(h.low q2 n2).2.1
 have k3:=(h.low q3 n3).2.2
 have k4:=(h.high q4 n4).1
 have k5:=(h.high q5 n5).2.1
 have k6:=(h.high q6 n6).2.2
 dsimp only at*
 refine Prod.ext (Prod.ext ?_ (Prod.ext ?_ ?_)) (Prod.ext ?_ (Prod.ext ?_ ?_))<;>dsimp only<;>omega
theorem zK.mem {x y:List P3} {b:B3} (h:zK x b) (hm: ∀p,p∈x↔p∈y):zK y b:=by
 have ex: ∀ {Q:P3->Prop},(∃p∈x,Q p)-> ∃p∈y,Q p:=fun ⟨p,h1,h2⟩=>⟨p,(hm p).1 h1,h2⟩
 exact ⟨fun p hp=>h.low p ((hm p).2 hp),fun p hp=>h.high p ((hm p).2 hp),ex h.l1,ex h.l2,ex h.l3,ex h.h1,ex h.h2,ex h.h3⟩
theorem zK.join {x y:List P3} {a b c:B3} (ha:zK x a) (hb:zK y b) (hc:zK [a.1,a.2,b.1,b.2] c):zK (x++y) c:=by
 have la:=hc.low a.1 (by simp)
 have lb:=hc.low b.1 (by simp)
 have ua:=hc.high a.2 (by simp)
 have ub:=hc.high b.2 (by simp)
 have wa:Ig a.1 a.2:=by
  obtain ⟨p,hp,_⟩:=ha.l1
  have h1:=ha.low p hp
  have h2:=ha.high p hp
  exact ⟨Int.le_trans h1.1 h2.1,Int.le_trans h1.2.1 h2.2.1,Int.le_trans h1.2.2 h2.2.2⟩
 have wb:Ig b.1 b.2:=by
  obtain ⟨p,hp,_⟩:=hb.l1
  have h1:=hb.low p hp
  have h2:=hb.high p hp
  exact ⟨Int.le_trans h1.1 h2.1,Int.le_trans h1.2.1 h2.2.1,Int.le_trans h1.2.2 h2.2.2⟩
 obtain ⟨la1,la2,la3⟩:=la
 obtain ⟨lb1,lb2,lb3⟩:=lb
 obtain ⟨ua1,ua2,ua3⟩:=ua
 obtain ⟨ub1,ub2,ub3⟩:=ub
 obtain ⟨wa1,wa2,wa3⟩:=wa
 obtain ⟨wb1,wb2,wb3⟩:=wb
 refine ⟨fun p hp=> ?_,fun p hp=> ?_,?_,?_,?_,?_,?_,?_⟩
 ·rcases List.mem_append.1 hp with hp|hp
  ·obtain ⟨h1,h2,h3⟩:=ha.low p hp;exact ⟨by omega,by omega,by omega⟩
  ·obtain ⟨h1,h2,h3⟩:=hb.low p hp;exact ⟨by omega,by omega,by omega⟩
 ·rcases List.mem_append.1 hp with hp|hp
  ·obtain ⟨h1,h2,h3⟩:=ha.high p hp;exact ⟨by omega,by omega,by omega⟩
  ·obtain ⟨h1,h2,h3⟩:=hb.high p hp;exact ⟨by omega,by omega,by omega⟩
 ·obtain ⟨p,hp,e⟩:=hc.l1
  obtain ⟨q,hq,f⟩:=ha.l1
  obtain ⟨q',uq,f'⟩:=hb.l1
  simp only [List.mem_cons,List.not_mem_nil,or_false] at hp
  rcases hp with rfl|rfl|rfl|rfl
  ·exact ⟨q,by simp [hq],by omega⟩
  ·exact ⟨q,by simp [hq],by omega⟩
  ·exact ⟨q',by simp [uq],by omega⟩
  ·exact ⟨q',by simp [uq],by omega⟩
 ·obtain ⟨p,hp,e⟩:=hc.l2
  obtain ⟨q,hq,f⟩:=ha.l2
  obtain ⟨q',uq,f'⟩:=hb.l2
  simp only [List.mem_cons,List.not_mem_nil,or_false] at hp
  rcases hp with rfl|rfl|rfl|rfl
  ·exact ⟨q,by simp [hq],by omega⟩
  ·exact ⟨q,by simp [hq],by omega⟩
  ·exact ⟨q',by simp [uq],by omega⟩
  ·exact ⟨q',by simp [uq],by omega⟩
 ·obtain ⟨p,hp,e⟩:=hc.l3
  obtain ⟨q,hq,f⟩:=ha.l3
  obtain ⟨q',uq,f'⟩:=hb.l3
  simp only [List.mem_cons,List.not_mem_nil,or_false] at hp
  rcases hp with rfl|rfl|rfl|rfl
  ·exact ⟨q,by simp [hq],by omega⟩
  ·exact ⟨q,by simp [hq],by omega⟩
  ·exact ⟨q',by simp [uq],by omega⟩
  ·exact ⟨q',by simp [uq],by omega⟩
 ·obtain ⟨p,hp,e⟩:=hc.h1
  obtain ⟨q,hq,f⟩:=ha.h1
  obtain ⟨q',uq,f'⟩:=hb.h1
  simp only [List.mem_cons,List.not_mem_nil,or_false] at hp
  rcases hp with rfl|rfl|rfl|rfl
  ·exact ⟨q,by simp [hq],by omega⟩
  ·exact ⟨q,by simp [hq],by omega⟩
  ·exact ⟨q',by simp [uq],by omega⟩
  ·exact ⟨q',by simp [uq],by omega⟩
 ·obtain ⟨p,hp,e⟩:=hc.h2
  obtain ⟨q,hq,f⟩:=ha.h2
  obtain ⟨q',uq,f'⟩:=hb.h2
  simp only [List.mem_cons,List.not_mem_nil,or_false] at hp
  rcases hp with rfl|rfl|rfl|rfl
  ·exact ⟨q,by simp [hq],by omega⟩
  ·exact ⟨q,by simp [hq],by omega⟩
  ·exact ⟨q',by simp [uq],by omega⟩
  ·exact ⟨q',by simp [uq],by omega⟩
 ·obtain ⟨p,hp,e⟩:=hc.h3
  obtain ⟨q,hq,f⟩:=ha.h3
  obtain ⟨q',uq,f'⟩:=hb.h3
  simp only [List.mem_cons,List.not_mem_nil,or_false] at hp
  rcases hp with rfl|rfl|rfl|rfl
  ·exact ⟨q,by simp [hq],by omega⟩
  ·exact ⟨q,by simp [hq],by omega⟩
  ·exact ⟨q',by simp [uq],by omega⟩
  ·exact ⟨q',by simp [uq],by omega⟩
theorem of_inner (x:List P3) (a b c d e f g h i:Int) (j:Int):
  TR (nq x) (gF x) (a,(b,(c,(d,(e,(f,(g,(h,(i,(j,0)))))))))) fun r=>r=(iI a g,(iI b h,(iI c i,(dJ d g,(dJ e h,(dJ f i,j)))))):=by
 refine TR.go (s':=(iI a g,(b,(c,(dJ d g,(e,(f,(g,(h,(i,(j,1))))))))))) ?_ ?_ (TR.go (s':=(iI a g,(iI b h,(c,(dJ d g,(dJ e h,(f,(g,(h,(i,(j,2))))))))))) ?_ ?_ (TR.go (s':=(iI a g,(iI b h,(iI c i,(dJ d g,(dJ e h,(dJ f i,(g,(h,(i,(j,3))))))))))) ?_ ?_ (TR.stop (r:=(iI a g,(iI b h,(iI c i,(dJ d g,(dJ e h,(dJ f i,j))))))) ?_ ?_ rfl)))
 ·unfold gF;dsimp only;decide
 ·rfl
 ·unfold gF;dsimp only;decide
 ·rfl
 ·unfold gF;dsimp only;decide
 ·rfl
 ·unfold gF;dsimp only;decide
 ·rfl
theorem zK.snoc {x:List P3} {a b c d e f:Int} (h:zK x ((a,(b,c)),(d,(e,f)))) (p:P3):zK (x++ [p]) ((iI a p.1,(iI b p.2.1,iI c p.2.2)),(dJ d p.1,(dJ e p.2.1,dJ f p.2.2))):=by
 have m1:=Fj a p.1
 have m2:=Fj b p.2.1
 have m3:=Fj c p.2.2
 have m4:=vR d p.1
 have m5:=vR e p.2.1
 have m6:=vR f p.2.2
 have ex: ∀ {Q:P3->Int} {u v w:Int},(∃q∈x,Q q=u)->Q p=v->(w=u\/ w=v)-> ∃q∈x++ [p],Q q=w:=fun {Q u v w} ⟨q,h1,h2⟩ hv hw=>by
  rcases hw with rfl|rfl
  ·exact ⟨q,by simp [h1],h2⟩
  ·exact ⟨p,by simp,hv⟩
 refine ⟨fun q hq=> ?_,fun q hq=> ?_,ex h.l1 rfl m1.2.2,ex (Q:=fun q=>q.2.1) h.l2 rfl m2.2.2,ex (Q:=fun q=>q.2.2) h.l3 rfl m3.2.2,ex h.h1 rfl m4.2.2,ex (Q:=fun q=>q.2.1) h.h2 rfl m5.2.2,ex (Q:=fun q=>q.2.2) h.h3 rfl m6.2.2⟩
 ·simp only [List.mem_append,List.mem_singleton] at hq
  rcases hq with hq|rfl
  ·obtain ⟨g1,g2,g3⟩:=h.low q hq
   dsimp only at g1 g2 g3
   exact ⟨by dsimp only;omega,by dsimp only;omega,by dsimp only;omega⟩
  ·exact ⟨by dsimp only;omega,by dsimp only;omega,by dsimp only;omega⟩
 ·simp only [List.mem_append,List.mem_singleton] at hq
  rcases hq with hq|rfl
  ·obtain ⟨g1,g2,g3⟩:=h.high q hq
   dsimp only at g1 g2 g3
   exact ⟨by dsimp only;omega,by dsimp only;omega,by dsimp only;omega⟩
  ·exact ⟨by dsimp only;omega,by dsimp only;omega,by dsimp only;omega⟩
theorem xQ (a:Int):iI a a=a:=by unfold iI;split<;>rfl
theorem xO (a:Int):dJ a a=a:=by unfold dJ;split<;>rfl
theorem zK.one (p:P3):zK [p] (p,p):=by
 have:Ig p p:=⟨Int.le_refl _,Int.le_refl _,Int.le_refl _⟩
 exact ⟨fun q hq=>by simp only [List.mem_singleton] at hq;subst hq;exact this,fun q hq=>by simp only [List.mem_singleton] at hq;subst hq;exact this,⟨p,by simp,rfl⟩,⟨p,by simp,rfl⟩,⟨p,by simp,rfl⟩,⟨p,by simp,rfl⟩,⟨p,by simp,rfl⟩,⟨p,by simp,rfl⟩⟩
theorem RZ (x:List P3) (h0:0<x.length) (hl:x.length<4611686018427387904):
  TR (iw x) (lB x) ((x.getD 0 z3).1,((x.getD 0 z3).2.1,((x.getD 0 z3).2.2,((x.getD 0 z3).1,((x.getD 0 z3).2.1,((x.getD 0 z3).2.2,0)))))) fun r=>zK x ((r.1,(r.2.1,r.2.2.1)),r.2.2.2):=by
 refine fU x.length (fun i s=> ∃b:B3,s=(b.1.1,(b.1.2.1,(b.1.2.2,(b.2.1,(b.2.2.1,(b.2.2.2,(i:Int)))))))/\ ((i=0/\ b=(x.getD 0 z3,x.getD 0 z3))\/ (0<i/\ zK (x.take i) b))) _ (fun i s hi hj=> ?_) (fun s hj=> ?_) ⟨(x.getD 0 z3,x.getD 0 z3),rfl,.inl ⟨rfl,rfl⟩⟩
 ·obtain ⟨b,rfl,hb⟩:=hj
  obtain ⟨⟨a1,a2,a3⟩,a4,a5,a6⟩:=b
  have key:=of_inner x a1 a2 a3 a4 a5 a6 (x.getD i z3).1 (x.getD i z3).2.1 (x.getD i z3).2.2 (i:Int)
  refine ⟨?_,.inl ⟨_,?_,((iI a1 (x.getD i z3).1,(iI a2 (x.getD i z3).2.1,iI a3 (x.getD i z3).2.2)),(dJ a4 (x.getD i z3).1,(dJ a5 (x.getD i z3).2.1,dJ a6 (x.getD i z3).2.2))),rfl,.inr ⟨by omega,?_⟩⟩⟩
  ·unfold lB ay
   intro _
   dsimp only
   rw [Int.toNat_natCast]
   exact ⟨by omega,hi,hi,key.1⟩
  ·unfold iw ai parts
   dsimp only
   rw [if_pos (by omega),Int.toNat_natCast,key.2,CB hi hl]
  ·rw [gG hi z3]
   rcases hb with ⟨rfl,e⟩|⟨_,hb⟩
   ·simp only [Prod.mk.injEq] at e
    obtain ⟨e1,e2⟩:=e
    simp only [List.take_zero,List.nil_append]
    generalize x.getD 0 z3=p at*
    subst e1
    have e2:=e2.symm
    simp only [Prod.mk.injEq] at e2
    obtain ⟨rfl,rfl,rfl⟩:=e2
    dsimp only
    rw [xQ,xQ,xQ,xO,xO,xO]
    exact zK.one _
   ·exact hb.snoc _
 ·obtain ⟨b,rfl,hb⟩:=hj
  refine ⟨?_,(b.1.1,(b.1.2.1,(b.1.2.2,(b.2.1,(b.2.2.1,b.2.2.2))))),?_,?_⟩
  ·unfold lB
   intro q
   dsimp only at q;omega
  ·unfold iw
   dsimp only
   rw [if_neg (by omega)]
  ·rcases hb with ⟨h,_⟩|⟨_,hb⟩
   ·omega
   ·rw [List.take_length] at hb;exact hb
theorem B2 (x:List P3) (hl:x.length<4611686018427387904):nr x/\ ((x= []/\ qu x=((z3,z3),1))\/ (x≠ []/\ (¬ ∀p∈x,FN p)/\ qu x=((z3,z3),5))\/ (x≠ []/\ (∀p∈x,FN p)/\ zK x (qu x).1/\ (qu x).2=0)):=by
 obtain ⟨s1,s2⟩:=uK x hl
 unfold nr qu ay ai parts KW
 dsimp only
 by_cases h0:x= []
 ·subst h0
  exact ⟨fun q=>absurd (by decide) q,.inl ⟨rfl,rfl⟩⟩
 ·have hpos:0<x.length:=List.length_pos_iff.2 h0
  have hb: ¬((((x.length:Nat):Int)==0)=true):=by simp;exact h0
  have key:=RZ x hpos hl
  rw [if_neg hb,s2]
  by_cases hs: ∀p∈x,FN p
  ·rw [decide_eq_true hs,if_neg (by decide)]
   exact ⟨fun _=>⟨s1,fun _=>⟨by omega,hpos,hpos,by omega,hpos,hpos,key.1⟩⟩,.inr (.inr ⟨h0,hs,key.2,rfl⟩)⟩
  ·rw [decide_eq_false hs,if_pos (by decide)]
   exact ⟨fun _=>⟨s1,fun q=>absurd (by decide) q⟩,.inr (.inl ⟨h0,hs,rfl⟩)⟩
theorem Gl (b:B3) (p:P3):hasB (b,p)=true↔Ig b.1 p/\ Ig p b.2:=by
 unfold hasB ai parts Ig
 dsimp only
 by_cases h1:p.1<b.1.1
 ·rw [if_pos h1];exact ⟨fun q=>(by cases q),fun q=>absurd q.1.1 (by omega)⟩
 rw [if_neg h1]
 by_cases h2:p.1>b.2.1
 ·rw [if_pos h2];exact ⟨fun q=>(by cases q),fun q=>absurd q.2.1 (by omega)⟩
 rw [if_neg h2]
 by_cases h3:p.2.1<b.1.2.1
 ·rw [if_pos h3];exact ⟨fun q=>(by cases q),fun q=>absurd q.1.2.1 (by omega)⟩
 rw [if_neg h3]
 by_cases h4:p.2.1>b.2.2.1
 ·rw [if_pos h4];exact ⟨fun q=>(by cases q),fun q=>absurd q.2.2.1 (by omega)⟩
 rw [if_neg h4]
 by_cases h5:p.2.2<b.1.2.2
 ·rw [if_pos h5];exact ⟨fun q=>(by cases q),fun q=>absurd q.1.2.2 (by omega)⟩
 rw [if_neg h5]
 by_cases h6:p.2.2>b.2.2.2
 ·rw [if_pos h6];exact ⟨fun q=>(by cases q),fun q=>absurd q.2.2.2 (by omega)⟩
 rw [if_neg h6]
 exact ⟨fun _=>⟨⟨by omega,by omega,by omega⟩,by omega,by omega,by omega⟩,fun _=>rfl⟩
theorem uJ (b:B3):kS b/\ (kR b=true↔(FN b.1/\ FN b.2)/\ Ig b.1 b.2):=by
 obtain ⟨s1,s2⟩:=uK [b.1,b.2] (by simp)
 refine ⟨s1,?_⟩
 unfold kR ai
 rw [s2]
 dsimp only
 have hr:Ig b.1 b.1:=⟨Int.le_refl _,Int.le_refl _,Int.le_refl _⟩
 by_cases hs: ∀p∈ [b.1,b.2],FN p
 ·rw [decide_eq_true hs,if_pos rfl,Gl]
  exact ⟨fun q=>⟨⟨hs _ (by simp),hs _ (by simp)⟩,q.2⟩,fun q=>⟨hr,q.2⟩⟩
 ·rw [decide_eq_false hs,if_neg (by decide)]
  refine ⟨fun q=>(by cases q),fun q=>absurd (fun p hp=> ?_) hs⟩
  simp only [List.mem_cons,List.not_mem_nil,or_false] at hp
  rcases hp with rfl|rfl
  ·exact q.1.1
  ·exact q.1.2
theorem zK.is {x:List P3} {b:B3} (h:zK x b) (hs: ∀p∈x,FN p):(FN b.1/\ FN b.2)/\ Ig b.1 b.2:=by
 obtain ⟨p1,m1,e1⟩:=h.l1
 obtain ⟨p2,m2,e2⟩:=h.l2
 obtain ⟨p3,m3,e3⟩:=h.l3
 obtain ⟨p4,m4,e4⟩:=h.h1
 obtain ⟨p5,m5,e5⟩:=h.h2
 obtain ⟨p6,m6,e6⟩:=h.h3
 have s1:=(hs p1 m1).1
 have s2:=(hs p2 m2).2.1
 have s3:=(hs p3 m3).2.2
 have s4:=(hs p4 m4).1
 have s5:=(hs p5 m5).2.1
 have s6:=(hs p6 m6).2.2
 have a:=h.low p1 m1
 have c:=h.high p1 m1
 refine ⟨⟨?_,?_⟩,Int.le_trans a.1 c.1,Int.le_trans a.2.1 c.2.1,Int.le_trans a.2.2 c.2.2⟩
 ·rw [e1] at s1;rw [e2] at s2;rw [e3] at s3;exact ⟨s1,s2,s3⟩
 ·rw [e4] at s4;rw [e5] at s5;rw [e6] at s6;exact ⟨s4,s5,s6⟩
end Go.Proofs.Ytaipcbdilkcdbaa
namespace Go.Proofs.Ytaipcbdilkcdbaa
open Go Go.Ev Go.Proofs
def Qy (t:T3):List P3:= [t.1,t.2.1,t.2.2]
def kf (L:List T3) (pl:List Int):List P3:=pl.flatMap fun i=>Qy (L.getD i.toNat zT)
def Ae (L:List T3) (pl:List Int):Prop:= ∀i∈pl,0<=i/\ i<(L.length:Int)
def Ns (L:List T3):Prop:= ∀t∈L,∀p∈Qy t,FN p
theorem JH (L:List T3) (pl:List Int) (i:Int):kf L (pl++ [i])=kf L pl++Qy (L.getD i.toNat zT):=by simp [kf]
theorem sV (L:List T3): ∀(pl:List Int),(kf L pl).length=3*pl.length
 | []=>rfl
 |i::r=>by
  have:=sV L r
  simp only [kf,List.flatMap_cons,List.length_append,Qy,List.length_cons,List.length_nil] at this ⊢
  omega
theorem Hg {L:List T3} (hs:Ns L) {pl:List Int} (hi:Ae L pl): ∀p∈kf L pl,FN p:=fun p hp=>by
 obtain ⟨i,h1,h2⟩:=List.mem_flatMap.1 hp
 have:=hi i h1
 exact hs _ (sG (by omega) zT) p h2
theorem MT {L:List T3} {a b:List Int} (h: ∀i,i∈a↔i∈b) (p:P3):p∈kf L a↔p∈kf L b:=by
 simp only [kf,List.mem_flatMap]
 exact ⟨fun ⟨i,h1,h2⟩=>⟨i,(h i).1 h1,h2⟩,fun ⟨i,h1,h2⟩=>⟨i,(h i).2 h1,h2⟩⟩
theorem NO (L:List T3) (pl:List Int) (hi:Ae L pl) (hl:pl.length<=1000000):TR (iB (L,pl)) (nK (L,pl)) ([],0) fun r=>r=kf L pl:=by
 refine fU pl.length (fun i s=>s=(kf L (pl.take i),(i:Int))) _ (fun i s h hj=> ?_) (fun s hj=> ?_) rfl
 ·subst hj
  have hin:=hi _ (sG h 0)
  have hlt:(pl.getD i 0).toNat<L.length:=by omega
  have hlen:=sV L (pl.take i)
  rw [List.length_take] at hlen
  refine ⟨?_,.inl ⟨_,?_,rfl⟩⟩
  ·unfold nK
   intro _
   dsimp only
   rw [Int.toNat_natCast]
   exact ⟨by omega,h,h,hin,hlt,hlt,by omega⟩
  ·unfold iB
   dsimp only
   rw [if_pos (by omega),Int.toNat_natCast,CB h (by omega),gG h 0,JH];rfl
 ·subst hj
  refine ⟨?_,_,?_,rfl⟩
  ·unfold nK
   intro q
   dsimp only at q;omega
  ·unfold iB
   dsimp only
   rw [if_neg (by omega),List.take_length]
theorem u6 {L:List T3} {pl:List Int} (hi:Ae L pl) (hl:pl.length<=1000000):mQ (L,pl)/\ fT (L,pl)=(qu (kf L pl)).1:=by
 have k:=NO L pl hi hl
 have hlen:=sV L pl
 have s:=B2 (kf L pl) (by omega)
 unfold mQ fT ay ai
 rw [k.2]
 exact ⟨⟨k.1,s.1⟩,rfl⟩
theorem Ka {L:List T3} (hs:Ns L) {pl:List Int} (hi:Ae L pl) (hl:pl.length<=1000000) (h0:pl≠ []):zK (kf L pl) (fT (L,pl)):=by
 have hlen:=sV L pl
 rw [(u6 hi hl).2]
 have hne:kf L pl≠ []:=fun e=>by
  have h1:=congrArg List.length e
  have h2:=List.length_pos_iff.2 h0
  rw [hlen] at h1
  simp only [List.length_nil] at h1
  omega
 rcases (B2 (kf L pl) (by omega)).2 with ⟨e,_⟩|⟨_,e,_⟩|⟨_,_,e,_⟩
 ·exact absurd e hne
 ·exact absurd (Hg hs hi) e
 ·exact e
theorem yM (b:B3):ju b/\ 0<=(fP b).1/\ (fP b).1<3:=by
 have key:TR (cL b) (jN b) (b.1.1,(b.1.2.1,(b.1.2.2,(b.2.1,(b.2.2.1,(b.2.2.2,(0,0))))))) fun r=>0<=r/\ r<3:=by
  refine fU 3 (fun k s=> ∃m:Int,s=(b.1.1,(b.1.2.1,(b.1.2.2,(b.2.1,(b.2.2.1,(b.2.2.2,(m,(k:Int))))))))/\ 0<=m/\ m<3) _ (fun k s hk hj=> ?_) (fun s hj=> ?_) ⟨0,rfl,by decide,by decide⟩
  ·obtain ⟨m,rfl,h1,h2⟩:=hj
   have hc:ae ((k:Int)+1)=((k+1:Nat):Int):=by rw [cC (by omega) (by omega)];omega
   refine ⟨?_,.inl ?_⟩
   ·unfold jN
    intro _
    dsimp only
    omega
   ·unfold cL
    dsimp only
    rw [if_pos (by omega),hc]
    split
    ·exact ⟨_,rfl,(k:Int),rfl,by omega,by omega⟩
    ·exact ⟨_,rfl,m,rfl,h1,h2⟩
  ·obtain ⟨m,rfl,h1,h2⟩:=hj
   refine ⟨?_,m,?_,h1,h2⟩
   ·unfold jN
    intro q
    dsimp only at q;omega
   ·unfold cL
    dsimp only
    rw [if_neg (by omega)]
 obtain ⟨s1,s2⟩:=uJ b
 unfold ju fP ay ai parts
 dsimp only
 cases kR b with
 |false=>exact ⟨⟨s1,fun q=>absurd (by decide) q⟩,(show (0:Int)<=0 by decide),(show (0:Int)<3 by decide)⟩
 |true=>
  rw [if_neg (by decide)]
  exact ⟨⟨s1,fun _=>key.1⟩,key.2.1,key.2.2⟩
theorem ve (x:List Int) (h:x.length<1099511627776):eY x:=by
 unfold eY
 intro b hb
 cases b with
 |false=>exact ⟨rfl,fun _=>by omega⟩
 |true=>
  cases x with
  |nil=>exact ⟨rfl,fun q=>absurd rfl q⟩
  |cons a r=>exact absurd (hb (by simp)) (by decide)
def Vf (L:List T3) (pl:List Int):Int:=(fP (fT (L,pl))).1
def tj (L:List T3) (pl:List Int):List Int:=VA (L,Vf L pl) pl
theorem JT {L:List T3} {pl:List Int} (hi:Ae L pl) (hl:pl.length<=1000000):
  fR (L,pl)/\ mb (L,pl)=((tj L pl).take (pl.length / 2),(tj L pl).drop (pl.length / 2)):=by
 obtain ⟨b1,_⟩:=u6 hi hl
 obtain ⟨g1,g2,g3⟩:=yM (fT (L,pl))
 have hf:cJ (L,Vf L pl) pl:=⟨by omega,fun e he=>hi e he,g2,g3⟩
 obtain ⟨s1,s2⟩:=HB hf
 have yx:=(xb (L,Vf L pl) pl).length_eq
 have e1:ae (Int.tdiv ((pl.length:Nat):Int) 2)=((pl.length / 2:Nat):Int):=by
  rw [Int.tdiv_eq_ediv_of_nonneg (by omega),cC (by omega) (by omega)];omega
 have Gn: ∀x,ji x=x:=fun _=>rfl
 unfold fR mb ay ai
 simp only [Gn]
 have s2':(tS (pl,(L,(fP (fT (L,pl))).1))).2.1=tj L pl:=s2
 have hlen:(tj L pl).length=pl.length:=yx
 rw [s2',hlen,e1,Int.toNat_natCast]
 refine ⟨⟨b1,g1,ve pl (by omega),s1,⟨by omega,by omega⟩,⟨by omega,by omega⟩,by omega,by omega⟩,rfl⟩
theorem Nj (L:List T3) (pl:List Int):(tj L pl).Perm pl:=xb _ _
end Go.Proofs.Ytaipcbdilkcdbaa
