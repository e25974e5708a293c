/- Plain laws: boxes of points. -/
import Derived.Test.YtlkgabjhkfhgaaaGreatTq
import Derived.Test.YtlkgabjhkfhgaaaGreatTp
import Derived.Test.YtlkgabjhkfhgaaaGreatTf
import Derived.Test.YtlkgabjhkfhgaaaGreatUb
noncomputable section
set_option linter.unusedSectionVars false
set_option linter.unusedVariables false
set_option linter.unusedSimpArgs false
namespace Go.Proofs.YtlkgabjhkfhgaaaGreat
open Go Go.Ev Go.Proofs
abbrev P3:Type:=Int×(Int×Int)
abbrev T3:Type:=P3×(P3×P3)
abbrev z3:P3:=(0,(0,0))
abbrev zT:T3:=(z3,(z3,z3))
abbrev B3:Type:=P3×P3
theorem Df (m:Int) (hm:0<=m) (Tf:m<4611686018427387904) (x:List Int) (hl:x.length<4611686018427387904):u5 (m,x)/\ within (m,x)= !x.any (fun v=>decide (v< -m)||decide (v>m)):=by
 refine oH x hl _ _ _ (fun i hi=> ?_) (fun i v hv=> ?_) ?_
 ·unfold tW
  intro h
  simp only [Int.toNat_natCast];dsimp only at h ⊢;omega
 ·have hlt:=eu hv
  unfold jO
  rw [if_pos (by dsimp only;omega),Int.toNat_natCast]
  dsimp only
  rw [jw hv,aL (n:=0- m) (by omega) (by omega),show 0- m= -m by omega]
  by_cases h1:v< -m
  ·simp [h1]
  ·by_cases h2:v>m
   ·simp [h1,h2]
   ·simp [h1,h2]
 ·unfold jO
  rw [if_neg (by dsimp only;omega)]
abbrev fq (p:Int×(Int×Int)):Prop:=(-16384<=p.1/\ p.1<=16384)/\ (-16384<=p.2.1/\ p.2.1<=16384)/\ (-16384<=p.2.2/\ p.2.2<=16384)
theorem Xr {α:Type} {l:List α} {bad:α->Bool} {P:α->Prop} [DecidablePred P] (h: ∀x,bad x= !decide (P x)):(!l.any bad)=decide (∀x∈l,P x):=by
 rw [Bool.eq_iff_iff]
 simp [h]
theorem cK (x:List (Int×(Int×Int))) (hl:x.length<4611686018427387904):b9 x/\ cJ x=decide (∀p∈x,fq p):=by
 have hn: ∀a b c:Int,within (16384,[a,b,c])=decide (fq (a,(b,c))):=fun a b c=>by
  rw [(Df 16384 (by omega) (by omega) [a,b,c] (by simp)).2,Bool.eq_iff_iff];simp
 rw [<- Xr (bad:=fun p=> !decide (fq p)) (fun _=>rfl)]
 refine oH x hl _ _ _ (fun i hi=> ?_) (fun i v hv=> ?_) ?_
 ·unfold tP
  intro h
  simp only [Int.toNat_natCast]
  exact ⟨by omega,by omega,by omega,(Df 16384 (by omega) (by omega) _ (by simp)).1⟩
 ·have hlt:=eu hv
  unfold jM
  rw [if_pos (by omega),Int.toNat_natCast,jw hv]
  unfold ai
  rw [hn]
 ·unfold jM
  rw [if_neg (by omega)]
theorem gN {S R:Type} [Inhabited R] {step:S->S⊕R} {pre:S->Prop} (n:Nat) (J:Nat->S->Prop) (Post:R->Prop)
  (h1: ∀i s,i<n->J i s->pre s/\ ((∃s',step s= .inl s'/\ J (i+1) s')\/ (∃r,step s= .inr r/\ Post r)))
  (h2: ∀s,J n s->pre s/\ ∃r,step s= .inr r/\ Post r) {s:S} (h0:J 0 s):TR step pre s Post:=by
 have key: ∀k i,i+k=n-> ∀s,J i s->TR step pre s Post:=by
  intro k
  induction k with
  |zero=>
   intro i e s hj
   have:i=n:=by omega
   subst this
   obtain ⟨hp,r,e1,hq⟩:=h2 s hj
   exact TR.stop hp e1 hq
  |succ k ih=>
   intro i e s hj
   obtain ⟨hp,⟨s',e1,hj'⟩|⟨r,e1,hq⟩⟩:=h1 i s (by omega) hj
   ·exact TR.go hp e1 (ih (i+1) (by omega) s' hj')
   ·exact TR.stop hp e1 hq
 exact key n 0 (by omega) s h0
theorem jl {α:Type} {l:List α} {i:Nat} (h:i<l.length) (d:α):l.take (i+1)=l.take i++ [l.getD i d]:=by
 rw [List.take_add_one,List.getD_eq_getElem?_getD,List.getElem?_eq_getElem h];rfl
theorem l8 {α:Type} {l:List α} {i:Nat} (h:i<l.length) (d:α):l.getD i d∈l:=by
 rw [List.getD_eq_getElem?_getD,List.getElem?_eq_getElem h];exact List.getElem_mem h
theorem Nu {i n:Nat} (h:i<n) (hn:n<4611686018427387904):ae ((i:Int)+1)=((i+1:Nat):Int):=cnt h hn
theorem Gx (a b:Int):fe a b<=a/\ fe a b<=b/\ (fe a b=a\/ fe a b=b):=by unfold fe;split<;>omega
theorem Gu (a b:Int):a<=eI a b/\ b<=eI a b/\ (eI a b=a\/ eI a b=b):=by unfold eI;split<;>omega
def Hq (p q:P3):Prop:=p.1<=q.1/\ p.2.1<=q.2.1/\ p.2.2<=q.2.2
structure Ho (x:List P3) (b:B3):Prop where
 low: ∀p∈x,Hq b.1 p
 high: ∀p∈x,Hq p b.2
 l1: ∃p∈x,p.1=b.1.1
 l2: ∃p∈x,p.2.1=b.1.2.1
 l3: ∃p∈x,p.2.2=b.1.2.2
 h1: ∃p∈x,p.1=b.2.1
 h2: ∃p∈x,p.2.1=b.2.2.1
 h3: ∃p∈x,p.2.2=b.2.2.2
theorem Ho.join {x y:List P3} {a b c:B3} (ha:Ho x a) (hb:Ho y b) (hc:Ho [a.1,a.2,b.1,b.2] c):Ho (x++y) c:=by
 have la:=hc.low a.1 (by simp)
 have lb:=hc.low b.1 (by simp)
 have ua:=hc.high a.2 (by simp)
 have ub:=hc.high b.2 (by simp)
 have wa:Hq a.1 a.2:=by
  obtain ⟨p,hp,_⟩:=ha.l1
  have h1:=ha.low p hp
  have h2:=ha.high p hp
  exact ⟨Int.le_trans h1.1 h2.1,Int.le_trans h1.2.1 h2.2.1,Int.le_trans h1.2.2 h2.2.2⟩
 have wb:Hq b.1 b.2:=by
  obtain ⟨p,hp,_⟩:=hb.l1
  have h1:=hb.low p hp
  have h2:=hb.high p hp
  exact ⟨Int.le_trans h1.1 h2.1,Int.le_trans h1.2.1 h2.2.1,Int.le_trans h1.2.2 h2.2.2⟩
 obtain ⟨la1,la2,la3⟩:=la
 obtain ⟨lb1,lb2,lb3⟩:=lb
 obtain ⟨ua1,ua2,ua3⟩:=ua
 obtain ⟨ub1,ub2,ub3⟩:=ub
 obtain ⟨wa1,wa2,wa3⟩:=wa
 obtain ⟨wb1,wb2,wb3⟩:=wb
 refine ⟨fun p hp=> ?_,fun p hp=> ?_,?_,?_,?_,?_,?_,?_⟩
 ·rcases List.mem_append.1 hp with hp|hp
  ·obtain ⟨h1,h2,h3⟩:=ha.low p hp;exact ⟨by omega,by omega,by omega⟩
  ·obtain ⟨h1,h2,h3⟩:=hb.low p hp;exact ⟨by omega,by omega,by omega⟩
 ·rcases List.mem_append.1 hp with hp|hp
  ·obtain ⟨h1,h2,h3⟩:=ha.high p hp;exact ⟨by omega,by omega,by omega⟩
  ·obtain ⟨h1,h2,h3⟩:=hb.high p hp;exact ⟨by omega,by omega,by omega⟩
 ·obtain ⟨p,hp,e⟩:=hc.l1
  obtain ⟨q,hq,f⟩:=ha.l1
  obtain ⟨q',z8,f'⟩:=hb.l1
  simp only [List.mem_cons,List.not_mem_nil,or_false] at hp
  rcases hp with rfl|rfl|rfl|rfl
  ·exact ⟨q,by simp [hq],by omega⟩
  ·exact ⟨q,by simp [hq],by omega⟩
  ·exact ⟨q',by simp [z8],by omega⟩
  ·exact ⟨q',by simp [z8],by omega⟩
 ·obtain ⟨p,hp,e⟩:=hc.l2
  obtain ⟨q,hq,f⟩:=ha.l2
  obtain ⟨q',z8,f'⟩:=hb.l2
  simp only [List.mem_cons,List.not_mem_nil,or_false] at hp
  rcases hp with rfl|rfl|rfl|rfl
  ·exact ⟨q,by simp [hq],by omega⟩
  ·exact ⟨q,by simp [hq],by omega⟩
  ·exact ⟨q',by simp [z8],by omega⟩
  ·exact ⟨q',by simp [z8],by omega⟩
 ·obtain ⟨p,hp,e⟩:=hc.l3
  obtain ⟨q,hq,f⟩:=ha.l3
  obtain ⟨q',z8,f'⟩:=hb.l3
  simp only [List.mem_cons,List.not_mem_nil,or_false] at hp
  rcases hp with rfl|rfl|rfl|rfl
  ·exact ⟨q,by simp [hq],by omega⟩
  ·exact ⟨q,by simp [hq],by omega⟩
  ·exact ⟨q',by simp [z8],by omega⟩
  ·exact ⟨q',by simp [z8],by omega⟩
 ·obtain ⟨p,hp,e⟩:=hc.h1
  obtain ⟨q,hq,f⟩:=ha.h1
  obtain ⟨q',z8,f'⟩:=hb.h1
  simp only [List.mem_cons,List.not_mem_nil,or_false] at hp
  rcases hp with rfl|rfl|rfl|rfl
  ·exact ⟨q,by simp [hq],by omega⟩
  ·exact ⟨q,by simp [hq],by omega⟩
  ·exact ⟨q',by simp [z8],by omega⟩
  ·exact ⟨q',by simp [z8],by omega⟩
 ·obtain ⟨p,hp,e⟩:=hc.h2
  obtain ⟨q,hq,f⟩:=ha.h2
  obtain ⟨q',z8,f'⟩:=hb.h2
  simp only [List.mem_cons,List.not_mem_nil,or_false] at hp
  rcases hp with rfl|rfl|rfl|rfl
  ·exact ⟨q,by simp [hq],by omega⟩
  ·exact ⟨q,by simp [hq],by omega⟩
  ·exact ⟨q',by simp [z8],by omega⟩
  ·exact ⟨q',by simp [z8],by omega⟩
 ·obtain ⟨p,hp,e⟩:=hc.h3
  obtain ⟨q,hq,f⟩:=ha.h3
  obtain ⟨q',z8,f'⟩:=hb.h3
  simp only [List.mem_cons,List.not_mem_nil,or_false] at hp
  rcases hp with rfl|rfl|rfl|rfl
  ·exact ⟨q,by simp [hq],by omega⟩
  ·exact ⟨q,by simp [hq],by omega⟩
  ·exact ⟨q',by simp [z8],by omega⟩
  ·exact ⟨q',by simp [z8],by omega⟩
theorem of_inner (x:List P3) (a b c d e f g h i:Int) (j:Int):
  TR (m7 x) (gy x) (a,(b,(c,(d,(e,(f,(g,(h,(i,(j,0)))))))))) fun r=>r=(fe a g,(fe b h,(fe c i,(eI d g,(eI e h,(eI f i,j)))))):=by
 refine TR.go (s':=(fe a g,(b,(c,(eI d g,(e,(f,(g,(h,(i,(j,1))))))))))) ?_ ?_ (TR.go (s':=(fe a g,(fe b h,(c,(eI d g,(eI e h,(f,(g,(h,(i,(j,2))))))))))) ?_ ?_ (TR.go (s':=(fe a g,(fe b h,(fe c i,(eI d g,(eI e h,(eI f i,(g,(h,(i,(j,3))))))))))) ?_ ?_ (TR.stop (r:=(fe a g,(fe b h,(fe c i,(eI d g,(eI e h,(eI f i,j))))))) ?_ ?_ rfl)))
 ·unfold gy;dsimp only;decide
 ·rfl
 ·unfold gy;dsimp only;decide
 ·rfl
 ·unfold gy;dsimp only;decide
 ·rfl
 ·unfold gy;dsimp only;decide
 ·rfl
theorem Ho.snoc {x:List P3} {a b c d e f:Int} (h:Ho x ((a,(b,c)),(d,(e,f)))) (p:P3):Ho (x++ [p]) ((fe a p.1,(fe b p.2.1,fe c p.2.2)),(eI d p.1,(eI e p.2.1,eI f p.2.2))):=by
 have m1:=Gx a p.1
 have m2:=Gx b p.2.1
 have m3:=Gx c p.2.2
 have m4:=Gu d p.1
 have m5:=Gu e p.2.1
 have m6:=Gu f p.2.2
 have ex: ∀ {Q:P3->Int} {u v w:Int},(∃q∈x,Q q=u)->Q p=v->(w=u\/ w=v)-> ∃q∈x++ [p],Q q=w:=fun {Q u v w} ⟨q,h1,h2⟩ hv hw=>by
  rcases hw with rfl|rfl
  ·exact ⟨q,by simp [h1],h2⟩
  ·exact ⟨p,by simp,hv⟩
 refine ⟨fun q hq=> ?_,fun q hq=> ?_,ex h.l1 rfl m1.2.2,ex (Q:=fun q=>q.2.1) h.l2 rfl m2.2.2,ex (Q:=fun q=>q.2.2) h.l3 rfl m3.2.2,ex h.h1 rfl m4.2.2,ex (Q:=fun q=>q.2.1) h.h2 rfl m5.2.2,ex (Q:=fun q=>q.2.2) h.h3 rfl m6.2.2⟩
 ·simp only [List.mem_append,List.mem_singleton] at hq
  rcases hq with hq|rfl
  ·obtain ⟨g1,g2,g3⟩:=h.low q hq
   dsimp only at g1 g2 g3
   exact ⟨by dsimp only;omega,by dsimp only;omega,by dsimp only;omega⟩
  ·exact ⟨by dsimp only;omega,by dsimp only;omega,by dsimp only;omega⟩
 ·simp only [List.mem_append,List.mem_singleton] at hq
  rcases hq with hq|rfl
  ·obtain ⟨g1,g2,g3⟩:=h.high q hq
   dsimp only at g1 g2 g3
   exact ⟨by dsimp only;omega,by dsimp only;omega,by dsimp only;omega⟩
  ·exact ⟨by dsimp only;omega,by dsimp only;omega,by dsimp only;omega⟩
theorem xZ (a:Int):fe a a=a:=by unfold fe;split<;>rfl
theorem xX (a:Int):eI a a=a:=by unfold eI;split<;>rfl
theorem Ho.one (p:P3):Ho [p] (p,p):=by
 have:Hq p p:=⟨Int.le_refl _,Int.le_refl _,Int.le_refl _⟩
 exact ⟨fun q hq=>by simp only [List.mem_singleton] at hq;subst hq;exact this,fun q hq=>by simp only [List.mem_singleton] at hq;subst hq;exact this,⟨p,by simp,rfl⟩,⟨p,by simp,rfl⟩,⟨p,by simp,rfl⟩,⟨p,by simp,rfl⟩,⟨p,by simp,rfl⟩,⟨p,by simp,rfl⟩⟩
theorem UL (x:List P3) (h0:0<x.length) (hl:x.length<4611686018427387904):
  TR (hO x) (kP x) ((x.getD 0 z3).1,((x.getD 0 z3).2.1,((x.getD 0 z3).2.2,((x.getD 0 z3).1,((x.getD 0 z3).2.1,((x.getD 0 z3).2.2,0)))))) fun r=>Ho x ((r.1,(r.2.1,r.2.2.1)),r.2.2.2):=by
 refine gN x.length (fun i s=> ∃b:B3,s=(b.1.1,(b.1.2.1,(b.1.2.2,(b.2.1,(b.2.2.1,(b.2.2.2,(i:Int)))))))/\ ((i=0/\ b=(x.getD 0 z3,x.getD 0 z3))\/ (0<i/\ Ho (x.take i) b))) _ (fun i s hi hj=> ?_) (fun s hj=> ?_) ⟨(x.getD 0 z3,x.getD 0 z3),rfl,.inl ⟨rfl,rfl⟩⟩
 ·obtain ⟨b,rfl,hb⟩:=hj
  obtain ⟨⟨a1,a2,a3⟩,a4,a5,a6⟩:=b
  have key:=of_inner x a1 a2 a3 a4 a5 a6 (x.getD i z3).1 (x.getD i z3).2.1 (x.getD i z3).2.2 (i:Int)
  refine ⟨?_,.inl ⟨_,?_,((fe a1 (x.getD i z3).1,(fe a2 (x.getD i z3).2.1,fe a3 (x.getD i z3).2.2)),(eI a4 (x.getD i z3).1,(eI a5 (x.getD i z3).2.1,eI a6 (x.getD i z3).2.2))),rfl,.inr ⟨by omega,?_⟩⟩⟩
  ·unfold kP az
   intro _
   dsimp only
   rw [Int.toNat_natCast]
   exact ⟨by omega,hi,hi,key.1⟩
  ·unfold hO ai parts
   dsimp only
   rw [if_pos (by omega),Int.toNat_natCast,key.2,Nu hi hl]
  ·rw [jl hi z3]
   rcases hb with ⟨rfl,e⟩|⟨_,hb⟩
   ·simp only [Prod.mk.injEq] at e
    obtain ⟨e1,e2⟩:=e
    simp only [List.take_zero,List.nil_append]
    generalize x.getD 0 z3=p at*
    subst e1
    have e2:=e2.symm
    simp only [Prod.mk.injEq] at e2
    obtain ⟨rfl,rfl,rfl⟩:=e2
    dsimp only
    rw [xZ,xZ,xZ,xX,xX,xX]
    exact Ho.one _
   ·exact hb.snoc _
 ·obtain ⟨b,rfl,hb⟩:=hj
  refine ⟨?_,(b.1.1,(b.1.2.1,(b.1.2.2,(b.2.1,(b.2.2.1,b.2.2.2))))),?_,?_⟩
  ·unfold kP
   intro q
   dsimp only at q;omega
  ·unfold hO
   dsimp only
   rw [if_neg (by omega)]
  ·rcases hb with ⟨h,_⟩|⟨_,hb⟩
   ·omega
   ·rw [List.take_length] at hb;exact hb
theorem Cq (x:List P3) (hl:x.length<4611686018427387904):qe x/\ ((x= []/\ rZ x=((z3,z3),1))\/ (x≠ []/\ (¬ ∀p∈x,fq p)/\ rZ x=((z3,z3),5))\/ (x≠ []/\ (∀p∈x,fq p)/\ Ho x (rZ x).1/\ (rZ x).2=0)):=by
 obtain ⟨s1,s2⟩:=cK x hl
 unfold qe rZ az ai parts Mz
 dsimp only
 by_cases h0:x= []
 ·subst h0
  exact ⟨fun q=>absurd (by decide) q,.inl ⟨rfl,rfl⟩⟩
 ·have hpos:0<x.length:=List.length_pos_iff.2 h0
  have hb: ¬((((x.length:Nat):Int)==0)=true):=by simp;exact h0
  have key:=UL x hpos hl
  rw [if_neg hb,s2]
  by_cases hs: ∀p∈x,fq p
  ·rw [decide_eq_true hs,if_neg (by decide)]
   exact ⟨fun _=>⟨s1,fun _=>⟨by omega,hpos,hpos,by omega,hpos,hpos,key.1⟩⟩,.inr (.inr ⟨h0,hs,key.2,rfl⟩)⟩
  ·rw [decide_eq_false hs,if_pos (by decide)]
   exact ⟨fun _=>⟨s1,fun q=>absurd (by decide) q⟩,.inr (.inl ⟨h0,hs,rfl⟩)⟩
theorem Ie (b:B3) (p:P3):hasB (b,p)=true↔Hq b.1 p/\ Hq p b.2:=by
 unfold hasB ai parts Hq
 dsimp only
 by_cases h1:p.1<b.1.1
 ·rw [if_pos h1];exact ⟨fun q=>(by cases q),fun q=>absurd q.1.1 (by omega)⟩
 rw [if_neg h1]
 by_cases h2:p.1>b.2.1
 ·rw [if_pos h2];exact ⟨fun q=>(by cases q),fun q=>absurd q.2.1 (by omega)⟩
 rw [if_neg h2]
 by_cases h3:p.2.1<b.1.2.1
 ·rw [if_pos h3];exact ⟨fun q=>(by cases q),fun q=>absurd q.1.2.1 (by omega)⟩
 rw [if_neg h3]
 by_cases h4:p.2.1>b.2.2.1
 ·rw [if_pos h4];exact ⟨fun q=>(by cases q),fun q=>absurd q.2.2.1 (by omega)⟩
 rw [if_neg h4]
 by_cases h5:p.2.2<b.1.2.2
 ·rw [if_pos h5];exact ⟨fun q=>(by cases q),fun q=>absurd q.1.2.2 (by omega)⟩
 rw [if_neg h5]
 by_cases h6:p.2.2>b.2.2.2
 ·rw [if_pos h6];exact ⟨fun q=>(by cases q),fun q=>absurd q.2.2.2 (by omega)⟩
 rw [if_neg h6]
 exact ⟨fun _=>⟨⟨by omega,by omega,by omega⟩,by omega,by omega,by omega⟩,fun _=>rfl⟩
theorem uK (b:B3):m0 b/\ (ov b=true↔(fq b.1/\ fq b.2)/\ Hq b.1 b.2):=by
 obtain ⟨s1,s2⟩:=cK [b.1,b.2] (by simp)
 refine ⟨s1,?_⟩
 unfold ov ai
 rw [s2]
 dsimp only
 have hr:Hq b.1 b.1:=⟨Int.le_refl _,Int.le_refl _,Int.le_refl _⟩
 by_cases hs: ∀p∈ [b.1,b.2],fq p
 ·rw [decide_eq_true hs,if_pos rfl,Ie]
  exact ⟨fun q=>⟨⟨hs _ (by simp),hs _ (by simp)⟩,q.2⟩,fun q=>⟨hr,q.2⟩⟩
 ·rw [decide_eq_false hs,if_neg (by decide)]
  refine ⟨fun q=>(by cases q),fun q=>absurd (fun p hp=> ?_) hs⟩
  simp only [List.mem_cons,List.not_mem_nil,or_false] at hp
  rcases hp with rfl|rfl
  ·exact q.1.1
  ·exact q.1.2
theorem Ho.is {x:List P3} {b:B3} (h:Ho x b) (hs: ∀p∈x,fq p):(fq b.1/\ fq b.2)/\ Hq b.1 b.2:=by
 obtain ⟨p1,m1,e1⟩:=h.l1
 obtain ⟨p2,m2,e2⟩:=h.l2
 obtain ⟨p3,m3,e3⟩:=h.l3
 obtain ⟨p4,m4,e4⟩:=h.h1
 obtain ⟨p5,m5,e5⟩:=h.h2
 obtain ⟨p6,m6,e6⟩:=h.h3
 have s1:=(hs p1 m1).1
 have s2:=(hs p2 m2).2.1
 have s3:=(hs p3 m3).2.2
 have s4:=(hs p4 m4).1
 have s5:=(hs p5 m5).2.1
 have s6:=(hs p6 m6).2.2
 have a:=h.low p1 m1
 have c:=h.high p1 m1
 refine ⟨⟨?_,?_⟩,Int.le_trans a.1 c.1,Int.le_trans a.2.1 c.2.1,Int.le_trans a.2.2 c.2.2⟩
 ·rw [e1] at s1;rw [e2] at s2;rw [e3] at s3;exact ⟨s1,s2,s3⟩
 ·rw [e4] at s4;rw [e5] at s5;rw [e6] at s6;exact ⟨s4,s5,s6⟩
end Go.Proofs.YtlkgabjhkfhgaaaGreat
namespace Go.Proofs.YtlkgabjhkfhgaaaGreat
open Go Go.Ev Go.Proofs
def C5 (t:T3):List P3:= [t.1,t.2.1,t.2.2]
def mY (L:List T3) (pl:List Int):List P3:=pl.flatMap fun i=>C5 (L.getD i.toNat zT)
def G6 (L:List T3) (pl:List Int):Prop:= ∀i∈pl,0<=i/\ i<(L.length:Int)
def xC (L:List T3):Prop:= ∀t∈L,∀p∈C5 t,fq p
theorem Ld (L:List T3) (pl:List Int) (i:Int):mY L (pl++ [i])=mY L pl++C5 (L.getD i.toNat zT):=by simp [mY]
theorem tf (L:List T3): ∀(pl:List Int),(mY L pl).length=3*pl.length
 | []=>rfl
 |i::r=>by
  have:=tf L r
  simp only [mY,List.flatMap_cons,List.length_append,C5,List.length_cons,List.length_nil] at this ⊢
  omega
theorem Cb {L:List T3} (hs:xC L) {pl:List Int} (hi:G6 L pl): ∀p∈mY L pl,fq p:=fun p hp=>by
 obtain ⟨i,h1,h2⟩:=List.mem_flatMap.1 hp
 have:=hi i h1
 exact hs _ (l8 (by omega) zT) p h2
theorem PZ (L:List T3) (pl:List Int) (hi:G6 L pl) (hl:pl.length<=1000000):TR (ig (L,pl)) (nu (L,pl)) ([],0) fun r=>r=mY L pl:=by
 refine gN pl.length (fun i s=>s=(mY L (pl.take i),(i:Int))) _ (fun i s h hj=> ?_) (fun s hj=> ?_) rfl
 ·subst hj
  have hin:=hi _ (l8 h 0)
  have hlt:(pl.getD i 0).toNat<L.length:=by omega
  have hlen:=tf L (pl.take i)
  rw [List.length_take] at hlen
  refine ⟨?_,.inl ⟨_,?_,rfl⟩⟩
  ·unfold nu
   intro _
   dsimp only
   rw [Int.toNat_natCast]
   exact ⟨by omega,h,h,hin,hlt,hlt,by omega⟩
  ·unfold ig
   dsimp only
   rw [if_pos (by omega),Int.toNat_natCast,Nu h (by omega),jl h 0,Ld];rfl
 ·subst hj
  refine ⟨?_,_,?_,rfl⟩
  ·unfold nu
   intro q
   dsimp only at q;omega
  ·unfold ig
   dsimp only
   rw [if_neg (by omega),List.take_length]
theorem AI {L:List T3} {pl:List Int} (hi:G6 L pl) (hl:pl.length<=1000000):oJ (L,pl)/\ fy (L,pl)=(rZ (mY L pl)).1:=by
 have k:=PZ L pl hi hl
 have hlen:=tf L pl
 have s:=Cq (mY L pl) (by omega)
 unfold oJ fy az ai
 rw [k.2]
 exact ⟨⟨k.1,s.1⟩,rfl⟩
theorem LQ {L:List T3} (hs:xC L) {pl:List Int} (hi:G6 L pl) (hl:pl.length<=1000000) (h0:pl≠ []):Ho (mY L pl) (fy (L,pl)):=by
 have hlen:=tf L pl
 rw [(AI hi hl).2]
 have hne:mY L pl≠ []:=fun e=>by
  have h1:=congrArg List.length e
  have h2:=List.length_pos_iff.2 h0
  rw [hlen] at h1
  simp only [List.length_nil] at h1
  omega
 rcases (Cq (mY L pl) (by omega)).2 with ⟨e,_⟩|⟨_,e,_⟩|⟨_,_,e,_⟩
 ·exact absurd e hne
 ·exact absurd (Cb hs hi) e
 ·exact e
theorem Iv (b:B3):lA b/\ 0<=(mb b).1/\ (mb b).1<3:=by
 have key:TR (fU b) (jB b) (b.1.1,(b.1.2.1,(b.1.2.2,(b.2.1,(b.2.2.1,(b.2.2.2,(0,0))))))) fun r=>0<=r/\ r<3:=by
  refine gN 3 (fun k s=> ∃m:Int,s=(b.1.1,(b.1.2.1,(b.1.2.2,(b.2.1,(b.2.2.1,(b.2.2.2,(m,(k:Int))))))))/\ 0<=m/\ m<3) _ (fun k s hk hj=> ?_) (fun s hj=> ?_) ⟨0,rfl,by decide,by decide⟩
  ·obtain ⟨m,rfl,h1,h2⟩:=hj
   have hc:ae ((k:Int)+1)=((k+1:Nat):Int):=by rw [aL (by omega) (by omega)];omega
   refine ⟨?_,.inl ?_⟩
   ·unfold jB
    intro _
    dsimp only
    omega
   ·unfold fU
    dsimp only
    rw [if_pos (by omega),hc]
    split
    ·exact ⟨_,rfl,(k:Int),rfl,by omega,by omega⟩
    ·exact ⟨_,rfl,m,rfl,h1,h2⟩
  ·obtain ⟨m,rfl,h1,h2⟩:=hj
   refine ⟨?_,m,?_,h1,h2⟩
   ·unfold jB
    intro q
    dsimp only at q;omega
   ·unfold fU
    dsimp only
    rw [if_neg (by omega)]
 obtain ⟨s1,s2⟩:=uK b
 unfold lA mb az ai parts
 dsimp only
 cases ov b with
 |false=>exact ⟨⟨s1,fun q=>absurd (by decide) q⟩,(show (0:Int)<=0 by decide),(show (0:Int)<3 by decide)⟩
 |true=>
  rw [if_neg (by decide)]
  exact ⟨⟨s1,fun _=>key.1⟩,key.2.1,key.2.2⟩
theorem HE (x:List Int) (h:x.length<1099511627776):jY x:=by
 unfold jY
 intro b hb
 cases b with
 |false=>exact ⟨rfl,fun _=>by omega⟩
 |true=>
  cases x with
  |nil=>exact ⟨rfl,fun q=>absurd rfl q⟩
  |cons a r=>exact absurd (hb (by simp)) (by decide)
def axs (L:List T3) (pl:List Int):Int:=(mb (fy (L,pl))).1
def DN (L:List T3) (pl:List Int):List Int:=srt (L,axs L pl) pl
theorem Lp {L:List T3} {pl:List Int} (hi:G6 L pl) (hl:pl.length<=1000000):
  iZ (L,pl)/\ qm (L,pl)=((DN L pl).take (pl.length / 2),(DN L pl).drop (pl.length / 2)):=by
 obtain ⟨b1,_⟩:=AI hi hl
 obtain ⟨g1,g2,g3⟩:=Iv (fy (L,pl))
 have hf:cr (L,axs L pl) pl:=⟨by omega,fun e he=>hi e he,g2,g3⟩
 obtain ⟨s1,s2⟩:=SC hf
 have Ej:=(JG (L,axs L pl) pl).length_eq
 have e1:ae (Int.tdiv ((pl.length:Nat):Int) 2)=((pl.length / 2:Nat):Int):=by
  rw [Int.tdiv_eq_ediv_of_nonneg (by omega),aL (by omega) (by omega)];omega
 have Kl: ∀x,qO x=x:=fun _=>rfl
 unfold iZ qm az ai
 simp only [Kl]
 have s2':(Cv (pl,(L,(mb (fy (L,pl))).1))).2.1=DN L pl:=s2
 have hlen:(DN L pl).length=pl.length:=Ej
 rw [s2',hlen,e1,Int.toNat_natCast]
 refine ⟨⟨b1,g1,HE pl (by omega),s1,⟨by omega,by omega⟩,⟨by omega,by omega⟩,by omega,by omega⟩,rfl⟩
theorem Pm (L:List T3) (pl:List Int):(DN L pl).Perm pl:=JG _ _
end Go.Proofs.YtlkgabjhkfhgaaaGreat
namespace Go.Proofs.YtlkgabjhkfhgaaaGreat
open Go Go.Ev Go.Proofs
abbrev zB:u6:=((z3,z3),(0,(0,[])))
inductive iU (L:List T3):Nat->Int->List Int->List u6->List (List Int)->List Int->Prop
 |leaf (s:Nat) (par:Int) (pl:List Int):pl.length<=2->iU L s par pl [(fy (L,pl),(0,(0,pl)))] [pl] [par]
 | fork (s:Nat) (par:Int) (pl a b:List Int) (A B:List u6) (NA NB:List (List Int)) (UA UB:List Int):2<pl.length->(a++b).Perm pl->a.length=pl.length / 2->b.length=pl.length- pl.length / 2->a++b=DN L pl->
   iU L (s+1) s a A NA UA->iU L (s+1+A.length) s b B NB UB->
   iU L s par pl ((fy (L,pl),(((s+1:Nat):Int),(((s+1+A.length:Nat):Int),[])))::(A++B)) (pl::(NA++NB)) (par::(UA++UB))
theorem ZT {α:Type} {x:α} {A B:List α} {k:Nat} (h:k<A.length) (d:α):(x::(A++B)).getD (1+k) d=A.getD k d:=by
 rw [Nat.add_comm,List.getD_eq_getElem?_getD,List.getElem?_cons_succ,List.getElem?_append_left h,List.getD_eq_getElem?_getD]
theorem ZU {α:Type} {x:α} {A B:List α} (k n:Nat) (hn:A.length=n) (d:α):(x::(A++B)).getD (1+n+k) d=B.getD k d:=by
 subst hn
 rw [show 1+A.length+k=(A.length+k)+1 by omega,List.getD_eq_getElem?_getD,List.getElem?_cons_succ,List.getElem?_append_right (by omega),Nat.add_sub_cancel_left,List.getD_eq_getElem?_getD]
def Mj (b:u6):Bool:=b.2.1==0
structure DP (L:List T3) (s:Nat) (par:Int) (pl:List Int) (G:List u6) (N:List (List Int)) (U:List Int):Prop where
 n1:N.length=G.length
 u1:U.length=G.length
 pos:0<G.length
 n0:N.getD 0 []=pl
 u0:U.getD 0 0=par
 box: ∀k,k<G.length->(G.getD k zB).1=fy (L,N.getD k [])
 sub: ∀k,k<G.length-> ∀i∈N.getD k [],i∈pl
 ne:pl≠ []-> ∀k,k<G.length->N.getD k []≠ []
 up: ∀k,0<k->k<G.length-> ∃j,j<k/\ U.getD k 0=((s+j:Nat):Int)/\ (∀i∈N.getD k [],i∈N.getD j [])/\ ((G.getD j zB).2.1=((s+k:Nat):Int)\/ (G.getD j zB).2.2.1=((s+k:Nat):Int))
 kind: ∀k,k<G.length->((G.getD k zB).2.1=0/\ (G.getD k zB).2.2.1=0/\ (G.getD k zB).2.2.2=N.getD k []/\ (N.getD k []).length<=2)\/
  (∃r,(G.getD k zB).2.1=((s+(k+1):Nat):Int)/\ (G.getD k zB).2.2.1=((s+r:Nat):Int)/\ k+1<r/\ r<G.length/\ (G.getD k zB).2.2.2= []/\ U.getD (k+1) 0=((s+k:Nat):Int)/\ U.getD r 0=((s+k:Nat):Int)/\ (N.getD (k+1) []++N.getD r []).Perm (N.getD k [])/\ 2<(N.getD k []).length/\ (N.getD (k+1) []).length<=((N.getD k []).length+1) / 2/\ (N.getD r []).length<=((N.getD k []).length+1) / 2)
 Vu:(G.flatMap fun b=>b.2.2.2).Perm pl
 many:G.countP Mj=G.countP (fun b=> !Mj b)+1
theorem iU.facts {L:List T3} {s:Nat} {par:Int} {pl:List Int} {G:List u6} {N:List (List Int)} {U:List Int} (h:iU L s par pl G N U):DP L s par pl G N U:=by
 induction h with
 |leaf s par pl hl=>
  have h0: ∀k,k<1->k=0:=fun k hk=>by omega
  refine ⟨rfl,rfl,Nat.one_pos,rfl,rfl,fun k hk=> ?_,fun k hk i hi=> ?_,fun hp k hk=> ?_,fun k h1 h2=> ?_,fun k hk=> ?_,by simp,rfl⟩
  ·rw [h0 k hk];rfl
  ·rw [h0 k hk] at hi;exact hi
  ·rw [h0 k hk];exact hp
  ·have:=h0 k h2;omega
  ·rw [h0 k hk];exact .inl ⟨rfl,rfl,rfl,hl⟩
 |fork s par pl a b A B NA NB UA UB h2 hp ha hb he hA hB Hg Hh=>
  have hlen:((fy (L,pl),(((s+1:Nat):Int),(((s+1+A.length:Nat):Int),[])))::(A++B)).length=1+A.length+B.length:=by simp;omega
  have hpa:=Hg.pos
  have QN:=Hh.pos
  have hna:=Hg.n1
  have hnb:=Hh.n1
  have hua:=Hg.u1
  have hub:=Hh.u1
  have gA: ∀k,k<A.length->((fy (L,pl),(((s+1:Nat):Int),(((s+1+A.length:Nat):Int),[])))::(A++B)).getD (1+k) zB=A.getD k zB:=fun k hk=>ZT hk zB
  have gB: ∀k,((fy (L,pl),(((s+1:Nat):Int),(((s+1+A.length:Nat):Int),[])))::(A++B)).getD (1+A.length+k) zB=B.getD k zB:=fun k=>ZU k _ rfl zB
  have nA: ∀k,k<A.length->(pl::(NA++NB)).getD (1+k) []=NA.getD k []:=fun k hk=>ZT (by omega) []
  have nB: ∀k,(pl::(NA++NB)).getD (1+A.length+k) []=NB.getD k []:=fun k=>ZU k _ hna []
  have uA: ∀k,k<A.length->(par::(UA++UB)).getD (1+k) 0=UA.getD k 0:=fun k hk=>ZT (by omega) 0
  have uB: ∀k,(par::(UA++UB)).getD (1+A.length+k) 0=UB.getD k 0:=fun k=>ZU k _ hua 0
  have g0:((fy (L,pl),(((s+1:Nat):Int),(((s+1+A.length:Nat):Int),[])))::(A++B)).getD 0 zB=(fy (L,pl),(((s+1:Nat):Int),(((s+1+A.length:Nat):Int),[]))):=rfl
  have n0:(pl::(NA++NB)).getD 0 []=pl:=rfl
  generalize hG:((fy (L,pl),(((s+1:Nat):Int),(((s+1+A.length:Nat):Int),[])))::(A++B))=G at*
  generalize hN:(pl::(NA++NB))=N at*
  generalize hU:(par::(UA++UB))=U at*
  have rh: ∀k,k<G.length->k=0\/ (∃q,k=1+q/\ q<A.length)\/ ∃q,k=1+A.length+q/\ q<B.length:=fun k hk=>by
   rcases Nat.eq_zero_or_pos k with e|e
   ·exact .inl e
   ·rcases Nat.lt_or_ge (k- 1) A.length with e2|e2
    ·exact .inr (.inl ⟨k- 1,by omega,e2⟩)
    ·exact .inr (.inr ⟨k- 1- A.length,by omega,by omega⟩)
  have Z2: ∀i∈a,i∈pl:=fun i hi=>hp.mem_iff.1 (List.mem_append.2 (.inl hi))
  have hib: ∀i∈b,i∈pl:=fun i hi=>hp.mem_iff.1 (List.mem_append.2 (.inr hi))
  refine ⟨by rw [<- hN,<- hG];simp [hna,hnb],by rw [<- hU,<- hG];simp [hua,hub],by omega,n0,by rw [<- hU];rfl,fun k hk=> ?_,fun k hk i hi=> ?_,fun hne k hk=> ?_,fun k h1 hk=> ?_,fun k hk=> ?_,?_,?_⟩
  ·rcases rh k hk with rfl|⟨q,rfl,hq⟩|⟨q,rfl,hq⟩
   ·rw [g0,n0]
   ·rw [gA q hq,nA q hq];exact Hg.box q hq
   ·rw [gB,nB];exact Hh.box q hq
  ·rcases rh k hk with rfl|⟨q,rfl,hq⟩|⟨q,rfl,hq⟩
   ·rw [n0] at hi;exact hi
   ·rw [nA q hq] at hi;exact Z2 i (Hg.sub q hq i hi)
   ·rw [nB] at hi;exact hib i (Hh.sub q hq i hi)
  ·rcases rh k hk with rfl|⟨q,rfl,hq⟩|⟨q,rfl,hq⟩
   ·rw [n0];exact hne
   ·rw [nA q hq]
    exact Hg.ne (fun e=>by rw [e] at ha;simp at ha;omega) q hq
   ·rw [nB]
    exact Hh.ne (fun e=>by rw [e] at hb;simp at hb;omega) q hq
  ·rcases rh k hk with rfl|⟨q,rfl,hq⟩|⟨q,rfl,hq⟩
   ·omega
   ·rcases Nat.eq_zero_or_pos q with rfl|Px
    ·refine ⟨0,by omega,?_,fun i hi=> ?_,.inl ?_⟩
     ·rw [uA 0 hq,Hg.u0];rfl
     ·rw [nA 0 hq,Hg.n0] at hi;rw [n0];exact Z2 i hi
     ·rw [g0]
    ·obtain ⟨j,j1,j2,j3,j4⟩:=Hg.up q Px hq
     refine ⟨1+j,by omega,?_,fun i hi=> ?_,?_⟩
     ·rw [uA q hq,j2];omega
     ·rw [nA q hq] at hi;rw [nA j (by omega)];exact j3 i hi
     ·rw [gA j (by omega)]
      exact j4.imp (fun e=>by rw [e];omega) fun e=>by rw [e];omega
   ·rcases Nat.eq_zero_or_pos q with rfl|Px
    ·refine ⟨0,by omega,?_,fun i hi=> ?_,.inr ?_⟩
     ·rw [uB,Hh.u0];rfl
     ·rw [nB,Hh.n0] at hi;rw [n0];exact hib i hi
     ·rw [g0];dsimp only;omega
    ·obtain ⟨j,j1,j2,j3,j4⟩:=Hh.up q Px hq
     refine ⟨1+A.length+j,by omega,?_,fun i hi=> ?_,?_⟩
     ·rw [uB,j2];omega
     ·rw [nB] at hi;rw [nB];exact j3 i hi
     ·rw [gB]
      exact j4.imp (fun e=>by rw [e];omega) fun e=>by rw [e];omega
  ·rcases rh k hk with rfl|⟨q,rfl,hq⟩|⟨q,rfl,hq⟩
   ·refine .inr ⟨1+A.length,?_,?_,by omega,by omega,by rw [g0],?_,?_,?_⟩
    ·rw [g0]
    ·rw [g0];dsimp only;omega
    ·have:=uA 0 hpa
     rw [Hg.u0] at this
     exact this
    ·have:=uB 0
     rw [Hh.u0,Nat.add_zero] at this
     exact this
    ·have e1:=nA 0 hpa
     have e2:=nB 0
     rw [Hg.n0,Nat.add_zero] at e1
     rw [Hh.n0,Nat.add_zero] at e2
     rw [show 0+1=1 from rfl,e1,e2,n0];exact ⟨hp,h2,by omega,by omega⟩
   ·rcases Hg.kind q hq with ⟨k1,k2,k3,k4⟩|⟨r,k1,k2,k3,k4,k5,k6,k7,k8⟩
    ·refine .inl ?_
     rw [gA q hq,nA q hq]
     exact ⟨k1,k2,k3,k4⟩
    ·refine .inr ⟨1+r,?_,?_,by omega,by omega,?_,?_,?_,?_⟩
     ·rw [gA q hq,k1];omega
     ·rw [gA q hq,k2];omega
     ·rw [gA q hq];exact k5
     ·rw [show 1+q+1=1+(q+1) by omega,uA (q+1) (by omega),k6];omega
     ·rw [uA r k4,k7];omega
     ·rw [show 1+q+1=1+(q+1) by omega,nA (q+1) (by omega),nA r k4,nA q hq];exact k8
   ·rcases Hh.kind q hq with ⟨k1,k2,k3,k4⟩|⟨r,k1,k2,k3,k4,k5,k6,k7,k8⟩
    ·refine .inl ?_
     rw [gB,nB]
     exact ⟨k1,k2,k3,k4⟩
    ·refine .inr ⟨1+A.length+r,?_,?_,by omega,by omega,?_,?_,?_,?_⟩
     ·rw [gB,k1];omega
     ·rw [gB,k2];omega
     ·rw [gB];exact k5
     ·rw [show 1+A.length+q+1=1+A.length+(q+1) by omega,uB,k6];omega
     ·rw [uB,k7];omega
     ·rw [show 1+A.length+q+1=1+A.length+(q+1) by omega,nB,nB,nB];exact k8
  ·rw [←hG]
   simp only [List.flatMap_cons,List.flatMap_append,List.nil_append]
   exact (Hg.Vu.append Hh.Vu).trans hp
  ·rw [←hG]
   have m1:=Hg.many
   have m2:=Hh.many
   have hlf:Mj (fy (L,pl),(((s+1:Nat):Int),(((s+1+A.length:Nat):Int),([]:List Int))))=false:=by
    unfold Mj
    dsimp only
    simp
    omega
   rw [List.countP_cons_of_neg (by rw [hlf];decide),List.countP_cons_of_pos (by rw [hlf];rfl),List.countP_append,List.countP_append]
   omega
end Go.Proofs.YtlkgabjhkfhgaaaGreat
namespace Go.Proofs.YtlkgabjhkfhgaaaGreat
open Go Go.Ev Go.Proofs
theorem So {α:Type} (l:List α) (x y:α):(l++ [x]).set l.length y=l++ [y]:=by simp
theorem GO {α:Type} (l r:List α) (x y:α):(l++(x::r)).set l.length y=l++(y::r):=by simp
theorem Gc {α:Type} (l r:List α) (x d:α):(l++(x::r)).getD l.length d=x:=by simp
theorem UN (pl:List Int) (x:u6): [x].length+1<=2*pl.length\/ (pl.length=0/\ [x].length=1):=by
 rcases Nat.eq_zero_or_pos pl.length with e|e
 ·exact .inr ⟨e,rfl⟩
 ·left;simp;omega
def Grown (L:List T3) (pl:List Int) (l r:List u6):Prop:= ∃G N U,r=l++G/\ (G.length+1<=2*pl.length\/ (pl.length=0/\ G.length=1))/\ ∀par,∃U',U'.tail=U/\ iU L l.length par pl G N U'
def Av (n:Nat):Prop:= ∀L pl l,G6 L pl->pl.length<n->pl.length<=1000->l.length+3*pl.length<=100000-> @oN (tH n) (pl,(L,l))/\ Grown L pl l (@A7 (tH n) (pl,(L,l)))
theorem NV {n:Nat} (ih:Av n):Av (n+1):=by
 intro L pl l hi hn hl hb
 obtain ⟨b1,_⟩:=AI hi (by omega)
 obtain ⟨s1,s2⟩:=Lp hi (by omega)
 show @sU (tH n) (pl,(L,l))/\ Grown L pl l (@L2 (tH n) (pl,(L,l)))
 unfold sU L2 az ai
 dsimp only
 by_cases h2:((pl.length:Nat):Int)<=2
 ·rw [if_pos h2]
  have hlen:(l++ [(fy (L,pl),((0:Int),((0:Int),([]:List Int))))]).length=l.length+1:=by simp
  refine ⟨⟨b1,by omega,fun _=>⟨HE pl (by omega),by rw [hlen];omega,by rw [hlen];omega,by rw [hlen];omega,by rw [hlen];omega⟩,fun q=>absurd h2 q⟩,?_⟩
  refine ⟨[(fy (L,pl),(0,(0,pl)))],[pl],[],?_,UN pl _,fun par=>⟨[par],rfl,.leaf _ par pl (by omega)⟩⟩
  have Kl: ∀x,qO x=x:=fun _=>rfl
  rw [Kl,So,Gc l [] _ _]
 ·rw [if_neg h2,s2]
  dsimp only
  have u7:2<pl.length:=by omega
  have Ej:=Pm L pl
  have JW:=Ej.length_eq
  have hta:((DN L pl).take (pl.length / 2)).length=pl.length / 2:=by rw [List.length_take];omega
  have htb:((DN L pl).drop (pl.length / 2)).length=pl.length- pl.length / 2:=by rw [List.length_drop];omega
  have Z2:G6 L ((DN L pl).take (pl.length / 2)):=fun i h=>hi i (Ej.mem_iff.1 (List.mem_of_mem_take h))
  have hib:G6 L ((DN L pl).drop (pl.length / 2)):=fun i h=>hi i (Ej.mem_iff.1 (List.mem_of_mem_drop h))
  have hlen:(l++ [(fy (L,pl),((0:Int),((0:Int),([]:List Int))))]).length=l.length+1:=by simp
  obtain ⟨p1,G1,N1,U1,e1,g1,t1⟩:=ih L _ (l++ [(fy (L,pl),((0:Int),((0:Int),([]:List Int))))]) Z2 (by omega) (by omega) (by rw [hlen];omega)
  have Ei:(l++ [(fy (L,pl),((0:Int),((0:Int),([]:List Int))))]++G1).length=l.length+1+G1.length:=by rw [List.length_append,hlen]
  obtain ⟨p2,G2,N2,U2,e2,g2,t2⟩:=ih L _ (l++ [(fy (L,pl),((0:Int),((0:Int),([]:List Int))))]++G1) hib (by omega) (by omega) (by rw [Ei];omega)
  have e3:l++ [(fy (L,pl),((0:Int),((0:Int),([]:List Int))))]++G1++G2=l++((fy (L,pl),((0:Int),((0:Int),([]:List Int))))::(G1++G2)):=by simp
  rw [e1,e2,e3,Ei]
  have hw:ae (((l.length:Nat):Int)+1)=((l.length+1:Nat):Int):=by rw [aL (by omega) (by omega)];omega
  have L8:(l++((fy (L,pl),((0:Int),((0:Int),([]:List Int))))::(G1++G2))).length=l.length+(1+G1.length+G2.length):=by simp;omega
  have L9: ∀y:u6,(l++(y::(G1++G2))).length=l.length+(1+G1.length+G2.length):=fun y=>by simp;omega
  rw [hw,Gc,GO,Gc,GO]
  dsimp only
  refine ⟨⟨b1,by omega,fun q=>absurd q h2,fun _=>⟨s1,p1,p2,by rw [L8];omega,by rw [L8];omega,by rw [L8];omega,by rw [L8];omega,by rw [L9];omega,by rw [L9];omega,by rw [L9];omega,by rw [L9];omega⟩⟩,?_⟩
  rw [hlen] at t1
  rw [Ei] at t2
  obtain ⟨UA,_,tA⟩:=t1 ((l.length:Nat):Int)
  obtain ⟨UB,_,tB⟩:=t2 ((l.length:Nat):Int)
  refine ⟨(fy (L,pl),(((l.length+1:Nat):Int),(((l.length+1+G1.length:Nat):Int),[])))::(G1++G2),pl::(N1++N2),UA++UB,rfl,?_,fun par=>⟨par::(UA++UB),rfl,?_⟩⟩
  ·simp only [List.length_cons,List.length_append]
   omega
  ·exact .fork _ par pl _ _ G1 G2 N1 N2 UA UB u7 (by rw [List.take_append_drop];exact Ej) hta htb (List.take_append_drop _ _) tA tB
theorem Ib: ∀n,Av n
 |0=>fun L pl l _ hn=>absurd hn (Nat.not_lt_zero _)
 |n+1=>NV (Ib n)
theorem NU {L:List T3} {pl:List Int} (l:List u6) (hi:G6 L pl) (hl:pl.length<=1000) (hb:l.length<=1000):xQ (pl,(L,l))/\ ∃G N U,Qr (pl,(L,l))=l++G/\ (G.length+1<=2*pl.length\/ (pl.length=0/\ G.length=1))/\ iU L l.length (-1) pl G N U:=by
 obtain ⟨h1,G,N,U,h2,h3,h4⟩:=Ib (pl.length+1) L pl l hi (by omega) hl (by omega)
 obtain ⟨U',_,h5⟩:=h4 (-1)
 exact ⟨h1,G,N,U',h2,h3,h5⟩
end Go.Proofs.YtlkgabjhkfhgaaaGreat
