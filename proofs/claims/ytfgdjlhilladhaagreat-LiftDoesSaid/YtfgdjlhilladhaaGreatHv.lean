/- Plain laws: the document's answers for layers 9 to 11 are the program's. -/
import Derived.Test.YtfgdjlhilladhaaGreatHu
import Derived.Test.YtfgdjlhilladhaaGreatLb
noncomputable section
set_option linter.unusedSectionVars false
set_option linter.unusedVariables false
set_option linter.unusedSimpArgs false
namespace Go.Proofs.YtfgdjlhilladhaaGreat
open Go Go.Ev Go.Proofs
theorem vO (p:Int×(Int×Int)):mF p=decide (Cw p):=by
 unfold mF
 rw [Bool.eq_iff_iff,decide_eq_true_iff]
 split<;>(try split)<;>(try split)<;>(try split)<;>(try split)<;>simp<;>omega
theorem uq {a b c:Int×Int} (ha:Sm a) (hb:Sm b) (hc:Sm c):kf (a,b,c)=(c8 a b c,0):=by
 rw [Cf]
 exact if_pos ⟨ha,hb,hc⟩
theorem LV {a b c p:Int×Int} (hp:Sm p) (ha:Sm a) (hb:Sm b) (hc:Sm c):aj ((fu (a,b,c)).1*(fu (a,b,p)).1)=Sd a b c p:=by
 rw [vN,if_pos ⟨ha,hb,hc⟩,vN,if_pos ⟨ha,hb,hp⟩]
 have:=HS a b c p
 unfold Sd at this ⊢
 dsimp only
 rw [ay (by omega) (by omega)]
theorem afI (a b c p:Int×Int):bK ((a,b,c),(0:Int),p)/\ dL ((a,b,c),(0:Int),p)=aj ((fu (a,b,c)).1*(fu (a,b,p)).1):=by
 refine ⟨?_,by rfl⟩
 unfold bK az
 dsimp only
 exact ⟨by decide,by decide,by decide,by decide,by decide,by decide,by decide,by decide,by decide,by decide⟩
theorem afJ (a b c p:Int×Int):bK ((a,b,c),(1:Int),p)/\ dL ((a,b,c),(1:Int),p)=aj ((fu (b,c,a)).1*(fu (b,c,p)).1):=by
 refine ⟨?_,by rfl⟩
 unfold bK az
 dsimp only
 exact ⟨by decide,by decide,by decide,by decide,by decide,by decide,by decide,by decide,by decide,by decide⟩
theorem afK (a b c p:Int×Int):bK ((a,b,c),(2:Int),p)/\ dL ((a,b,c),(2:Int),p)=aj ((fu (c,a,b)).1*(fu (c,a,p)).1):=by
 refine ⟨?_,by rfl⟩
 unfold bK az
 dsimp only
 exact ⟨by decide,by decide,by decide,by decide,by decide,by decide,by decide,by decide,by decide,by decide⟩
theorem iY (p a b c:Int×Int):tZ (p,a,b,c)/\ O1 (p,a,b,c)=if Sm p then (if Right a b c then (InV p a b c,0) else (0,1)) else (0,5):=by
 refine ⟨?_,?_⟩
 ·unfold tZ az
  exact fun _ _=>⟨(afI a b c p).1,(afJ a b c p).1,(afK a b c p).1⟩
 ·unfold O1
  dsimp only [aq]
  rw [dk,jP]
  by_cases hp:Sm p
  ·rw [decide_eq_true hp,if_neg (by decide),if_pos hp]
   by_cases hr:Right a b c
   ·obtain ⟨⟨ha,hb,hc⟩,hne⟩:=id hr
    rw [decide_eq_true hr,if_neg (by decide),if_pos hr,(afI a b c p).2,(afJ a b c p).2,(afK a b c p).2,LV hp ha hb hc,LV hp hb hc ha,LV hp hc ha hb]
    have h1:=HS a b c p
    have h2:=HS b c a p
    have h3:=HS c a b p
    rw [ay (by unfold aG;split<;>split<;>split<;>omega) (by unfold aG;split<;>split<;>split<;>omega)]
    rfl
   ·rw [decide_eq_false hr,if_pos (by decide),if_neg hr]
  ·rw [decide_eq_false hp,if_pos (by decide),if_neg hp]
theorem qR (x:Int×Int):yw x:=fun h=>⟨fun _ _=>by
  have h0:x.2≠0:=by simpa using h
  exact ⟨h0,h0⟩,fun _=>by
  have h0:x.2≠0:=by simpa using h
  exact ⟨h0,h0⟩⟩
theorem yg {a b:Int} (h1: -9223372036854775808<=a) (h2:a<=9223372036854775807) (hb:0<b) (kH:b<=9223372036854775807):kL (a,b)=a / b:=by
 have h3:=Int.emod_nonneg a (show b≠0 by omega)
 have h4:=Int.emod_lt_of_pos a hb
 have h6:=Int.mul_ediv_add_emod a b
 have h5: -9223372036854775808<=a / b/\ a / b<=9223372036854775807:=by
  by_cases ha:0<=a
  ·have:=Int.ediv_nonneg ha (show 0≤b by omega)
   have:=Int.ediv_le_self b ha
   omega
  ·have hq:=Int.ediv_neg_of_neg_of_pos (show a<0 by omega) hb
   have e:=Int.mul_nonneg (show 0<=b- 1 by omega) (show 0<= -(a / b)- 1 by omega)
   have e':(b- 1)*(-(a / b)- 1)= -(b*(a / b))- b+a / b+1:=by grind
   omega
 obtain ⟨t1,t2⟩:=tdm (a:=a) hb
 have core:(if ((Int.tmod a b) !=(0:Int))=true then (if ((!((decide ((Int.tmod a b)<(0:Int)))==(decide (b<(0:Int)))))=true) then ((aj ((aj (Int.tdiv a b))- (1:Int))),(aj ((Int.tmod a b)+b)),(0:Int)) else ((aj (Int.tdiv a b)),(Int.tmod a b),(0:Int))) else ((aj (Int.tdiv a b)),(Int.tmod a b),(0:Int)))=(a / b,a % b,0):=by
  by_cases hc:a.tmod b≠0/\ a<0
  ·obtain ⟨e1,e2⟩:=t1 hc
   have hn:a / b<0:=Int.ediv_neg_of_neg_of_pos hc.2 hb
   rw [if_pos (by simpa using hc.1),if_pos (by rw [e2];simp;omega),e1,e2,ay (n:=a / b+1) (by omega) (by omega),ay (by omega) (by omega),ay (by omega) (by omega)]
   congr 1
   ·omega
   ·congr 1;omega
  ·obtain ⟨e1,e2⟩:=t2 hc
   rw [e1,e2,ay (n:=a / b) (by omega) (by omega)]
   split
   ·rw [if_neg (by simp;omega)]
   ·rfl
 unfold kL Se
 dsimp only [aq]
 rw [if_neg (by simp;omega),core]
 split
 ·rw [if_neg (by simp;omega)]
 ·rfl
theorem s5 {p a:Int×Int} (hp:Sm p) (ha:Sm a):jQ (p,a)=Sq p a:=by
 have s:=Qz hp ha
 have s1:=sq_nonneg (p.1- a.1)
 have s2:=sq_nonneg (p.2- a.2)
 have e1:(a.1- p.1)*(a.1- p.1)=(p.1- a.1)*(p.1- a.1):=by grind
 have e2:(a.2- p.2)*(a.2- p.2)=(p.2- a.2)*(p.2- a.2):=by grind
 unfold Sq at s
 unfold jQ
 dsimp only
 rw [ay (n:=a.1- p.1) (by omega) (by omega),ay (n:=a.2- p.2) (by omega) (by omega),e1,e2,ay (n:=(p.1- a.1)*(p.1- a.1)) (by omega) (by omega),ay (n:=(p.2- a.2)*(p.2- a.2)) (by omega) (by omega),ay (by omega) (by omega)]
 rfl
theorem oO (p a b:Int×Int):jB (p,a,b)/\ kM (p,a,b)=if Sm p/\ Sm a/\ Sm b then ((w7 p a b).1,(w7 p a b).2.1,(w7 p a b).2.2,0) else ((0,0),0,(0,0),5):=by
 refine ⟨?_,?_⟩
 ·unfold jB az
  exact fun _ _ _ _ _ _=>⟨qR _,qR _⟩
 unfold kM
 dsimp only [aq]
 rw [dk,dk,dk]
 by_cases hp:Sm p
 ·rw [decide_eq_true hp,if_neg (by decide)]
  by_cases ha:Sm a
  ·rw [decide_eq_true ha,if_neg (by decide)]
   by_cases hb:Sm b
   ·rw [decide_eq_true hb,if_neg (by decide),if_pos (show Sm p∧Sm a∧Sm b from ⟨hp,ha,hb⟩)]
    have hd:=adi hp ha hb
    have hs:=Qz hb ha
    have m1:=jz (a:=p.1- a.1) (b:=b.1- a.1) (A:=8192) (B:=8192) (by omega) (by omega) (by omega) (by omega)
    have m2:=jz (a:=p.2- a.2) (b:=b.2- a.2) (A:=8192) (B:=8192) (by omega) (by omega) (by omega) (by omega)
    have eD:aj (aj (aj (p.1- a.1)*aj (b.1- a.1))+aj (aj (p.2- a.2)*aj (b.2- a.2)))=AA p a b:=by
     rw [ay (n:=p.1- a.1) (by omega) (by omega),ay (n:=b.1- a.1) (by omega) (by omega),ay (n:=p.2- a.2) (by omega) (by omega),ay (n:=b.2- a.2) (by omega) (by omega),ay (n:=(p.1- a.1)*(b.1- a.1)) (by omega) (by omega),ay (n:=(p.2- a.2)*(b.2- a.2)) (by omega) (by omega),ay (by omega) (by omega)]
     rfl
    have eS:jQ (a,b)=Sq b a:=by rw [s5 ha hb];unfold Sq;grind
    have eA:kf (a,b,p)=(c8 a b p,0):=uq ha hb hp
    rw [eD,eS,s5 hp ha,s5 hp hb,eA]
    unfold w7
    by_cases h1:AA p a b<=0
    ·rw [if_pos h1,if_pos (.inl h1)]
    ·by_cases h2:Sq b a=0
     ·rw [if_neg h1,if_pos (by simpa using h2),if_pos (.inr h2)]
     ·rw [if_neg h1,if_neg (by simpa using h2),if_neg (c:=AA p a b≤0∨Sq b a=0) (by omega)]
      by_cases h3:Sq b a<=AA p a b
      ·rw [if_pos h3,if_pos h3]
      ·rw [if_neg h3,if_neg h3]
       have n1:=jz (a:=b.1- a.1) (b:=AA p a b) (A:=8192) (B:=134217728) (by omega) (by omega) (by omega) (by omega)
       have n2:=jz (a:=b.2- a.2) (b:=AA p a b) (A:=8192) (B:=134217728) (by omega) (by omega) (by omega) (by omega)
       have n3:=jz (a:=a.1) (b:=Sq b a) (A:=4096) (B:=134217728) (by omega) (by omega) (by omega) (by omega)
       have n4:=jz (a:=a.2) (b:=Sq b a) (A:=4096) (B:=134217728) (by omega) (by omega) (by omega) (by omega)
       have dt:=iy ha hb hp
       have m3:=jz (a:=c8 a b p) (b:=c8 a b p) (A:=134217728) (B:=134217728) (by omega) (by omega) (by omega) (by omega)
       rw [ay (n:=b.1- a.1) (by omega) (by omega),ay (n:=b.2- a.2) (by omega) (by omega),ay (n:=(b.1- a.1)*AA p a b) (by omega) (by omega),ay (n:=(b.2- a.2)*AA p a b) (by omega) (by omega),
        ay (n:=a.1*Sq b a) (by omega) (by omega),ay (n:=a.2*Sq b a) (by omega) (by omega),ay (n:=a.1*Sq b a+_) (by omega) (by omega),ay (n:=a.2*Sq b a+_) (by omega) (by omega),
        yg (by omega) (by omega) (by omega) (by omega),yg (by omega) (by omega) (by omega) (by omega)]
       dsimp only
       rw [ay (by omega) (by omega),Int.add_comm (a.1*Sq b a),Int.add_comm (a.2*Sq b a),Int.add_mul_ediv_right _ _ h2,Int.add_mul_ediv_right _ _ h2,Int.add_comm _ a.1,Int.add_comm _ a.2]
   ·rw [decide_eq_false hb,if_pos (by decide),if_neg (fun h=>hb h.2.2)]
  ·rw [decide_eq_false ha,if_pos (by decide),if_neg (fun h=>ha h.2.1)]
 ·rw [decide_eq_false hp,if_pos (by decide),if_neg (fun h=>hp h.1)]
theorem yh (p a b c:Int×Int):qJ (p,a,b,c)/\ qI (p,a,b,c)=if Sm p then (if Right a b c then ((sg (c8 a b c)*c8 b c p,sg (c8 a b c)*c8 c a p,sg (c8 a b c)*c8 a b p),sg (c8 a b c)*c8 a b c,0) else ((0,0,0),0,1)) else ((0,0,0),0,5):=by
 refine ⟨(iY p a b c).1,?_⟩
 unfold qI
 rw [(iY p a b c).2]
 by_cases hp:Sm p
 ·rw [if_pos hp,if_pos hp]
  by_cases hr:Right a b c
  ·obtain ⟨⟨ha,hb,hc⟩,hne⟩:=id hr
   rw [if_pos hr,if_pos hr]
   dsimp only [aq]
   rw [if_neg (by decide),uq ha hb hc,uq hp hb hc,uq hp hc ha,uq hp ha hb,<- e8 p b c,<- e8 p c a,<- e8 p a b]
   have d0:=iy hb hc hp
   have d1:=iy hc ha hp
   have d2:=iy ha hb hp
   have d3:=iy ha hb hc
   dsimp only
   rcases qX (c8 a b c) with ⟨h,e⟩|⟨h,e⟩|⟨h,e⟩
   ·rw [if_pos h,e]
    rw [ay (by omega) (by omega),ay (by omega) (by omega),ay (by omega) (by omega),ay (by omega) (by omega)]
    simp only [Int.mul_comm (-1:Int)]
   ·exact absurd h hne
   ·rw [if_neg (by omega),e]
    rw [ay (by omega) (by omega),ay (by omega) (by omega),ay (by omega) (by omega),ay (by omega) (by omega)]
    simp only [Int.mul_comm (1:Int)]
  ·rw [if_neg hr,if_neg hr];rfl
 ·rw [if_neg hp,if_neg hp];rfl
theorem yf (p a b c:Int×Int):gR (p,a,b,c)/\ jA (p,a,b,c)=if Sm p then (if Right a b c then (if 0<InV p a b c then (p,(0,1),0) else ((SW p a b c).1,(SW p a b c).2.2,0)) else ((0,0),(0,0),1)) else ((0,0),(0,0),5):=by
 have hE: ∀ {u v:Int×Int},Sm p->Sm u->Sm v->kM (p,u,v)=((w7 p u v).1,(w7 p u v).2.1,(w7 p u v).2.2,0):=fun {u v} h1 h2 h3=>by
  rw [(oO p u v).2]
  exact if_pos ⟨h1,h2,h3⟩
 by_cases hp:Sm p
 ·by_cases hr:Right a b c
  ·obtain ⟨⟨ha,hb,hc⟩,hne⟩:=id hr
   have f1:=(zA hp ha hb).1
   have f2:=(zA hp hb hc).1
   have f3:=(zA hp hc ha).1
   refine ⟨?_,?_⟩
   ·unfold gR az
    refine ⟨(iY p a b c).1,fun _ _=>⟨(oO _ _ _).1,(oO _ _ _).1,?_⟩⟩
    dsimp only
    rw [hE hp ha hb,hE hp hb hc,hE hp hc ha]
    exact ⟨(qo f2 f1).1,fun _=>⟨(oO _ _ _).1,(qo f3 f2).1⟩,fun _=>⟨(oO _ _ _).1,(qo f3 f1).1⟩⟩
   ·unfold jA
    rw [(iY p a b c).2,if_pos hp,if_pos hr,if_pos hp,if_pos hr]
    dsimp only [aq]
    rw [if_neg (by decide)]
    by_cases hi:0<InV p a b c
    ·rw [if_pos hi,if_pos hi]
    ·rw [if_neg hi,if_neg hi,hE hp ha hb,hE hp hb hc,hE hp hc ha]
     dsimp only
     rw [(qo f2 f1).2,(qo f3 f2).2,(qo f3 f1).2]
     unfold SW pick
     split<;>split<;>rfl
  ·refine ⟨?_,?_⟩
   ·unfold gR az
    refine ⟨(iY p a b c).1,fun h=> ?_⟩
    rw [(iY p a b c).2,if_pos hp,if_neg hr] at h
    exact absurd rfl h
   ·unfold jA
    rw [(iY p a b c).2,if_pos hp,if_neg hr,if_pos hp,if_neg hr];rfl
 ·refine ⟨?_,?_⟩
  ·unfold gR az
   refine ⟨(iY p a b c).1,fun h=> ?_⟩
   rw [(iY p a b c).2,if_neg hp] at h
   exact absurd rfl h
  ·unfold jA
   rw [(iY p a b c).2,if_neg hp,if_neg hp];rfl
theorem Rq {p a b c:Int×Int} {u v w:Int} (hp:Sm p) (hr:Right a b c) (hu: -16384<=u/\ u<=16384) (hv: -16384<=v/\ v<=16384) (hw: -16384<=w/\ w<=16384):
  kL (aj (aj (aj (sg (c8 a b c)*c8 b c p*u)+aj (sg (c8 a b c)*c8 c a p*v))+aj (sg (c8 a b c)*c8 a b p*w)),sg (c8 a b c)*c8 a b c)=Lf p a b c u v w:=by
 obtain ⟨⟨ha,hb,hc⟩,hne⟩:=hr
 have hA:=Zx hne
 have d0:=(pq (s:=c8 a b c) (iy hb hc hp)).2
 have d1:=(pq (s:=c8 a b c) (iy hc ha hp)).2
 have d2:=(pq (s:=c8 a b c) (iy ha hb hp)).2
 have d3:=(pq (s:=c8 a b c) (iy ha hb hc)).2
 unfold Lf
 generalize sg (c8 a b c)*c8 b c p=w0 at*
 generalize sg (c8 a b c)*c8 c a p=w1 at*
 generalize sg (c8 a b c)*c8 a b p=w2 at*
 generalize sg (c8 a b c)*c8 a b c=n at*
 have m1:=jz (a:=w0) (b:=u) (A:=134217728) (B:=16384) d0.1 d0.2 hu.1 hu.2
 have m2:=jz (a:=w1) (b:=v) (A:=134217728) (B:=16384) d1.1 d1.2 hv.1 hv.2
 have m3:=jz (a:=w2) (b:=w) (A:=134217728) (B:=16384) d2.1 d2.2 hw.1 hw.2
 rw [ay (n:=w0*u) (by omega) (by omega),ay (n:=w1*v) (by omega) (by omega),ay (n:=w2*w) (by omega) (by omega),ay (n:=w0*u+w1*v) (by omega) (by omega),ay (by omega) (by omega),yg (by omega) (by omega) (by omega) (by omega)]
theorem Hu (p a b c:Int×Int) (s t r:Int×(Int×Int)):rZ (p,(a,b,c),s,t,r)/\ DG (p,(a,b,c),s,t,r)=if Sm p then (if Cw s/\ Cw t/\ Cw r then (if Right a b c then ((Lf p a b c s.1 t.1 r.1,Lf p a b c s.2.1 t.2.1 r.2.1,Lf p a b c s.2.2 t.2.2 r.2.2),0) else ((0,0,0),1)) else ((0,0,0),5)) else ((0,0,0),5):=by
 refine ⟨?_,?_⟩
 ·unfold rZ az
  exact fun _ _ _ _=>⟨(yh p a b c).1,fun _=>⟨qR _,qR _,qR _⟩⟩
 ·unfold DG
  dsimp only [aq]
  rw [dk,vO,vO,vO,(yh p a b c).2]
  by_cases hp:Sm p
  ·rw [decide_eq_true hp,if_neg (by decide)]
   by_cases h1:Cw s
   ·rw [decide_eq_true h1,if_neg (by decide)]
    by_cases h2:Cw t
    ·rw [decide_eq_true h2,if_neg (by decide)]
     by_cases h3:Cw r
     ·rw [decide_eq_true h3,if_neg (by decide),if_pos hp,if_pos hp,if_pos (show Cw s∧Cw t∧Cw r from ⟨h1,h2,h3⟩)]
      by_cases hr:Right a b c
      ·rw [if_pos hr,if_pos hr]
       dsimp only
       rw [if_neg (by decide),Rq hp hr h1.1 h2.1 h3.1,Rq hp hr h1.2.1 h2.2.1 h3.2.1,Rq hp hr h1.2.2 h2.2.2 h3.2.2]
      ·rw [if_neg hr,if_neg hr];rfl
     ·rw [decide_eq_false h3,if_pos (by decide),if_pos hp,if_neg (fun h=>h3 h.2.2)]
    ·rw [decide_eq_false h2,if_pos (by decide),if_pos hp,if_neg (fun h=>h2 h.2.1)]
   ·rw [decide_eq_false h1,if_pos (by decide),if_pos hp,if_neg (fun h=>h1 h.1)]
  ·rw [decide_eq_false hp,if_pos (by decide),if_neg hp]
end Go.Proofs.YtfgdjlhilladhaaGreat
