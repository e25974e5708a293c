/- Plain laws: the references of layer 17 say what the program says. -/
import Derived.Test.YtbjfokijjefoeaaGreatHo
import Derived.Test.YtbjfokijjefoeaaGreatHl
noncomputable section
set_option linter.unusedSectionVars false
set_option linter.unusedVariables false
set_option linter.unusedSimpArgs false
namespace Go.Proofs.YtbjfokijjefoeaaGreat
open Go Go.Ev Go.Proofs
theorem dg (n:Int):bt n=true↔kF n:=by
 unfold bt kF
 by_cases c:n>=1
 ·rw [if_pos c,decide_eq_true_iff];omega
 ·rw [if_neg c];exact ⟨fun q=>(by cases q),fun q=>absurd q.1 c⟩
theorem HN {s:List Int} (hs:TH s):tZ s/\ zN s=true:=by
 have hl:=hs.1
 have key:TR (ji s) (nD s) 0 fun r=>r= .inr ():=by
  refine aZ s.length (fun i st=>st=(i:Int)) _ (fun i st hi hj=> ?_) (fun st hj=> ?_) rfl
  ·subst hj
   have hv:=hs.2 _ (bZ hi 0)
   refine ⟨?_,.inl ⟨_,?_,rfl⟩⟩
   ·unfold nD
    intro _
    simp only [Int.toNat_natCast]
    exact ⟨⟨by omega,by omega⟩,hi,hi,fun _=>⟨⟨by omega,by omega⟩,hi,hi⟩⟩
   ·unfold ji
    rw [if_pos (by omega),Int.toNat_natCast,if_neg (by omega),if_neg (by omega),fJ hi (by omega)]
  ·subst hj
   refine ⟨?_,_,?_,rfl⟩
   ·unfold nD
    intro q;omega
   ·unfold ji
    rw [if_neg (by omega)]
 refine ⟨key.1,?_⟩
 unfold zN ai
 rw [key.2]
 show decide _=true
 rw [decide_eq_true_iff];omega
theorem Rs {s:List Int} (hs:TH s) {w x:Nat} (hw:0<w) (h:x+w<=s.length):rK (s,(x:Int),(w:Int))/\ Df (s,(x:Int),(w:Int))=hi s w x:=by
 have hl:=hs.1
 have e1:az ((x:Int)+(w:Int))=((x+w:Nat):Int):=by rw [aR (by omega) (by omega)];omega
 have key:TR (fa (s,(x:Int),(w:Int))) (jA (s,(x:Int),(w:Int))) (0,(x:Int)) fun r=>nQ ((s.drop x).take w) r:=by
  refine aZ w (fun i st=>st.2=((x+i:Nat):Int)/\ (i=0->st.1=0)/\ (0<i->nQ ((s.drop x).take i) st.1)) _ (fun i st hi' hj=> ?_) (fun st hj=> ?_) ⟨rfl,fun _=>rfl,fun q=>absurd q (Nat.lt_irrefl _)⟩
  ·obtain ⟨m,z⟩:=st
   obtain ⟨e,h0,h1⟩:=hj
   dsimp only at e h0 h1;subst e
   have hlt:x+i<s.length:=by omega
   have hv:=hs.2 _ (bZ hlt 0)
   have hd:(s.drop x).getD i 0=s.getD (x+i) 0:=by rw [List.getD_eq_getElem?_getD,List.getElem?_drop,<- List.getD_eq_getElem?_getD]
   refine ⟨?_,.inl ⟨(bp m (s.getD (x+i) 0),az (((x+i:Nat):Int)+1)),?_,?_,fun q=>absurd q (Nat.succ_ne_zero _),fun _=> ?_⟩⟩
   ·unfold jA
    intro _
    dsimp only
    rw [Int.toNat_natCast]
    exact ⟨⟨by omega,by omega⟩,hlt,hlt⟩
   ·unfold fa
    dsimp only
    rw [e1,if_pos (by omega),Int.toNat_natCast]
   ·exact fJ (n:=s.length) hlt (by omega)
   ·rw [b9 (by rw [List.length_drop];omega) 0,hd]
    rcases Nat.eq_zero_or_pos i with e|e
    ·subst e
     rw [h0 rfl]
     have:=gJ 0 (s.getD (x+0) 0)
     refine ⟨?_,fun v XB=> ?_⟩
     ·simp only [List.take_zero,List.nil_append,List.mem_singleton];omega
     ·simp only [List.take_zero,List.nil_append,List.mem_singleton] at XB;omega
    ·exact (h1 e).snoc _
  ·obtain ⟨m,z⟩:=st
   obtain ⟨e,h0,h1⟩:=hj
   dsimp only at e h0 h1;subst e
   refine ⟨?_,m,?_,h1 hw⟩
   ·unfold jA
    intro q
    dsimp only at q;rw [e1] at q;omega
   ·unfold fa
    dsimp only
    rw [e1,if_neg (by omega)]
 exact ⟨key.1,key.2.uniq (GK hs hw h).2⟩
theorem FO.yes {s:List Int} {w:Nat} {h most:Int} {k:Nat} {a low:Int} {f:Bool} (hF:FO s w h most k a low f) (c1:hi s w k+h<=most) (c2:f=false\/ hi s w k<low):FO s w h most (k+1) (k:Int) (hi s w k) true:=by
 refine ⟨fun _=>⟨by omega,by omega,by simp,c1,fun x hx hm'=> ?_⟩,fun q=>(by cases q)⟩
 simp only [Int.toNat_natCast]
 rcases Nat.lt_or_ge x k with Jy|Jy
 ·rcases c2 with hf|hf
  ·exact absurd hm' ((hF.2 hf).2.2 x Jy)
  ·cases f with
   |false=>exact absurd hm' ((hF.2 rfl).2.2 x Jy)
   |true=>have:=((hF.1 rfl).2.2.2.2 x Jy hm').1;exact ⟨by omega,fun _=>by omega⟩
 ·have:x=k:=by omega
  subst this
  exact ⟨Int.le_refl _,fun q=>absurd q (Nat.lt_irrefl _)⟩
theorem FO.no {s:List Int} {w:Nat} {h most:Int} {k:Nat} {a low:Int} {f:Bool} (hF:FO s w h most k a low f) (c: ¬(hi s w k+h<=most/\ (f=false\/ hi s w k<low))):FO s w h most (k+1) a low f:=by
 refine ⟨fun q=> ?_,fun q=> ?_⟩
 ·obtain ⟨q1,q2,q3,q4,q5⟩:=hF.1 q
  refine ⟨q1,by omega,q3,q4,fun x hx hm'=> ?_⟩
  rcases Nat.lt_or_ge x k with Jy|Jy
  ·exact q5 x Jy hm'
  ·have:x=k:=by omega
   subst this
   have c2: ¬hi s w x<low:=fun q=>c ⟨hm',.inr q⟩
   exact ⟨by omega,fun q=>absurd q (by omega)⟩
 ·obtain ⟨q1,q2,q3⟩:=hF.2 q
  refine ⟨q1,q2,fun x hx hm'=> ?_⟩
  rcases Nat.lt_or_ge x k with Jy|Jy
  ·exact q3 x Jy hm'
  ·have:x=k:=by omega
   subst this
   exact c ⟨hm',.inl q⟩
theorem FO.uniq {s:List Int} {w:Nat} {h most:Int} {k:Nat} {a low a' low':Int} {f f':Bool} (hF:FO s w h most k a low f) (hG:FO s w h most k a' low' f'):a=a'/\ low=low'/\ f=f':=by
 cases f with
 |false=>
  obtain ⟨q1,q2,q3⟩:=hF.2 rfl
  cases f' with
  |false=>obtain ⟨p1,p2,p3⟩:=hG.2 rfl;exact ⟨by omega,by omega,rfl⟩
  |true=>
   obtain ⟨p1,p2,p3,p4,p5⟩:=hG.1 rfl
   exact absurd (by omega) (q3 _ p2)
 |true=>
  obtain ⟨q1,q2,q3,q4,q5⟩:=hF.1 rfl
  cases f' with
  |false=>
   obtain ⟨p1,p2,p3⟩:=hG.2 rfl
   exact absurd (by omega) (p3 _ q2)
  |true=>
   obtain ⟨p1,p2,p3,p4,p5⟩:=hG.1 rfl
   have h1:=q5 a'.toNat p2 (by omega)
   have h2:=p5 a.toNat q2 (by omega)
   have e:low=low':=by omega
   refine ⟨?_,e,rfl⟩
   by_cases c1:a.toNat<a'.toNat
   ·have:=h2.2 c1;omega
   ·by_cases c2:a'.toNat<a.toNat
    ·have:=h1.2 c2;omega
    ·omega
theorem Wv {s:List Int} (hs:TH s) {w:Nat} (hw:0<w) (hw2:w<=256) {h:Int} (hh:kF h) {most:Int} (hm:kF most):
  pq (s,(w:Int),h,most)/\ sN (s,(w:Int),h,most)=BN (s,(w:Int),h,most):=by
 have hl:=hs.1
 obtain ⟨h1,h2⟩:=hh
 obtain ⟨f1,f2⟩:=Lw hs hw hw2 (h:=h) ⟨by omega,by omega⟩ most
 have key:TR (ef (s,(w:Int),h,most)) (oH (s,(w:Int),h,most)) (0,-1,0) fun r=> -1<=r.2/\ FO s w h most (s.length+1- w) r.1 (bp r.2 0) (decide (r.2>=0)):=by
  refine aZ (s.length+1- w) (fun k st=>st.2.2=(k:Int)/\ -1<=st.2.1/\ FO s w h most k st.1 (bp st.2.1 0) (decide (st.2.1>=0))) _ (fun k st hk hj=> ?_) (fun st hj=> ?_) ⟨rfl,by decide,fun q=>(by cases q),fun _=>⟨rfl,rfl,fun x hx=>absurd hx (by omega)⟩⟩
  ·obtain ⟨a,low,z⟩:=st
   obtain ⟨e,YH,hF⟩:=hj
   dsimp only at e YH hF;subst e
   have hkw:k+w<=s.length:=by omega
   have e1:az ((k:Int)+(w:Int))=((k+w:Nat):Int):=by rw [aR (by omega) (by omega)];omega
   obtain ⟨g1,g2⟩:=Rs hs hw hkw
   have hin:=TS hs hw hkw
   have e3:az (hi s w k+h)=hi s w k+h:=aR (by omega) (by omega)
   have e4:az ((k:Int)+1)=((k+1:Nat):Int):=fJ (n:=300) (by omega) (by omega)
   have m0:=gJ low 0
   refine ⟨fun _=>g1,.inl ?_⟩
   have hst:ef (s,(w:Int),h,most) (a,low,(k:Int))= .inl (if hi s w k+h<=most/\ (low<0\/ hi s w k<low) then ((k:Int),hi s w k,((k+1:Nat):Int)) else (a,low,((k+1:Nat):Int))):=by
    unfold ef ai
    dsimp only
    rw [e1,if_pos (by omega),g2,e3,e4]
    by_cases c1:hi s w k+h<=most
    ·rw [if_pos c1]
     by_cases c2:low<0
     ·rw [if_pos c2,if_pos ⟨c1,.inl c2⟩]
     ·rw [if_neg c2]
      by_cases c3:hi s w k<low
      ·rw [if_pos c3,if_pos ⟨c1,.inr c3⟩]
      ·rw [if_neg c3,if_neg (fun q=>q.2.elim c2 c3)]
    ·rw [if_neg c1,if_neg (fun q=>c1 q.1)]
   refine ⟨_,hst,?_⟩
   by_cases c:hi s w k+h<=most/\ (low<0\/ hi s w k<low)
   ·rw [if_pos c]
    refine ⟨rfl,by dsimp only;omega,?_⟩
    have m1:=gJ (hi s w k) 0
    have em:bp (hi s w k) 0=hi s w k:=by omega
    dsimp only
    rw [em,decide_eq_true (show hi s w k>=0 from hin.1)]
    refine hF.yes c.1 (c.2.elim (fun q=> .inl (decide_eq_false (by omega))) fun q=> ?_)
    by_cases c2:low<0
    ·exact .inl (decide_eq_false (by omega))
    ·exact .inr (by omega)
   ·rw [if_neg c]
    refine ⟨rfl,YH,hF.no fun q=>c ⟨q.1,?_⟩⟩
    rcases q.2 with q|q
    ·exact .inl (by have:=of_decide_eq_false q;omega)
    ·by_cases c2:low<0
     ·exact .inl c2
     ·exact .inr (by omega)
  ·obtain ⟨a,low,z⟩:=st
   obtain ⟨e,YH,hF⟩:=hj
   dsimp only at e YH hF;subst e
   have e1:az (((s.length+1- w:Nat):Int)+(w:Int))=((s.length+1- w:Nat):Int)+(w:Int):=aR (by omega) (by omega)
   refine ⟨?_,(a,low),?_,YH,hF⟩
   ·unfold oH
    intro q
    dsimp only at q;rw [e1] at q;omega
   ·unfold ef
    dsimp only
    rw [e1,if_neg (by omega)]
 obtain ⟨s1,s2⟩:=HN hs
 have w1:bt (w:Int)=true:=(dg _).2 ⟨by omega,by omega⟩
 have w2:bt h=true:=(dg _).2 ⟨h1,h2⟩
 have w3:bt most=true:=(dg _).2 hm
 unfold pq sN aA ai
 dsimp only
 rw [s2,w1,w2,w3]
 refine ⟨⟨s1,fun _ _ _ _=>key.1⟩,?_⟩
 rw [if_neg (by decide),if_neg (by decide),if_neg (by decide),if_neg (by decide)]
 obtain ⟨u1,u2,u3⟩:=key.2.2.uniq f2
 rw [u1,u2,u3]
theorem PF {s:List Int} (hs:TH s) {x w:Nat} (hw:0<w) (h:x+w<=s.length) {y hh:Int} (hy:0<=y) (h1:kF hh) (h2:y+hh<=256):
  qT (s,(x:Int),y,(w:Int),hh)/\ xM (s,(x:Int),y,(w:Int),hh)=(jW s x w (y+hh),0):=by
 have hl:=hs.1
 obtain ⟨p1,p2⟩:=h1
 have e1:az ((x:Int)+(w:Int))=((x+w:Nat):Int):=by rw [aR (by omega) (by omega)];omega
 have e2:az (y+hh)=y+hh:=aR (by omega) (by omega)
 have e3:az (((s.length:Nat):Int)- (w:Int))=(s.length:Int)- (w:Int):=aR (by omega) (by omega)
 have e4:az (256- hh)=256- hh:=aR (by omega) (by omega)
 have hlen:=BH s x w (y+hh) h
 have key:TR (ia (s,(x:Int),y,(w:Int),hh)) (lQ (s,(x:Int),y,(w:Int),hh)) ([],0) fun r=>r=jW s x w (y+hh):=by
  refine aZ s.length (fun i st=>st=((jW s x w (y+hh)).take i,(i:Int))) _ (fun i st hi hj=> ?_) (fun st hj=> ?_) rfl
  ·subst hj
   have hg:=Ir s x w (y+hh) h i
   have hs':=b9 (l:=jW s x w (y+hh)) (i:=i) (by omega) 0
   have hll:((jW s x w (y+hh)).take i).length=i:=by rw [List.length_take];omega
   refine ⟨?_,.inl ⟨_,?_,rfl⟩⟩
   ·unfold lQ
    intro _
    dsimp only
    rw [Int.toNat_natCast,hll]
    exact ⟨fun _=>⟨fun _=>by omega,fun _=>⟨⟨by omega,by omega⟩,hi,hi,by omega⟩⟩,fun _=>⟨⟨by omega,by omega⟩,hi,hi,by omega⟩⟩
   ·unfold ia
    dsimp only
    rw [if_pos (by omega),Int.toNat_natCast,e1,e2,fJ hi (by omega),hs',hg]
    by_cases c1:(i:Int)>=(x:Int)
    ·rw [if_pos c1]
     by_cases c2:(i:Int)<((x+w:Nat):Int)
     ·rw [if_pos c2,if_pos ⟨by omega,by omega⟩]
     ·rw [if_neg c2,if_neg (by omega)]
    ·rw [if_neg c1,if_neg (by omega)]
  ·subst hj
   refine ⟨?_,_,?_,rfl⟩
   ·unfold lQ
    intro q
    dsimp only at q;omega
   ·unfold ia
    dsimp only
    rw [if_neg (by omega),List.take_of_length_le (by omega)]
 obtain ⟨s1,s2⟩:=HN hs
 have w1:bt (w:Int)=true:=(dg _).2 ⟨by omega,by omega⟩
 have w2:bt hh=true:=(dg _).2 ⟨p1,p2⟩
 unfold qT xM aA ai
 dsimp only
 rw [s2,w1,w2,e3,e4]
 refine ⟨⟨s1,fun _ _ _ _ _ _ _=>key.1⟩,?_⟩
 rw [if_neg (by decide),if_neg (by decide),if_neg (by decide),if_neg (by omega),if_neg (by omega),if_neg (by omega),if_neg (by omega),key.2]
theorem S6 {w:Nat} {h:Int} (hw:w<=256) (hh:kF h) (w':Int) (l:List (Int×Int)) (hl:l.length<1099511627776) (hin: ∀p∈l,kF p.1/\ kF p.2):
  ∀k i,i+k=l.length-> ∀(s:List Int) (out:List vf),FZ w h s->out.length=i->TR (eV (w',h,l)) (jh (w',h,l)) (s,out,(i:Int)) fun r=>r=(match fC h s (l.drop i) with|some q=> .inr (out++q)|none=> .inl ()):=by
 have hh2:=hh.2
 intro k
 induction k with
 |zero=>
  intro i e s out hs ho
  have:i=l.length:=by omega
  subst this
  refine TR.stop (r:= .inr out) ?_ ?_ ?_
  ·unfold jh
   intro q
   dsimp only at q;omega
  ·unfold eV
   dsimp only
   rw [if_neg (by omega)]
  ·rw [List.drop_length];simp [fC]
 |succ k ih=>
  intro i e s out hs ho
  have hlt:i<l.length:=by omega
  have hp:=hin _ (bZ hlt (0,0))
  have hd:l.drop i=l.getD i (0,0)::l.drop (i+1):=by
   rw [List.drop_eq_getElem_cons hlt,List.getD_eq_getElem?_getD,List.getElem?_eq_getElem hlt];rfl
  rw [hd]
  generalize l.getD i (0,0)=p at hp hd
  have hgp:l.getD i (0,0)=p:=by
   rw [List.getD_eq_getElem?_getD,<- List.head?_drop,hd];rfl
  have abv:l.getD i ((0:Int),(0:Int))=p:=hgp
  have hS:=hs.sky hw hh2
  obtain ⟨g1,g2,g3⟩:=Az hs hw hh2 hp
  have eo:=hp
  obtain ⟨⟨a1,a2⟩,b1,b2⟩:=hp
  have ep:((p.1.toNat:Nat):Int)=p.1:=by omega
  obtain ⟨q1,q2⟩:=Wv hS (w:=p.1.toNat) (by omega) (by omega) (h:=p.2) ⟨b1,b2⟩ hh
  rw [ep] at q1 q2
  have q2:sN (s,p.1,p.2,h)=fk s p h:=q2
  have hlen:=hs.1
  cases hf:(fk s p h).2.2 with
  |false=>
   refine TR.stop (r:= .inl ()) ?_ ?_ ?_
   ·unfold jh aA
    intro _
    dsimp only
    rw [Int.toNat_natCast,abv,q2,hf]
    exact ⟨⟨by omega,by omega⟩,hlt,hlt,hlt,⟨by omega,by omega⟩,hlt,hlt,hlt,q1,fun q=>absurd rfl q⟩
   ·unfold eV ai
    dsimp only
    rw [if_pos (by omega),Int.toNat_natCast,abv,q2,hf,if_pos (by decide)]
   ·rw [fC,hf,if_neg (by decide)]
  |true=>
   have hF:=g2 hf
   have k1:=hF.a0
   have k2:=hF.aw
   have k3:=hF.l0
   have k4:=hF.lh
   have ea:(((fk s p h).1.toNat:Nat):Int)=(fk s p h).1:=by omega
   have hr:=PF hS (x:=(fk s p h).1.toNat) (w:=p.1.toNat) (by omega) (by omega) (y:=(fk s p h).2.1) (hh:=p.2) k3 ⟨b1,b2⟩ (by omega)
   rw [ea,ep] at hr
   have hr2:xM (s,(fk s p h).1,(fk s p h).2.1,p)=(jW s (fk s p h).1.toNat p.1.toNat ((fk s p h).2.1+p.2),0):=hr.2
   refine TR.go (s':=(jW s (fk s p h).1.toNat p.1.toNat ((fk s p h).2.1+p.2),out++ [((fk s p h).1,(fk s p h).2.1,p)],((i+1:Nat):Int))) ?_ ?_ ?_
   ·unfold jh aA
    intro _
    dsimp only
    rw [Int.toNat_natCast,abv,q2]
    exact ⟨⟨by omega,by omega⟩,hlt,hlt,hlt,⟨by omega,by omega⟩,hlt,hlt,hlt,q1,fun _=>⟨⟨by omega,by omega⟩,hlt,hlt,hlt,⟨by omega,by omega⟩,hlt,hlt,hlt,hr.1,by omega⟩⟩
   ·unfold eV ai
    dsimp only
    rw [if_pos (by omega),Int.toNat_natCast,abv,q2,hf,if_neg (by decide),hr2,fJ hlt (by omega)]
   ·refine (ih (i+1) (by omega) _ _ (hs.jW eo hF) (by simp [ho])).mono fun r hr'=> ?_
    rw [hr',fC,if_pos hf]
    cases fC h (jW s (fk s p h).1.toNat p.1.toNat ((fk s p h).2.1+p.2)) (l.drop (i+1)) with
    |none=>rfl
    |some q=>simp
theorem PD {w h:Int} (hw:kF w) (hh:kF h) (l:List (Int×Int)) (hl:l.length<1099511627776) (hin: ∀p∈l,kF p.1/\ kF p.2):
  qS (w,h,l)/\ nC (w,h,l)=match fC h (List.replicate w.toNat 0) l with|some q=>(q,0)|none=>([],9):=by
 have XC:=hw
 obtain ⟨w1,w2⟩:=hw
 have h1:=hh.1
 have key:TR (eU (w,h,l)) (lP (w,h,l)) 0 fun r=>r= .inr ():=by
  refine aZ l.length (fun i st=>st=(i:Int)) _ (fun i st hi hj=> ?_) (fun st hj=> ?_) rfl
  ·subst hj
   have hv:=hin _ (bZ hi (0,0))
   have v1:bt (l.getD i ((0:Int),(0:Int))).1=true:=(dg _).2 hv.1
   have v2:bt (l.getD i ((0:Int),(0:Int))).2=true:=(dg _).2 hv.2
   refine ⟨?_,.inl ⟨_,?_,rfl⟩⟩
   ·unfold lP aA
    intro _
    dsimp only
    simp only [Int.toNat_natCast]
    exact ⟨⟨by omega,by omega⟩,hi,hi,hi,fun _=>⟨⟨by omega,by omega⟩,hi,hi,hi⟩⟩
   ·unfold eU ai
    dsimp only
    rw [if_pos (by omega),Int.toNat_natCast,v1,v2,if_neg (by decide),if_neg (by decide),fJ hi (by omega)]
  ·subst hj
   refine ⟨?_,_,?_,rfl⟩
   ·unfold lP
    intro q
    dsimp only at q;omega
   ·unfold eU
    dsimp only
    rw [if_neg (by omega)]
 have c:=S6 (w:=w.toNat) (h:=h) (by omega) hh w l hl hin l.length 0 (by omega) (List.replicate w.toNat 0) [] ⟨by simp,fun v hv=>by have:=List.eq_of_mem_replicate hv;omega⟩ rfl
 have u1:bt w=true:=(dg _).2 XC
 have u2:bt h=true:=(dg _).2 hh
 have e:=c.2
 simp only [List.drop_zero,List.nil_append] at e
 rw [show ((0:Nat):Int)=0 from rfl] at e
 unfold qS nC aA ai
 dsimp only
 rw [u1,u2,key.2]
 dsimp only [cS,Sum.elim_inr]
 refine ⟨fun _ _=>⟨key.1,⟨⟨by omega,Int.le_refl _⟩,by omega⟩,c.1⟩,?_⟩
 rw [if_neg (by decide),if_neg (by decide),e]
 cases fC h (List.replicate w.toNat 0) l<;>rfl
theorem aeB {w h:Int} (hw:kF w) (hh:kF h) (l:List vf) (hl:l.length<4611686018427387904) {i:Nat} (hi:i<l.length) (hJ: ∀j,j<=i->Mn w h (l.getD j zR)):
  TR (jR (w,h,l)) (pg (w,h,l)) ((i:Int),0) fun r=>(r= .inl ()/\ ¬ ∀k,k<i->JV (l.getD k zR) (l.getD i zR))\/ (r= .inr (i:Int)/\ ∀k,k<i->JV (l.getD k zR) (l.getD i zR)):=by
 refine aZ i (fun k s=>s=((i:Int),(k:Int))/\ ∀j,j<k->JV (l.getD j zR) (l.getD i zR)) _ (fun k s hk hj=> ?_) (fun s hj=> ?_) ⟨rfl,fun j hj=>absurd hj (Nat.not_lt_zero _)⟩
 ·obtain ⟨rfl,hA⟩:=hj
  obtain ⟨a1,a2⟩:=Nr hw hh (hJ i (Nat.le_refl _)) (hJ k (by omega))
  refine ⟨?_,?_⟩
  ·unfold pg
   intro _
   dsimp only
   rw [Int.toNat_natCast,Int.toNat_natCast]
   exact ⟨⟨by omega,by omega⟩,hi,hi,⟨by omega,by omega⟩,by omega,by omega,a1⟩
  ·unfold jR ai
   dsimp only
   rw [if_pos (by omega),Int.toNat_natCast,Int.toNat_natCast]
   cases hb:sL (l.getD i (0,0,0,0),l.getD k (0,0,0,0)) with
   |false=>
    refine .inr ⟨_,rfl,.inl ⟨rfl,fun q=> ?_⟩⟩
    have:=a2.2 (q k hk).symm
    rw [show sL (l.getD i zR,l.getD k zR)=false from hb] at this
    cases this
   |true=>
    refine .inl ⟨_,rfl,?_,fun j hj=> ?_⟩
    ·rw [fJ hk (by omega)]
    ·rcases Nat.lt_or_ge j k with h1|h1
     ·exact hA j h1
     ·have:j=k:=by omega
      subst this;exact (a2.1 hb).symm
 ·obtain ⟨rfl,hA⟩:=hj
  refine ⟨?_,_,?_,.inr ⟨rfl,hA⟩⟩
  ·unfold pg
   intro q
   dsimp only at q;omega
  ·unfold jR
   dsimp only
   rw [if_neg (by omega)]
theorem WE {w h:Int} (hw:kF w) (hh:kF h) (l:List vf) (hl:l.length<4611686018427387904):Dg (w,h,l)/\ (Py (w,h,l)=true↔Mp w h l):=by
 have key:TR (fA (w,h,l)) (jB (w,h,l)) 0 fun r=>(r= .inl ()/\ ¬Mp w h l)\/ (r= .inr ()/\ Mp w h l):=by
  refine aZ l.length (fun i s=>s=(i:Int)/\ ∀j,j<i->Mn w h (l.getD j zR)/\ ∀k,k<j->JV (l.getD k zR) (l.getD j zR)) _ (fun i s hi hj=> ?_) (fun s hj=> ?_) ⟨rfl,fun j hj=>absurd hj (Nat.not_lt_zero _)⟩
  ·obtain ⟨e,hJ⟩:=hj
   subst e
   have Jv:(¬(Mn w h (l.getD i zR)/\ ∀k,k<i->JV (l.getD k zR) (l.getD i zR)))-> ¬Mp w h l:=fun q q'=>q (q' i hi)
   have hI:=JI w h hw hh (l.getD i zR)
   cases hb:mQ (w,h,l.getD i (0,0,0,0)) with
   |false=>
    refine ⟨?_,.inr ⟨.inl (),?_,.inl ⟨rfl,Jv fun q=> ?_⟩⟩⟩
    ·unfold jB aA
     intro _
     dsimp only
     rw [Int.toNat_natCast,hb]
     exact ⟨⟨by omega,by omega⟩,hi,hi,fun q=>absurd rfl q⟩
    ·unfold fA ai
     dsimp only
     rw [if_pos (by omega),Int.toNat_natCast,hb,if_pos (by decide)]
    ·have:=hI.2 q.1
     rw [show mQ (w,h,l.getD i zR)=false from hb] at this
     cases this
   |true=>
    have hin:=hI.1 hb
    have hk:=aeB hw hh l hl hi (fun j hj'=>by
     rcases Nat.lt_or_ge j i with h1|h1
     ·exact (hJ j h1).1
     ·have:j=i:=by omega
      subst this;exact hin)
    have hpre:jB (w,h,l) (i:Int):=by
     unfold jB aA
     intro _
     dsimp only
     rw [Int.toNat_natCast]
     exact ⟨⟨by omega,by omega⟩,hi,hi,fun _=>hk.1⟩
    refine ⟨hpre,?_⟩
    rcases hk.2 with ⟨e,hn⟩|⟨e,hy⟩
    ·refine .inr ⟨.inl (),?_,.inl ⟨rfl,Jv fun q=>hn q.2⟩⟩
     unfold fA ai
     dsimp only
     rw [if_pos (by omega),Int.toNat_natCast,hb,if_neg (by decide),e]
     rfl
    ·refine .inl ⟨_,?_,rfl,fun j hj=> ?_⟩
     ·unfold fA ai
      dsimp only
      rw [if_pos (by omega),Int.toNat_natCast,hb,if_neg (by decide),e,Sum.elim_inr,fJ hi hl]
     ·rcases Nat.lt_or_ge j i with h1|h1
      ·exact hJ j h1
      ·have:j=i:=by omega
       subst this;exact ⟨hin,hy⟩
  ·obtain ⟨e,hJ⟩:=hj
   subst e
   refine ⟨?_,.inr (),?_,.inr ⟨rfl,hJ⟩⟩
   ·unfold jB
    intro q
    dsimp only at q;omega
   ·unfold fA
    rw [if_neg (by dsimp only;omega)]
 refine ⟨key.1,?_⟩
 unfold Py ai
 rcases key.2 with ⟨e,hn⟩|⟨e,hy⟩
 ·rw [e];exact ⟨fun q=>(by cases q),fun q=>absurd q hn⟩
 ·rw [e];exact ⟨fun _=>hy,fun _=>rfl⟩
theorem PG (a b:List vf) (hl:a.length<4611686018427387904):qU (a,b)/\ (a=b->Bo (a,b)=true):=by
 unfold qU Bo ai
 dsimp only
 by_cases hab:a.length=b.length
 rotate_left
 ·have hn:(((a.length:Nat):Int) !=((b.length:Nat):Int))=true:=by simp;omega
  exact ⟨fun q=>absurd hn q,fun q=>absurd (by rw [q]) hab⟩
 have hn: ¬((((a.length:Nat):Int) !=((b.length:Nat):Int))=true):=by simp [hab]
 rw [if_neg hn]
 have key:TR (ic (a,b)) (lR (a,b)) 0 fun r=>a=b->r= .inr ():=by
  refine aZ a.length (fun i s=>s=(i:Int)) _ (fun i s hi hj=> ?_) (fun s hj=> ?_) rfl
  ·subst hj
   refine ⟨?_,?_⟩
   ·unfold lR
    intro _
    dsimp only
    rw [Int.toNat_natCast]
    exact ⟨⟨by omega,by omega⟩,hi,hi,⟨by omega,by omega⟩,by omega,by omega⟩
   ·unfold ic
    dsimp only
    rw [if_pos (by omega),Int.toNat_natCast]
    split
    ·rename_i hne
     refine .inr ⟨_,rfl,fun q=> ?_⟩
     subst q
     simp at hne
    ·exact .inl ⟨_,rfl,fJ hi hl⟩
  ·subst hj
   refine ⟨?_,_,?_,fun _=>rfl⟩
   ·unfold lR
    intro q
    dsimp only at q;omega
   ·unfold ic
    dsimp only
    rw [if_neg (by omega)]
 refine ⟨fun _=>key.1,fun q=> ?_⟩
 rw [key.2 q];rfl
end Go.Proofs.YtbjfokijjefoeaaGreat
