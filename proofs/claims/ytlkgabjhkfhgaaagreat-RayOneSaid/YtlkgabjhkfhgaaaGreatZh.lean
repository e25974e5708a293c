/- RayOne holds. -/
import Derived.Test.YtlkgabjhkfhgaaaGreatSh
import Derived.Test.YtlkgabjhkfhgaaaGreatYn
noncomputable section
set_option linter.unusedSectionVars false
set_option linter.unusedVariables false
set_option linter.unusedSimpArgs false
namespace Go.Proofs.YtlkgabjhkfhgaaaGreat
open Go Go.Ev Go.Proofs
theorem NR {L:List T3} (hs:xC L) (hl:L.length<=1000) (a b:P3):uu (a,(b,L))/\ (fq a/\ fq b-> ∃k:Int,firstM (a,(b,L))=(k,(decide (eP L a b),0))):=by
 by_cases hab:fq a/\ fq b
 ·have key:TR (cE (a,(b,L))) (dA (a,(b,L))) (0,(false,0)) fun r=> ∃k:Int,r= .inr (k,decide (eP L a b)):=by
   refine gN L.length (fun i s=> ∃k:Int,s=(k,(decide (eP (L.take i) a b),(i:Int)))) _ (fun i s hi hJ=> ?_) (fun s hJ=> ?_) ⟨0,by
    rw [decide_eq_false (show¬eP (L.take 0) a b from fun ⟨t,h,_⟩=>by simp at h)];rfl⟩
   ·obtain ⟨k,rfl⟩:=hJ
    have ht:ZR (L.getD i zT):=by
     have hm:=hs _ (l8 hi zT)
     exact ⟨hm _ (by simp [C5]),hm _ (by simp [C5]),hm _ (by simp [C5])⟩
    obtain ⟨h1,h2⟩:=L6 hab.1 hab.2 ht
    have e1:ae ((i:Int)+1)=((i+1:Nat):Int):=by rw [aL (by omega) (by omega)];rfl
    have e2:eP (L.take (i+1)) a b↔eP (L.take i) a b\/ qy a b (L.getD i zT):=by
     rw [jl hi zT]
     unfold eP
     simp only [List.mem_append,List.mem_singleton]
     constructor
     ·rintro ⟨t,h|h,q⟩
      ·exact .inl ⟨t,h,q⟩
      ·exact .inr (h▸q)
     ·rintro (⟨t,h,q⟩|q)
      ·exact ⟨t,.inl h,q⟩
      ·exact ⟨_,.inr rfl,q⟩
    unfold dA cE ai
    dsimp only
    rw [Int.toNat_natCast]
    have h3:Dz (a,(b,L.getD i (((0:Int),((0:Int),(0:Int))),(((0:Int),((0:Int),(0:Int))),((0:Int),((0:Int),(0:Int)))))))=(decide (qy a b (L.getD i zT)),0):=h2
    refine ⟨fun _=>⟨⟨by omega,by omega⟩,hi,hi,h1⟩,.inl ?_⟩
    rw [if_pos (by omega),h3,e1]
    dsimp only
    rw [if_neg (by decide)]
    by_cases q:qy a b (L.getD i zT)
    ·rw [decide_eq_true q,if_pos rfl,decide_eq_true (e2.2 (.inr q))]
     by_cases q2:eP (L.take i) a b
     ·rw [decide_eq_true q2,if_neg (by decide)]
      exact ⟨_,rfl,k,rfl⟩
     ·rw [decide_eq_false q2,if_pos (by decide)]
      exact ⟨_,rfl,(i:Int),rfl⟩
    ·rw [decide_eq_false q,if_neg (by decide)]
     have e3:decide (eP (L.take (i+1)) a b)=decide (eP (L.take i) a b):=by
      rw [Bool.eq_iff_iff,decide_eq_true_eq,decide_eq_true_eq,e2]
      exact ⟨fun h=>h.resolve_right q,.inl⟩
     exact ⟨_,rfl,k,by rw [e3]⟩
   ·obtain ⟨k,rfl⟩:=hJ
    refine ⟨?_,.inr (k,decide (eP L a b)),?_,k,rfl⟩
    ·unfold dA
     intro q
     dsimp only at q;omega
    ·unfold cE
     dsimp only
     rw [if_neg (by omega),List.take_length]
  refine ⟨key.1,fun _=> ?_⟩
  obtain ⟨k,e⟩:=key.2
  refine ⟨k,?_⟩
  unfold firstM ai
  rw [e]
  rfl
 ·refine ⟨?_,fun q=>absurd q hab⟩
  obtain ⟨h1,h2⟩:=T0 (a:=a) (b:=b) (t:=L.getD 0 zT) hab
  by_cases h0:L.length=0
  ·refine (TR.stop (Post:=fun _=>True) (r:= .inr (0,false)) ?_ ?_ trivial:TR (cE (a,(b,L))) (dA (a,(b,L))) (0,(false,0)) _).1
   ·unfold dA
    intro q
    dsimp only at q;omega
   ·unfold cE
    dsimp only
    rw [if_neg (by omega)]
  ·refine (TR.stop (Post:=fun _=>True) (r:= .inl 5) ?_ ?_ trivial:TR (cE (a,(b,L))) (dA (a,(b,L))) (0,(false,0)) _).1
   ·unfold dA
    intro q
    exact ⟨⟨by decide,by dsimp only at q ⊢;omega⟩,by dsimp only;omega,by dsimp only;omega,h1⟩
   ·unfold cE ai
    dsimp only
    have h3:Dz (a,(b,L.getD (Int.toNat 0) (((0:Int),((0:Int),(0:Int))),(((0:Int),((0:Int),(0:Int))),((0:Int),((0:Int),(0:Int)))))))=(false,5):=h2
    rw [if_pos (by omega),h3]
    rfl
theorem eP.symm (L:List T3) (a b:P3):eP L a b↔eP L b a:=by
 unfold eP
 exact ⟨fun ⟨t,h,q⟩=>⟨t,h,qy.symm.1 q⟩,fun ⟨t,h,q⟩=>⟨t,h,qy.symm.1 q⟩⟩
theorem BB (x:List T3×(P3×P3)):uz x/\ KT x=true:=by
 obtain ⟨L,a,b⟩:=x
 obtain ⟨b1,b2⟩:=kX false
 unfold uz KT
 rw [b2]
 dsimp only
 by_cases n1:((L.length:Nat):Int)>16
 ·rw [if_pos n1];exact ⟨fun q=>absurd n1 q,rfl⟩
 have n2: ¬((L.length:Nat):Int)>500:=by omega
 obtain ⟨g1,g2⟩:=kH L (by omega)
 obtain ⟨c1,c2⟩:=sF L (by omega)
 rw [if_neg n1,if_neg n2]
 by_cases hs:xC L
 rotate_left
 ·have g3:bZ (L,false)=true:=g2.2 hs
  rw [g3]
  exact ⟨fun _=>⟨fun q=>absurd q n2,fun _=>⟨g1,fun _=>b1,fun q=>absurd rfl q⟩⟩,rfl⟩
 have g3:bZ (L,false)=false:=by
  cases h:bZ (L,false) with
  |false=>rfl
  |true=>exact absurd hs (g2.1 h)
 have k0:c5 0 (aK.base.qI L) []=(bY L).1:=rfl
 have k1:c5 1 (aK.base.qI L) (bY L).1=(bY L).1:=rfl
 have bp:=(jX L (by omega)).1
 obtain ⟨w1,w2⟩:=pb hs (by omega) a b
 obtain ⟨v1,v2⟩:=pb hs (by omega) b a
 obtain ⟨f1,f2⟩:=NR hs (by omega) a b
 have s1:=(cK [a,b] (by simp)).1
 simp only [Iw,OB]
 rw [g3,c2,k0,k1]
 refine ⟨fun _=>⟨fun q=>absurd q n2,fun _=>⟨g1,fun q=>(by cases q),fun _=>⟨c1,fun _=>bp,w1,fun q=>absurd q (by decide),v1,f1,fun _=>⟨b1,fun _ _ _ _=>s1⟩,fun _=>b1⟩⟩⟩,?_⟩
 rw [if_neg (by decide)]
 rcases w2 with ⟨q,e⟩|⟨q,m,_,_,e⟩
 ·rcases v2 with ⟨_,e'⟩|⟨q',_⟩
  ·have e1:aK.ask L (bY L).1 (a,b)=(false,(0,5)):=e
   have e2:aK.ask L (bY L).1 (b,a)=(false,(0,5)):=e'
   have s2:cJ [a,b]=false:=by rw [(cK [a,b] (by simp)).2];exact decide_eq_false fun h=>q ⟨h a (by simp),h b (by simp)⟩
   rw [e1,e2,s2]
   rfl
  ·exact absurd ⟨q'.2,q'.1⟩ q
 ·rcases v2 with ⟨q',_⟩|⟨_,m',_,_,e'⟩
  ·exact absurd ⟨q.2,q.1⟩ q'
  ·have e1:aK.ask L (bY L).1 (a,b)=(decide (eP L a b),((m:Int),0)):=e
   have e2:aK.ask L (bY L).1 (b,a)=(decide (eP L a b),((m':Int),0)):=e'.trans (by rw [show decide (eP L b a)=decide (eP L a b) from by rw [Bool.eq_iff_iff,decide_eq_true_eq,decide_eq_true_eq];exact (eP.symm L a b).symm])
   obtain ⟨k,e3⟩:=f2 q
   rw [e1,e2,e3]
   dsimp only
   rw [if_neg (by decide),if_pos trivial,if_pos (by decide),if_pos (by simp),if_pos (by decide)]
   simp
end Go.Proofs.YtlkgabjhkfhgaaaGreat
