/- RayEnds holds. -/
import Derived.Test.YtlkgabjhkfhgaaaGreatSf
import Derived.Test.YtlkgabjhkfhgaaaGreatYn
noncomputable section
set_option linter.unusedSectionVars false
set_option linter.unusedVariables false
set_option linter.unusedSimpArgs false
namespace Go.Proofs.YtlkgabjhkfhgaaaGreat
open Go Go.Ev Go.Proofs
theorem yZ (x:List T3×(P3×(List P3×List P3))):rH x/\ Gp x=true:=by
 obtain ⟨L,a,E,M⟩:=x
 obtain ⟨b1,b2⟩:=kX false
 unfold rH Gp
 rw [b2]
 dsimp only
 by_cases n1:((L.length:Nat):Int)>16
 ·rw [if_pos n1];exact ⟨fun q=>absurd n1 q,rfl⟩
 by_cases n2:((E.length:Nat):Int)>20
 ·rw [if_neg n1,if_pos n2];exact ⟨fun _ q=>absurd n2 q,rfl⟩
 by_cases n3:((M.length:Nat):Int)>20
 ·rw [if_neg n1,if_neg n2,if_pos n3];exact ⟨fun _ _ q=>absurd n3 q,rfl⟩
 obtain ⟨o1,o2⟩:=je (L:=L) (by omega) a (E:=E) (by omega)
 obtain ⟨m1,m2⟩:=je (L:=L) (by omega) a (E:=M) (by omega)
 obtain ⟨u1,u2⟩:=je (L:=L) (by omega) a (E:=([]++E)++M) (by simp;omega)
 refine ⟨fun _ _ _=>⟨by omega,by simp;omega,o1,m1,u1,⟨fun _=>b1,fun _=>⟨fun _=>b1,fun _=>b1⟩⟩⟩,?_⟩
 rw [if_neg n1,if_neg n2,if_neg n3]
 simp only [Iw]
 rcases o2 with ⟨q,e⟩|⟨q,e⟩
 ·rcases u2 with ⟨_,e2⟩|⟨q2,_⟩
  ·rw [e,e2];rfl
  ·exact absurd ⟨q2.1,q2.2.1,fun p hp=>q2.2.2 p (by simp [hp])⟩ q
 ·rcases m2 with ⟨q',e'⟩|⟨q',e'⟩
  ·rcases u2 with ⟨_,e2⟩|⟨q2,_⟩
   ·rw [e,e',e2];rfl
   ·exact absurd ⟨q2.1,q2.2.1,fun p hp=>q2.2.2 p (by simp [hp])⟩ q'
  ·rcases u2 with ⟨q2,_⟩|⟨_,e2⟩
   ·refine absurd ⟨q.1,q.2.1,fun p hp=> ?_⟩ q2
    rcases List.mem_append.1 hp with hp|hp
    ·exact q.2.2 p (by simpa using hp)
    ·exact q'.2.2 p hp
   ·have hc:jG L a (([]++E)++M)=jG L a E+jG L a M:=by unfold jG;rw [List.nil_append,List.countP_append]
    have h1:jG L a E<=E.length:=List.countP_le_length
    have h2:jG L a M<=M.length:=List.countP_le_length
    rw [e,e',e2,hc]
    dsimp only
    rw [if_neg (by decide),if_neg (by decide),if_pos trivial,if_pos (by decide),aL (by omega) (by omega),if_pos (by rw [beq_iff_eq];omega),if_pos (by omega)]
    exact decide_eq_true (by omega)
end Go.Proofs.YtlkgabjhkfhgaaaGreat
