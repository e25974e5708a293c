/- RayMore holds, where the rows are not too long for a machine. -/
import Derived.Test.YtlkgabjhkfhgaaaGreatSh
import Derived.Test.YtlkgabjhkfhgaaaGreatYn
noncomputable section
set_option linter.unusedSectionVars false
set_option linter.unusedVariables false
set_option linter.unusedSimpArgs false
namespace Go.Proofs.YtlkgabjhkfhgaaaGreat
open Go Go.Ev Go.Proofs
theorem y3 (x:List T3×(List T3×(P3×P3))) (hx:x.1.length+x.2.1.length<=4611686018427387904):rI x/\ Gq x=true:=by
 obtain ⟨L,M,a,b⟩:=x
 dsimp only at hx
 obtain ⟨b1,b2⟩:=kX false
 have hw:ae (((L.length:Nat):Int)+((M.length:Nat):Int))=((L.length:Nat):Int)+((M.length:Nat):Int):=aL (by omega) (by omega)
 unfold rI Gq
 rw [b2]
 dsimp only
 rw [hw]
 by_cases n1:((L.length:Nat):Int)+((M.length:Nat):Int)>16
 ·rw [if_pos n1];exact ⟨fun q=>absurd n1 q,rfl⟩
 obtain ⟨o1,o2⟩:=je (L:=L) (by omega) a (E:= [b]) (by simp)
 obtain ⟨m1,m2⟩:=je (L:=M) (by omega) a (E:= [b]) (by simp)
 obtain ⟨u1,u2⟩:=je (L:=([]++L)++M) (by simp;omega) a (E:= [b]) (by simp)
 refine ⟨fun _=>⟨by omega,by simp;omega,o1,m1,u1,⟨fun _=>b1,fun _=>⟨fun _=>b1,fun _=>b1⟩⟩⟩,?_⟩
 rw [if_neg n1]
 simp only [Iw]
 have hsub:xC (([]++L)++M)↔xC L/\ xC M:=by
  unfold xC
  simp only [List.nil_append,List.mem_append]
  exact ⟨fun h=>⟨fun t ht=>h t (.inl ht),fun t ht=>h t (.inr ht)⟩,fun h t ht=>ht.elim (h.1 t) (h.2 t)⟩
 rcases o2 with ⟨q,e⟩|⟨q,e⟩
 ·rcases u2 with ⟨_,e2⟩|⟨q2,_⟩
  ·rw [e,e2];rfl
  ·exact absurd ⟨(hsub.1 q2.1).1,q2.2⟩ q
 ·rcases m2 with ⟨q',e'⟩|⟨q',e'⟩
  ·rcases u2 with ⟨_,e2⟩|⟨q2,_⟩
   ·rw [e,e',e2];rfl
   ·exact absurd ⟨(hsub.1 q2.1).2,q2.2⟩ q'
  ·rcases u2 with ⟨q2,_⟩|⟨_,e2⟩
   ·exact absurd ⟨hsub.2 ⟨q.1,q'.1⟩,q.2⟩ q2
   ·rw [e,e',e2]
    have hl:eP (L++M) a b↔eP L a b\/ eP M a b:=by
     unfold eP
     simp only [List.mem_append]
     constructor
     ·rintro ⟨t,h|h,q⟩
      ·exact .inl ⟨t,h,q⟩
      ·exact .inr ⟨t,h,q⟩
     ·rintro (⟨t,h,q⟩|⟨t,h,q⟩)
      ·exact ⟨t,.inl h,q⟩
      ·exact ⟨t,.inr h,q⟩
    dsimp only
    rw [if_neg (by decide),if_neg (by decide),if_pos trivial,if_pos (by decide)]
    unfold jG
    rw [List.nil_append]
    simp only [List.countP_cons,List.countP_nil]
    by_cases h1:eP L a b<;>by_cases h2:eP M a b<;>simp [hl,h1,h2,fe]
end Go.Proofs.YtlkgabjhkfhgaaaGreat
