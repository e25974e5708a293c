/- RaySeen holds. -/
import Derived.Test.YtlkgabjhkfhgaaaGreatSg
import Derived.Test.YtlkgabjhkfhgaaaGreatYn
noncomputable section
set_option linter.unusedSectionVars false
set_option linter.unusedVariables false
set_option linter.unusedSimpArgs false
namespace Go.Proofs.YtlkgabjhkfhgaaaGreat
open Go Go.Ev Go.Proofs
abbrev zW:P3×P3:=(z3,z3)
theorem O9 {L:List T3} (hs:xC L) (hl:L.length<=16) {B:List u6} (hB:B=(bY L).1) (hBl:B.length<=1000) {ways:List (P3×P3)} (hw:ways.length<=20):
  TR (ek (L,ways)) (jA (L,ways)) (L,(0,([],(0,(0,(B,(0,(0,0)))))))) fun r=>r= .inr ():=by
 refine gN ways.length (fun i s=> ∃dn T,∃w v:Int,s=(L,(dn,(T,(w,(v,(B,(w,(v,(i:Int)))))))))/\ ZP L dn T/\ 0<=w/\ w<=(i:Int)/\ 0<=v/\ v<=(i:Int)*1000) _ (fun i s hi hJ=> ?_) (fun s hJ=> ?_) ⟨0,[],0,0,rfl,.inl rfl,by omega,by omega,by omega,by omega⟩
 ·obtain ⟨dn,T,w,v,rfl,hC,w0,w1,v0,v1⟩:=hJ
  obtain ⟨p1,p2,p3⟩:=hC.pick (by omega)
  rw [<- hB] at p3
  obtain ⟨q1,q2⟩:=pb hs (by omega) (ways.getD i zW).1 (ways.getD i zW).2
  rw [<- hB] at q1 q2
  have q1:jm (B,(L,ways.getD i ((((0:Int),((0:Int),(0:Int)))),((0:Int),((0:Int),(0:Int)))))):=q1
  have e1:ae ((i:Int)+1)=((i+1:Nat):Int):=by rw [aL (by omega) (by omega)];rfl
  obtain ⟨u,hu⟩: ∃u,u=xx (B,(L,ways.getD i ((((0:Int),((0:Int),(0:Int)))),((0:Int),((0:Int),(0:Int)))))):=⟨_,rfl⟩
  have hu2:aK.ask L B (ways.getD i ((((0:Int),((0:Int),(0:Int)))),((0:Int),((0:Int),(0:Int)))))=u:=hu.symm
  have q2:u=(false,(0,5))\/ ∃(h:Bool) (m:Nat),1<=m/\ m<=B.length/\ u=(h,((m:Int),0)):=by
   rcases q2 with ⟨_,e⟩|⟨_,m,m1,m2,e⟩
   ·exact .inl (hu.trans e)
   ·exact .inr ⟨_,m,m1,m2,hu.trans e⟩
  unfold jA ek az ai
  dsimp only
  rw [Int.toNat_natCast,p3]
  refine ⟨fun _=>⟨⟨by omega,by omega⟩,hi,hi,hi,⟨by omega,by omega⟩,hi,hi,hi,p1,p2,q1,⟨by omega,by omega⟩,hi,hi,hi,⟨by omega,by omega⟩,hi,hi,hi,q1⟩,.inl ?_⟩
  rw [if_pos (by omega),hu2,<- hu,e1]
  rcases q2 with rfl|⟨h,m,m1,m2,rfl⟩
  ·dsimp only
   have c1:dB (false,((0:Int),(5:Int))) w 1=w:=rfl
   have c2:dB (false,((0:Int),(5:Int))) v 0=v:=rfl
   rw [c1,c2,if_neg (by decide),if_neg (by decide),if_neg (by decide),if_neg (by simp),if_neg (by rw [Int.sub_self];decide),if_neg (by decide),if_pos (by decide),if_neg (by decide)]
   exact ⟨_,rfl,1,B,w,v,rfl,.inr ⟨rfl,hB⟩,w0,by omega,v0,by omega⟩
  ·dsimp only
   have c1:dB (h,((m:Int),(0:Int))) w 1=w+1:=aL (by omega) (by omega)
   have c2:dB (h,((m:Int),(0:Int))) v (m:Int)=v+m:=aL (by omega) (by omega)
   have c3:ae (w+1)=w+1:=aL (by omega) (by omega)
   have c4:ae (v+(m:Int)- v)=(m:Int):=by rw [aL (by omega) (by omega)];omega
   rw [c1,c2,c3,c4,if_neg (by decide),if_neg (by cases h<;>decide),if_pos (by decide),if_neg (by simp),if_neg (by simp),if_pos (by decide),if_neg (by omega),if_neg (by omega),if_neg (by decide)]
   exact ⟨_,rfl,1,B,w+1,v+m,rfl,.inr ⟨rfl,hB⟩,by omega,by omega,by omega,by omega⟩
 ·obtain ⟨dn,T,w,v,rfl,_⟩:=hJ
  refine ⟨?_,.inr (),?_,rfl⟩
  ·unfold jA
   intro q
   dsimp only at q;omega
  ·unfold ek
   dsimp only
   rw [if_neg (by omega)]
theorem y5 (x:List T3×List (P3×P3)):rJ x/\ Gr x=true:=by
 obtain ⟨L,ways⟩:=x
 obtain ⟨b1,b2⟩:=kX false
 unfold rJ Gr
 rw [b2]
 dsimp only
 by_cases n1:((L.length:Nat):Int)>16
 ·rw [if_pos n1];exact ⟨fun q=>absurd n1 q,rfl⟩
 by_cases n3:((ways.length:Nat):Int)>20
 ·rw [if_neg n1,if_pos n3];exact ⟨fun _ q=>absurd n3 q,rfl⟩
 have n2: ¬((L.length:Nat):Int)>500:=by omega
 obtain ⟨g1,g2⟩:=kH L (by omega)
 obtain ⟨c1,c2⟩:=sF L (by omega)
 obtain ⟨t1,t2⟩:=jX L (by omega)
 rw [if_neg n1,if_neg n3,if_neg n2]
 simp only [Iw,OB]
 rcases t2 with ⟨hs,e⟩|⟨hs,G,N,U,e,hG,ht⟩
 ·have g3:bZ (L,false)=true:=g2.2 hs
  rw [g3]
  refine ⟨fun _ _=>⟨fun q=>absurd q n2,fun _=>⟨g1,fun _=>⟨t1,b1⟩,fun q=>absurd rfl q⟩⟩,?_⟩
  rw [if_pos rfl,e]
  rfl
 ·have g3:bZ (L,false)=false:=by
   cases h:bZ (L,false) with
   |false=>rfl
   |true=>exact absurd hs (g2.1 h)
  have key:=O9 hs (by omega) (B:=(bY L).1) rfl (by rw [e];exact hG) (ways:=ways) (by omega)
  rw [g3,c2,key.2]
  refine ⟨fun _ _=>⟨fun q=>absurd q n2,fun _=>⟨g1,fun q=>(by cases q),fun _=>⟨c1,t1,key.1,b1⟩⟩⟩,?_⟩
  rw [if_neg (by decide)]
  rfl
end Go.Proofs.YtlkgabjhkfhgaaaGreat
