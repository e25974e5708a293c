/- Plain law: GatherDarker. -/
import Derived.Test.YtngdehlpoomaiaaGreatMi
import Derived.Test.YtngdehlpoomaiaaGreatLp
noncomputable section
set_option linter.unusedSectionVars false
set_option linter.unusedVariables false
set_option linter.unusedSimpArgs false
namespace Go.Proofs.YtngdehlpoomaiaaGreat
open Go Go.Ev Go.Proofs
theorem UQ {s len mJ jg more:Int} {Lt:List qw} (p:P3×P3) (h1:0<=jg) (h2:jg<=more) (h3:more<=255):bX (oa Lt ((s,len,mJ,more),p))=bX (oa Lt ((s,len,mJ,jg),p)):=by
 have e:Ux (oa Lt ((s,len,mJ,more),p)).1↔Ux (oa Lt ((s,len,mJ,jg),p)).1:=by
  unfold Ux oa
  dsimp only
  constructor
  ·exact fun ⟨a,b,c,d,e,f⟩=>⟨a,b,c,by omega,e,f⟩
  ·exact fun ⟨a,b,c,d,e,f⟩=>⟨a,b,c,by omega,e,f⟩
 unfold bX
 simp only [e]
 rfl
theorem EC {y:(Int×Int×Int×Int)×(P3×P3)} {Lt:List qw} (k:Nat) (h:bX (oa Lt y)=0):bX (oa (Lt.take k) y)=0:=by
 obtain ⟨h1,h2,h3,h4⟩:=iy h
 have ok:Ux (oa (Lt.take k) y).1:=by
  obtain ⟨a,b,c,d,e,f⟩:=h1
  refine ⟨a,b,c,d,?_,fun l hl=>f l (List.mem_of_mem_take hl)⟩
  show (Lt.take k).length<=8
  have e:Lt.length<=8:=e
  rw [List.length_take];omega
 unfold bX
 have h23:In4 (oa (Lt.take k) y).2.1/\ Nr (oa (Lt.take k) y).2.2:=⟨h2,h3⟩
 have h4': ¬(oa (Lt.take k) y).2.2=(0,0,0):=h4
 rw [if_neg (fun q=>q ok),if_neg (fun q=>q h23),if_neg h4']
theorem Y9 (l:List T3) (t:T3) (a b:P3) (h:jy l a b):jy (([]++l)++ [t]) a b:=by
 obtain ⟨q,h1,h2⟩:=h
 exact ⟨q,by simp [h1],h2⟩
abbrev aj5:Type:=List T3×(T3×Jb×P3×P3×Int)
theorem w8 (x:aj5):qf x/\ Bs x=true:=by
 obtain ⟨l,t,j,p,n,more⟩:=x
 obtain ⟨g1,g2⟩:=rP false
 unfold qf Bs aB aj
 dsimp only
 rw [g2]
 cases hf:wV (l,j) with
 |false=>exact ⟨⟨fun _=>g1,fun h=>absurd rfl h⟩,rfl⟩
 |true=>
 have QJ:=hf
 rw [Lg] at QJ
 have QJ:=of_decide_eq_true QJ
 rw [if_neg (by decide)]
 by_cases ha:j.2.2.2.1<0
 ·rw [if_pos ha]
  exact ⟨⟨fun q=>absurd q (by decide),fun _=>⟨fun _=>g1,fun q=>absurd ha q⟩⟩,rfl⟩
 rw [if_neg ha]
 by_cases hm:more<j.2.2.2.1
 ·rw [if_pos hm]
  exact ⟨⟨fun q=>absurd q (by decide),fun _=>⟨fun q=>absurd q ha,fun _=>⟨fun _=>g1,fun q=>absurd hm q⟩⟩⟩,rfl⟩
 rw [if_neg hm]
 by_cases hb:more>255
 ·rw [if_pos hb]
  exact ⟨⟨fun q=>absurd q (by decide),fun _=>⟨fun q=>absurd q ha,fun _=>⟨fun q=>absurd q hm,fun _=>⟨fun _=>g1,fun q=>absurd hb q⟩⟩⟩⟩,rfl⟩
 rw [if_neg hb]
 by_cases h7:((l.length:Nat):Int)>7
 ·rw [if_pos h7]
  exact ⟨⟨fun q=>absurd q (by decide),fun _=>⟨fun q=>absurd q ha,fun _=>⟨fun q=>absurd q hm,fun _=>⟨fun q=>absurd q hb,fun _=>⟨fun _=>g1,fun q=>absurd h7 q⟩⟩⟩⟩⟩,rfl⟩
 rw [if_neg h7]
 have De: ¬((l.length:Nat):Int)>500:=by omega
 have hAl:(([]++l)++ [t]).length=l.length+1:=by simp
 have hA5: ¬(((([]++l)++ [t]).length:Nat):Int)>500:=by rw [hAl];omega
 have Dh:([]++l).length+1<1099511627776:=by simp;omega
 have aiq:=Y9 l t
 have hsub:yA (([]++l)++ [t])->yA l:=fun h q hq=>h q (by simp [hq])
 rw [if_neg De]
 generalize ([]++l)++ [t]=A at*
 rw [if_neg hA5]
 by_cases hs:yA l
 rotate_left
 ·obtain ⟨d1,d2⟩:=oW (L:=l) (by omega) hs
  obtain ⟨e1,e2⟩:=oW (L:=A) (by omega) (fun h=>hs (hsub h))
  rw [d2,e2]
  exact ⟨⟨fun q=>absurd q (by decide),fun _=>⟨fun q=>absurd q ha,fun _=>⟨fun q=>absurd q hm,fun _=>⟨fun q=>absurd q hb,fun _=>⟨fun q=>absurd q h7,fun _=>⟨by omega,Dh,fun q=>absurd q De,fun _=>⟨d1,fun _=>⟨fun q=>absurd q hA5,fun _=>⟨e1,fun _=>g1,fun q=>absurd rfl q⟩⟩,fun q=>absurd rfl q⟩⟩⟩⟩⟩⟩⟩,rfl⟩
 obtain ⟨d1,d2⟩:=jI (L:=l) (by omega) hs
 obtain ⟨l1,l2⟩:=nH l (by omega)
 rw [d2,l2]
 by_cases hsA:yA A
 rotate_left
 ·obtain ⟨e1,e2⟩:=oW (L:=A) (by omega) hsA
  rw [e2]
  exact ⟨⟨fun q=>absurd q (by decide),fun _=>⟨fun q=>absurd q ha,fun _=>⟨fun q=>absurd q hm,fun _=>⟨fun q=>absurd q hb,fun _=>⟨fun q=>absurd q h7,fun _=>⟨by omega,Dh,fun q=>absurd q De,fun _=>⟨d1,fun q=>absurd q (by decide),fun _=>⟨l1,fun q=>absurd q hA5,fun _=>⟨e1,fun _=>g1,fun q=>absurd rfl q⟩⟩⟩⟩⟩⟩⟩⟩⟩,by simp [hA5]⟩
 obtain ⟨e1,e2⟩:=jI (L:=A) (by omega) hsA
 obtain ⟨c1,c2⟩:=nH A (by omega)
 rw [e2]
 try dsimp only
 rw [c2]
 try dsimp only
 have Mq: ∀(Lt:List qw) (jg:Int),bX (oa Lt ((j.1,j.2.1,j.2.2.1,jg),p,n))=0->j.1<=24:=fun Lt jg h=>by
  have:=(iy h).1.1
  dsimp only [oa] at this
  omega
 obtain ⟨v1,T1,dn1,a1,b1,v2,C1⟩:=j6 hs (by omega) (T:= []) (dn:=0) (.inl rfl) j.2.2.2.2 ((j.1,j.2.1,j.2.2.1,j.2.2.2.1),p,n) (Mq _ _) 0 0
 obtain ⟨w1,T2,dn2,a2,b2,w2,_⟩:=j6 hsA (by omega) (T:= []) (dn:=0) (.inl rfl) j.2.2.2.2 ((j.1,j.2.1,j.2.2.1,j.2.2.2.1),p,n) (Mq _ _) 0 0
 obtain ⟨u1,T3,dn3,a3,b3,u2,C3⟩:=j6 hs (by omega) C1 j.2.2.2.2 ((j.1,j.2.1,j.2.2.1,more),p,n) (Mq _ _) a1 b1
 rw [UQ (s:=j.1) (len:=j.2.1) (mJ:=j.2.2.1) (jg:=j.2.2.2.1) (more:=more) (Lt:=j.2.2.2.2) (p,n) (by omega) (by omega) (by omega)] at u2
 have eo:oa j.2.2.2.2 ((j.1,j.2.1,j.2.2.1,j.2.2.2.1),p,n)=(j,p,n):=rfl
 have est:gg (oa j.2.2.2.2 ((j.1,j.2.1,j.2.2.1,more),p,n))=gg (j,p,n):=rfl
 rw [eo] at v2 w2 u2
 rw [est] at u2
 by_cases h0:((j.2.2.2.2.length:Nat):Int)>0
 ·have ew:au (((j.2.2.2.2.length:Nat):Int)- 1)=((j.2.2.2.2.length:Nat):Int)- 1:=aC (by omega) (by omega)
  obtain ⟨z1,T4,dn4,a4,b4,z2,C4⟩:=j6 hs (by omega) C3 (j.2.2.2.2.take (Int.toNat (((j.2.2.2.2.length:Nat):Int)- 1))) ((j.1,j.2.1,j.2.2.1,j.2.2.2.1),p,n) (Mq _ _) a3 b3
  rw [if_pos h0,ew,v2]
  try dsimp only
  rw [w2,u2]
  try dsimp only
  rw [z2]
  try dsimp only
  by_cases hc:bX (j,p,n)=0
  rotate_left
  ·have bne:((bX (j,p,n)) !=0)=true:=by simpa using hc
   simp only [if_neg hc,if_pos bne]
   refine ⟨⟨fun q=>absurd q (by decide),fun _=>⟨fun q=>absurd q ha,fun _=>⟨fun q=>absurd q hm,fun _=>⟨fun q=>absurd q hb,fun _=>⟨fun q=>absurd q h7,fun _=>⟨by omega,Dh,fun q=>absurd q De,fun _=>⟨d1,fun q=>absurd q (by decide),fun _=>⟨l1,fun q=>absurd q hA5,fun _=>⟨e1,fun q=>absurd q (by decide),fun _=>⟨c1,fun _=>⟨by omega,v1,w1,u1,z1,fun _=>g1,fun _=>g1⟩,fun q=>absurd h0 q⟩⟩⟩⟩⟩⟩⟩⟩⟩⟩,?_⟩
   simp
  have hz:bX (oa (j.2.2.2.2.take (Int.toNat (((j.2.2.2.2.length:Nat):Int)- 1))) ((j.1,j.2.1,j.2.2.1,j.2.2.2.1),p,n))=0:=EC _ hc
  have hst:gg (oa (j.2.2.2.2.take (Int.toNat (((j.2.2.2.2.length:Nat):Int)- 1))) ((j.1,j.2.1,j.2.2.1,j.2.2.2.1),p,n))=gg (j,p,n):=rfl
  have hS:=(iy hc).1.1.1
  have q1:=AN aiq (Lt:=j.2.2.2.2) (s:=j.1) (len:=j.2.1) (b1:=j.2.2.1) (b2:=j.2.2.1) (jg:=j.2.2.2.1) hS (by omega) (Int.le_refl _) (gg (j,p,n)) n
  have q2:=AN (L:=l) (M:=l) (fun _ _ h=>h) (Lt:=j.2.2.2.2) (s:=j.1) (len:=j.2.1) (b1:=j.2.2.1) (b2:=j.2.2.1) (jg:=j.2.2.2.1) (Qh:=more) hS (by omega) (by omega) (gg (j,p,n)) n
  have q3:=G7 l j.2.2.2.2 (Int.toNat (((j.2.2.2.2.length:Nat):Int)- 1)) ((j.1,j.2.1,j.2.2.1,j.2.2.2.1),gg (j,p,n),n)
  simp only [if_pos hc,if_pos hz,hst]
  refine ⟨⟨fun q=>absurd q (by decide),fun _=>⟨fun q=>absurd q ha,fun _=>⟨fun q=>absurd q hm,fun _=>⟨fun q=>absurd q hb,fun _=>⟨fun q=>absurd q h7,fun _=>⟨by omega,Dh,fun q=>absurd q De,fun _=>⟨d1,fun q=>absurd q (by decide),fun _=>⟨l1,fun q=>absurd q hA5,fun _=>⟨e1,fun q=>absurd q (by decide),fun _=>⟨c1,fun _=>⟨by omega,v1,w1,u1,z1,fun _=>g1,fun _=>g1⟩,fun q=>absurd h0 q⟩⟩⟩⟩⟩⟩⟩⟩⟩⟩,?_⟩
  simp only [Bool.false_eq_true,if_false,bne_self_eq_false,if_true,beq_self_eq_true,ge_iff_le]
  rw [if_pos q1,if_pos q2,if_neg hA5]
  exact decide_eq_true q3
 ·have hn:j.2.2.2.2= []:=List.eq_nil_of_length_eq_zero (by omega)
  obtain ⟨z1,T4,dn4,a4,b4,z2,C4⟩:=j6 hs (by omega) C3 [] ((j.1,j.2.1,j.2.2.1,j.2.2.2.1),p,n) (Mq _ _) a3 b3
  rw [if_neg h0,v2]
  try dsimp only
  rw [w2,u2]
  try dsimp only
  rw [z2]
  try dsimp only
  by_cases hc:bX (j,p,n)=0
  rotate_left
  ·have bne:((bX (j,p,n)) !=0)=true:=by simpa using hc
   simp only [if_neg hc,if_pos bne]
   refine ⟨⟨fun q=>absurd q (by decide),fun _=>⟨fun q=>absurd q ha,fun _=>⟨fun q=>absurd q hm,fun _=>⟨fun q=>absurd q hb,fun _=>⟨fun q=>absurd q h7,fun _=>⟨by omega,Dh,fun q=>absurd q De,fun _=>⟨d1,fun q=>absurd q (by decide),fun _=>⟨l1,fun q=>absurd q hA5,fun _=>⟨e1,fun q=>absurd q (by decide),fun _=>⟨c1,fun q=>absurd q h0,fun _=>⟨v1,w1,u1,z1,fun _=>g1,fun _=>g1⟩⟩⟩⟩⟩⟩⟩⟩⟩⟩⟩,?_⟩
   simp
  have hz:bX (oa [] ((j.1,j.2.1,j.2.2.1,j.2.2.2.1),p,n))=0:=by
   have:=EC (y:=((j.1,j.2.1,j.2.2.1,j.2.2.2.1),p,n)) (Lt:=j.2.2.2.2) 0 hc
   simpa using this
  have hst:gg (oa [] ((j.1,j.2.1,j.2.2.1,j.2.2.2.1),p,n))=gg (j,p,n):=rfl
  have hS:=(iy hc).1.1.1
  have q1:=AN aiq (Lt:=j.2.2.2.2) (s:=j.1) (len:=j.2.1) (b1:=j.2.2.1) (b2:=j.2.2.1) (jg:=j.2.2.2.1) hS (by omega) (Int.le_refl _) (gg (j,p,n)) n
  have q2:=AN (L:=l) (M:=l) (fun _ _ h=>h) (Lt:=j.2.2.2.2) (s:=j.1) (len:=j.2.1) (b1:=j.2.2.1) (b2:=j.2.2.1) (jg:=j.2.2.2.1) (Qh:=more) hS (by omega) (by omega) (gg (j,p,n)) n
  have q3:=G7 l j.2.2.2.2 0 ((j.1,j.2.1,j.2.2.1,j.2.2.2.1),gg (j,p,n),n)
  rw [List.take_zero] at q3
  simp only [if_pos hc,if_pos hz,hst]
  refine ⟨⟨fun q=>absurd q (by decide),fun _=>⟨fun q=>absurd q ha,fun _=>⟨fun q=>absurd q hm,fun _=>⟨fun q=>absurd q hb,fun _=>⟨fun q=>absurd q h7,fun _=>⟨by omega,Dh,fun q=>absurd q De,fun _=>⟨d1,fun q=>absurd q (by decide),fun _=>⟨l1,fun q=>absurd q hA5,fun _=>⟨e1,fun q=>absurd q (by decide),fun _=>⟨c1,fun q=>absurd q h0,fun _=>⟨v1,w1,u1,z1,fun _=>g1,fun _=>g1⟩⟩⟩⟩⟩⟩⟩⟩⟩⟩⟩,?_⟩
  simp only [Bool.false_eq_true,if_false,bne_self_eq_false,if_true,beq_self_eq_true,ge_iff_le]
  rw [if_pos q1,if_pos q2,if_neg hA5]
  exact decide_eq_true q3
end Go.Proofs.YtngdehlpoomaiaaGreat
