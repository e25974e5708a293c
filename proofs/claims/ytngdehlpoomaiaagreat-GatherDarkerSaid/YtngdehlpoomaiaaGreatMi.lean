/- Plain laws: what is more, and less, bright. GatherRange. -/
import Derived.Test.YtngdehlpoomaiaaGreatMg
import Derived.Test.YtngdehlpoomaiaaGreatLo
noncomputable section
set_option linter.unusedSectionVars false
set_option linter.unusedVariables false
set_option linter.unusedSimpArgs false
namespace Go.Proofs.YtngdehlpoomaiaaGreat
open Go Go.Ev Go.Proofs
theorem vz (f:qw->List Int): ∀Lt:List qw,mU (Lt.flatMap f)=(Lt.map fun l=>mU (f l)).sum
 | []=>by simp [mU]
 |l::r=>by rw [List.flatMap_cons,j7,vz f r];simp
theorem aaX {f g:qw->Int} : ∀ {Lt:List qw},(∀l∈Lt,f l<=g l)->(Lt.map f).sum<=(Lt.map g).sum
 | [],_=>by simp
 |l::r,h=>by
  have h1:=h l (by simp)
  have h2:=aaX (Lt:=r) fun l hl=>h l (by simp [hl])
  simp only [List.map_cons,List.sum_cons]
  omega
theorem agB {L M:List T3} (h: ∀a b,jy L a b->jy M a b) (a n:P3) (l:qw):mU (zz M a n l)<=mU (zz L a n l):=by
 unfold zz
 by_cases h1:(mF l a).2.2=0/\ ¬jy M a (mF l a).2.1
 ·rw [if_pos h1,if_pos ⟨h1.1,fun q=>h1.2 (h _ _ q)⟩]
  exact Int.le_refl _
 ·rw [if_neg h1]
  exact yJ _
theorem aae {L M:List T3} (h: ∀a b,jy L a b->jy M a b) (Lt:List qw) (a n:P3):mU (eD M Lt a n)<=mU (eD L Lt a n):=by
 unfold eD
 rw [vz,vz]
 exact aaX fun l _=>agB h a n l
theorem adH {L M:List T3} (h: ∀a b,jy L a b->jy M a b) (a:P3): ∀E:List P3,jQ M a E<=jQ L a E:=fun E=>by
 unfold jQ
 refine List.countP_mono_left fun p _ hp=> ?_
 simp only [Bool.not_eq_true',decide_eq_false_iff_not] at hp ⊢
 exact fun q=>hp (h _ _ q)
theorem ab5 {x y:Int} (h:x<=y):oS x<=oS y:=by unfold oS aY aT;split<;>split<;>(try split)<;>(try split)<;>omega
theorem ahM {L M:List T3} (h: ∀a b,jy L a b->jy M a b) {s jg Qh:Int} (hs:0<=s) (ha:0<=jg) (hm:jg<=Qh) (a n:P3) (len:Int):UF M s jg a n len<=UF L s Qh a n len:=by
 unfold UF
 by_cases h0:s=0
 ·rw [if_pos h0,if_pos h0];exact hm
 ·rw [if_neg h0,if_neg h0]
  have h1:=adH h a (eu s a n len)
  refine Int.ediv_le_ediv (by omega) ?_
  exact Int.le_trans (Int.mul_le_mul_of_nonneg_left (by omega) ha) (Int.mul_le_mul_of_nonneg_right hm (by omega))
theorem Pz {A B:List Int} (h:mU A<=mU B):qt A<=qt B:=by unfold qt aY;split<;>split<;>omega
theorem aaW (A:List Int):0<=qt A/\ qt A<=255:=by
 have:=yJ A
 unfold qt aY
 split<;>omega
theorem MD (x:Int):mU [x]=oS x:=by simp [mU]
theorem AN {L M:List T3} (h: ∀a b,jy L a b->jy M a b) {Lt:List qw} {s len b1 b2 jg Qh:Int} (hs:0<=s) (ha:0<=jg) (hm:jg<=Qh) (a n:P3):
  q9 M Lt ((s,len,b1,jg),a,n)<=q9 L Lt ((s,len,b2,Qh),a,n):=by
 unfold q9
 refine Pz ?_
 rw [j7,j7,MD,MD]
 dsimp only
 have h1:=ab5 (ahM h hs ha hm a n len)
 have h2:=aae h Lt a n
 omega
theorem G7 (L:List T3) (Lt:List qw) (k:Nat) (y:(Int×Int×Int×Int)×(P3×P3)):q9 L (Lt.take k) y<=q9 L Lt y:=by
 unfold q9
 refine Pz ?_
 rw [j7,j7]
 have e:eD L Lt y.2.1 y.2.2=eD L (Lt.take k) y.2.1 y.2.2++eD L (Lt.drop k) y.2.1 y.2.2:=by
  unfold eD
  rw [<- List.flatMap_append,List.take_append_drop]
 rw [e,j7]
 have:=yJ (eD L (Lt.drop k) y.2.1 y.2.2)
 omega
theorem Lv (a b:P3): ¬jy [] a b:=fun ⟨t,h,_⟩=>by cases h
theorem aac (a:P3) (E:List P3):jQ [] a E=E.length:=by
 unfold jQ
 rw [List.countP_eq_length]
 intro p _
 rw [decide_eq_false (Lv a p)]
 rfl
theorem afh {s jg:Int} (hs:0<=s/\ s<=24) (a n:P3) (len:Int):UF [] s jg a n len=jg:=by
 unfold UF
 by_cases h0:s=0
 ·rw [if_pos h0]
 ·rw [if_neg h0,aac,qF hs,Int.mul_ediv_cancel _ h0]
theorem aa7 {Lt:List qw} {s len b1 jg:Int} (hs:0<=s/\ s<=24) (a n:P3):q9 [] Lt ((s,len,b1,jg),a,n)=qt ([jg]++Lt.map fun l=>RZ l a n):=by
 unfold q9
 dsimp only
 rw [afh hs]
 have e:mU (eD [] Lt a n)=mU (Lt.map fun l=>RZ l a n):=by
  unfold eD
  rw [vz]
  unfold mU
  rw [List.map_map]
  congr 1
  refine List.map_congr_left fun l _=> ?_
  unfold zz
  by_cases h:(mF l a).2.2=0
  ·rw [if_pos ⟨h,Lv _ _⟩];simp
  ·rw [if_neg (fun q=>h q.1)]
   have e:RZ l a n=0:=by unfold RZ;rw [if_neg h]
   simp [e,oS,aT,aY]
 unfold qt
 rw [j7,j7,e]
theorem Lg (l:List T3) (j:Jb):wV (l,j)=decide (l.length<=8/\ j.2.2.2.2.length<=10/\ (j.1<=12\/ j.1>64)):=by
 unfold wV
 dsimp only
 by_cases h1:((l.length:Nat):Int)<=8
 rotate_left
 ·rw [if_neg h1];exact (decide_eq_false fun h=>h1 (by omega)).symm
 rw [if_pos h1]
 by_cases h2:((j.2.2.2.2.length:Nat):Int)<=10
 rotate_left
 ·rw [if_neg h2];exact (decide_eq_false fun h=>h2 (by omega)).symm
 rw [if_pos h2]
 by_cases h3:j.1<=12
 ·rw [if_pos h3];exact (decide_eq_true ⟨by omega,by omega,.inl h3⟩).symm
 ·rw [if_neg h3,Bool.eq_iff_iff,decide_eq_true_iff,decide_eq_true_iff]
  exact ⟨fun h=>⟨by omega,by omega,.inr h⟩,fun h=>h.2.2.resolve_left h3⟩
theorem ER {l:List T3} {j:Jb} (h:wV (l,j)=true) (p:P3×P3) (hc:bX (j,p)=0):j.1<=12:=by
 rw [Lg] at h
 have h:=of_decide_eq_true h
 have:=(iy hc).1.1
 dsimp only at this
 omega
abbrev ahH:Type:=List T3×(Jb×P3×P3)
theorem RM (x:ahH) {Lt:List qw} {st n:P3} (hx:x.2.1.2.2.2.2=Lt) (hn':x.2.2.2=n) (hl:Lt.length<=100) (hR: ∀l∈Lt,fu l) (hst:A4 st) (hn:Nr n) (h0:n≠(0,0,0)) (a b c d jg:Int):
  TR (dS x) (jt x) (a,b,c,st.1,st.2.1,st.2.2,d,[jg],0) fun r=>r= .inr (a,b,c,(d,[jg]++Lt.map fun l=>RZ l st n)):=by
 refine eS Lt.length (fun i s=>s=(a,b,c,st.1,st.2.1,st.2.2,d,[jg]++(Lt.take i).map (fun l=>RZ l st n),(i:Int))) _ (fun i s hi hJ=> ?_) (fun s hJ=> ?_) rfl
 ·subst hJ
  have hr:=hR _ (jr hi (0,(0,0,0),(0,0,0),0,0))
  obtain ⟨z1,z2⟩:=JM hr hst.p8 hn h0
  have hlen:([jg]++(Lt.take i).map (fun l=>RZ l st n)).length=i+1:=by
   rw [List.length_append,List.length_map,List.length_take];simp;omega
  have w6:au ((i:Int)+1)=((i+1:Nat):Int):=by rw [aC (by omega) (by omega)];rfl
  unfold jt dS aB aj
  dsimp only
  simp only [Int.toNat_natCast]
  rw [hx,hn',z2,hlen]
  refine ⟨fun _=>⟨⟨by omega,by omega⟩,hi,hi,z1,fun _=>by omega⟩,.inl ⟨_,?_,rfl⟩⟩
  rw [if_pos (by omega)]
  dsimp only
  rw [if_neg (by decide),w6,fI hi (0,(0,0,0),(0,0,0),0,0),List.map_append,List.append_assoc]
  rfl
 ·subst hJ
  refine ⟨?_,_,?_,rfl⟩
  ·unfold jt
   intro q
   rw [hx] at q
   dsimp only at q;omega
  ·unfold dS
   dsimp only
   rw [hx,if_neg (by omega),List.take_length]
theorem oW {L:List T3} (hl:L.length<4611686018427387904) (hs: ¬yA L):bJ (L,false)/\ bA (L,false)=true:=by
 obtain ⟨g1,g2⟩:=wT L hl
 exact ⟨g1,g2.2 hs⟩
theorem zq (x:ahH):rX x/\ Fv x=true:=by
 obtain ⟨l,j,p,n⟩:=x
 obtain ⟨g1,g2⟩:=rP false
 obtain ⟨c1,c2⟩:=jI (L:= []) (by decide) LU
 obtain ⟨k1,k2⟩:=nH [] (by decide)
 obtain ⟨s1,s2⟩:=sJ (j,p,n)
 unfold rX Fv aB aj
 dsimp only
 cases hf:wV (l,j) with
 |false=>
  exact ⟨fun h=>absurd rfl h,rfl⟩
 |true=>
 have QJ:=hf
 rw [Lg] at QJ
 have QJ:=of_decide_eq_true QJ
 have De: ¬((l.length:Nat):Int)>500:=by omega
 rw [if_neg (by decide),if_neg De,c2,k2]
 try dsimp only
 (try rw [k2])
 rw [g2]
 by_cases hs:yA l
 rotate_left
 ·obtain ⟨d1,d2⟩:=oW (L:=l) (by omega) hs
  rw [d2]
  exact ⟨fun _=>⟨fun q=>absurd q De,fun _=>⟨d1,fun _=>⟨c1,fun q=>absurd q (by decide),fun _=>⟨k1,g1⟩⟩,fun q=>absurd rfl q⟩⟩,rfl⟩
 obtain ⟨d1,d2⟩:=jI (L:=l) (by omega) hs
 obtain ⟨l1,l2⟩:=nH l (by omega)
 obtain ⟨v1,T1,dn1,a1,b1,v2,_⟩:=j6 hs (by omega) (T:= []) (dn:=0) (.inl rfl) j.2.2.2.2 ((j.1,j.2.1,j.2.2.1,j.2.2.2.1),p,n) (fun h=>by have:=ER hf (p,n) h;dsimp only;omega) 0 0
 obtain ⟨w1,T2,dn2,a2,b2,w2,_⟩:=j6 LU (by decide) (T:= []) (dn:=0) (.inl rfl) j.2.2.2.2 ((j.1,j.2.1,j.2.2.1,j.2.2.2.1),p,n) (fun h=>by have:=ER hf (p,n) h;dsimp only;omega) 0 0
 have eo:oa j.2.2.2.2 ((j.1,j.2.1,j.2.2.1,j.2.2.2.1),p,n)=(j,p,n):=rfl
 rw [eo] at v2 w2
 rw [d2]
 try dsimp only
 rw [l2,v2,w2,s2]
 try dsimp only
 by_cases hc:bX (j,p,n)=0
 rotate_left
 ·have bne:((bX (j,p,n)) !=0)=true:=by simpa using hc
  rw [if_neg hc,if_neg hc,if_neg hc]
  dsimp only
  rw [if_pos bne]
  refine ⟨fun _=>⟨fun q=>absurd q De,fun _=>⟨d1,fun q=>absurd q (by decide),fun _=>⟨l1,c1,fun q=>absurd q (by decide),fun _=>⟨k1,v1,w1,s1,fun _=>g1,fun q=>absurd bne q⟩⟩⟩⟩,?_⟩
  simp
 obtain ⟨h1,h2,h3,h4⟩:=iy hc
 dsimp only at h1 h2 h3 h4
 have Ny:A4 (gg (j,p,n)):=Um hc
 have hS:0<=j.1/\ j.1<=24:=⟨h1.1.1,by have:=ER hf (p,n) hc;omega⟩
 rw [if_pos hc,if_pos hc,if_pos hc]
 try dsimp only
 have hle:=AN (L:= []) (M:=l) (fun a b q=>absurd q (Lv a b)) (Lt:=j.2.2.2.2) (len:=j.2.1) (b1:=j.2.2.1) (b2:=j.2.2.1) hS.1 h1.2.2.2.1.1 (Int.le_refl j.2.2.2.1) (gg (j,p,n)) n
 have aiy:=aa7 (Lt:=j.2.2.2.2) (len:=j.2.1) (b1:=j.2.2.1) (jg:=j.2.2.2.1) hS (gg (j,p,n)) n
 have hb:0<=q9 l j.2.2.2.2 ((j.1,j.2.1,j.2.2.1,j.2.2.2.1),gg (j,p,n),n):=(aaW _).1
 have dI:q9 [] j.2.2.2.2 ((j.1,j.2.1,j.2.2.1,j.2.2.2.1),gg (j,p,n),n)<=255:=(aaW _).2
 have key:=RM (l,j,p,n) (Lt:=j.2.2.2.2) (st:=gg (j,p,n)) (n:=n) rfl rfl (by have:=h1.2.2.2.2.1;omega) h1.2.2.2.2.2 Ny h3 h4 (q9 l j.2.2.2.2 ((j.1,j.2.1,j.2.2.1,j.2.2.2.1),gg (j,p,n),n)) (q9 [] j.2.2.2.2 ((j.1,j.2.1,j.2.2.1,j.2.2.2.1),gg (j,p,n),n)) 0 0 j.2.2.2.1
 obtain ⟨q1,q2⟩:=FA ([j.2.2.2.1]++j.2.2.2.2.map fun l=>RZ l (gg (j,p,n)) n) (by
  have:=h1.2.2.2.2.1
  rw [List.length_append,List.length_map];simp;omega)
 rw [key.2]
 refine ⟨fun _=>⟨fun q=>absurd q De,fun _=>⟨d1,fun q=>absurd q (by decide),fun _=>⟨l1,c1,fun q=>absurd q (by decide),fun _=>⟨k1,v1,w1,s1,fun q=>absurd q (by decide),fun _=>⟨key.1,g1,fun _ _ _ _ _=>q1⟩⟩⟩⟩⟩,?_⟩
 simp only [Bool.false_eq_true,if_false,bne_self_eq_false,Sum.elim_inr,if_true,beq_self_eq_true,q2,ge_iff_le,hb,hle,aiy]
 rw [aiy] at dI hle
 rw [if_pos hle]
 exact decide_eq_true dI
end Go.Proofs.YtngdehlpoomaiaaGreat
