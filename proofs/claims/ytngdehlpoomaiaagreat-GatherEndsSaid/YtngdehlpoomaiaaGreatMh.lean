/- Plain law: GatherEnds. -/
import Derived.Test.YtngdehlpoomaiaaGreatMg
import Derived.Test.YtngdehlpoomaiaaGreatLn
noncomputable section
set_option linter.unusedSectionVars false
set_option linter.unusedVariables false
set_option linter.unusedSimpArgs false
namespace Go.Proofs.YtngdehlpoomaiaaGreat
open Go Go.Ev Go.Proofs
abbrev ahF:Type:=Jb×(P3×P3×Int)
theorem aeZ {a b:P3} (h:a=b):(!((a.1==b.1)&&((a.2.1==b.2.1)&&((a.2.2==b.2.2)&&true))))=false:=by
 subst h;simp
theorem UG (p w:P3):rz p w 0=p:=by
 unfold rz
 simp
theorem XN {p w:P3} {k:Int} (hw:Fr4 w) (hk:0<=k/\ k<=2048):(-(4*k)<=(rz p w k).1- p.1/\ (rz p w k).1- p.1<=4*k)/\ (-(4*k)<=(rz p w k).2.1- p.2.1/\ (rz p w k).2.1- p.2.1<=4*k)/\ (-(4*k)<=(rz p w k).2.2- p.2.2/\ (rz p w k).2.2- p.2.2<=4*k):=by
 have f: ∀w:Int,(-4096<=w/\ w<=4096)-> -(4*k)<=w*k / 1024/\ w*k / 1024<=4*k:=fun w hw=>by
  have h1:=Int.mul_le_mul_of_nonneg_right hw.2 hk.1
  have h2:=Int.mul_le_mul_of_nonneg_right hw.1 hk.1
  omega
 have a:=f _ hw.1
 have b:=f _ hw.2.1
 have c:=f _ hw.2.2
 unfold rz
 dsimp only
 omega
theorem alC {a b c m:Int} (h:a<=m/\ b<=m/\ c<=m): ¬aT (aT a b) c>m:=by unfold aT;split<;>split<;>omega
theorem alD {a b c m:Int} (h:m<=a/\ m<=b/\ m<=c): ¬aY (aY a b) c<m:=by unfold aY;split<;>split<;>omega
theorem U8 (x:ahF) {st n:P3} {S few len:Int} (hS:0<=S/\ S<=24) (hf:0<=few/\ few<=S) (hl:0<=len/\ len<=2048) (hx1:x.1.2.1=len) (hx2:x.2.2.2=few) (hn:Nr n) (h0:n≠(0,0,0)) (hst:A4 st):
  TR (cx x) (iH x) (eu S st n len,st.1,st.2.1,st.2.2,eu few st n len,0) fun r=>r= .inr ():=by
 have hL:=qF hS st n len
 have hK:=qF (k:=few) ⟨hf.1,by omega⟩ st n len
 refine eS (eu S st n len).length (fun i s=>s=(eu S st n len,st.1,st.2.1,st.2.2,eu few st n len,(i:Int))) _ (fun i s hi hJ=> ?_) (fun s hJ=> ?_) rfl
 ·subst hJ
  obtain ⟨d,hd,he⟩:=M8 (jr hi z3)
  obtain ⟨_,_,hw⟩:=xK hn h0 hd
  have Ny:=XN (p:=st) hw hl
  have hzero:len=0->(eu S st n len).getD i z3=st:=fun h=>by rw [he,h,UG]
  rw [<- he] at Ny
  have hsame:(i:Int)<few->(eu S st n len).getD i z3=(eu few st n len).getD i z3:=fun h=>by
   unfold eu
   rw [List.getD_eq_getElem?_getD,List.getD_eq_getElem?_getD,List.getElem?_map,List.getElem?_map,List.getElem?_take_of_lt (by omega),List.getElem?_take_of_lt (by omega)]
  obtain ⟨s1,s2,s3⟩:=hst
  generalize hE:(eu S st n len).getD i z3=e at*
  generalize hE2:(eu few st n len).getD i z3=e2 at*
  have hE':List.getD (eu S st n len) i ((0:Int),(0:Int),(0:Int))=e:=hE
  have aku:List.getD (eu few st n len) i ((0:Int),(0:Int),(0:Int))=e2:=hE2
  have w1:au (e.1- st.1)=e.1- st.1:=aC (by omega) (by omega)
  have w2:au (e.2.1- st.2.1)=e.2.1- st.2.1:=aC (by omega) (by omega)
  have w3:au (e.2.2- st.2.2)=e.2.2- st.2.2:=aC (by omega) (by omega)
  have w4:au (4*len)=4*len:=aC (by omega) (by omega)
  have w5:au (0- 4*len)= -(4*len):=by rw [aC (by omega) (by omega)];omega
  have w6:au ((i:Int)+1)=((i+1:Nat):Int):=by rw [aC (by omega) (by omega)];rfl
  have m1: ¬aT (aT (e.1- st.1) (e.2.1- st.2.1)) (e.2.2- st.2.2)>4*len:=alC ⟨by omega,by omega,by omega⟩
  have m2: ¬aY (aY (e.1- st.1) (e.2.1- st.2.1)) (e.2.2- st.2.2)< -(4*len):=alD ⟨by omega,by omega,by omega⟩
  have hs0:len=0->(!((e.1==st.1)&&((e.2.1==st.2.1)&&((e.2.2==st.2.2)&&true))))=false:=fun h=>aeZ (hzero h)
  have hs1:(i:Int)<few->(!((e.1==e2.1)&&((e.2.1==e2.2.1)&&((e.2.2==e2.2.2)&&true))))=false:=fun h=>aeZ (hsame h)
  have Qa:(i:Int)<(((eu S st n len).length:Nat):Int):=by omega
  unfold iH cx
  dsimp only
  simp only [Int.toNat_natCast,hE',aku,hx1,hx2,w1,w2,w3,w4,w5,w6]
  rw [if_pos Qa]
  refine ⟨fun _=>⟨fun hif=>⟨⟨by omega,Qa⟩,hi,hi,⟨by omega,by omega⟩,by omega,by omega,fun _=>⟨fun _=>⟨⟨by omega,Qa⟩,hi,hi,fun _=>⟨⟨by omega,Qa⟩,hi,hi,hi,⟨by omega,Qa⟩,hi,hi,hi,⟨by omega,Qa⟩,hi,hi,hi⟩⟩,fun _=>⟨⟨by omega,Qa⟩,hi,hi,hi,⟨by omega,Qa⟩,hi,hi,hi,⟨by omega,Qa⟩,hi,hi,hi⟩⟩⟩,fun _=>⟨fun _=>⟨⟨by omega,Qa⟩,hi,hi,fun _=>⟨⟨by omega,Qa⟩,hi,hi,hi,⟨by omega,Qa⟩,hi,hi,hi,⟨by omega,Qa⟩,hi,hi,hi⟩⟩,fun _=>⟨⟨by omega,Qa⟩,hi,hi,hi,⟨by omega,Qa⟩,hi,hi,hi,⟨by omega,Qa⟩,hi,hi,hi⟩⟩⟩,.inl ⟨_,?_,rfl⟩⟩
  by_cases h1:(i:Int)<few
  ·rw [if_pos h1,hs1 h1,if_neg (by decide)]
   by_cases h2:len=0
   ·rw [if_pos (beq_iff_eq.2 h2),hs0 h2,if_neg (by decide),if_neg m1,if_neg m2]
   ·rw [if_neg (fun h=>h2 (beq_iff_eq.1 h)),if_neg m1,if_neg m2]
  ·rw [if_neg h1]
   by_cases h2:len=0
   ·rw [if_pos (beq_iff_eq.2 h2),hs0 h2,if_neg (by decide),if_neg m1,if_neg m2]
   ·rw [if_neg (fun h=>h2 (beq_iff_eq.1 h)),if_neg m1,if_neg m2]
 ·subst hJ
  refine ⟨?_,_,?_,rfl⟩
  ·unfold iH
   intro q
   dsimp only at q;omega
  ·unfold cx
   dsimp only
   rw [if_neg (by omega)]
theorem Cr (x:ahF):uy x/\ LL x=true:=by
 obtain ⟨j,p,n,few⟩:=x
 obtain ⟨g1,g2⟩:=rP false
 obtain ⟨s1,s2⟩:=sJ (j,p,n)
 have bad:bX (j,p,n)≠0->jJ (j,p,n)/\ sP (j,p,n)=([],bX (j,p,n)):=fun h=>by
  obtain ⟨e1,e2⟩:=Bf (x:=(j,p,n)) (fun q=>absurd q h)
  rw [if_neg h] at e2
  exact ⟨e1,e2⟩
 have bne: ∀c:Int,c≠0->(c !=0)=true:=fun c h=>by simpa using h
 unfold uy LL aB aj
 dsimp only
 rw [s2,g2]
 by_cases Mq:j.1>24
 ·rw [if_pos Mq]
  by_cases h64:j.1<=64
  ·rw [if_pos h64]
   exact ⟨⟨fun _=>⟨fun _=>g1,fun q=>absurd h64 q⟩,fun q=>absurd Mq q⟩,rfl⟩
  rw [if_neg h64]
  have hc:bX (j,p,n)≠0:=fun h=>by
   have:=(iy h).1.1
   dsimp only at this
   omega
  obtain ⟨e1,e2⟩:=bad hc
  rw [e2]
  dsimp only
  by_cases f1:few<0
  ·rw [if_pos f1]
   exact ⟨⟨fun _=>⟨fun q=>absurd q h64,fun _=>⟨fun _=>g1,fun q=>absurd f1 q⟩⟩,fun q=>absurd Mq q⟩,rfl⟩
  rw [if_neg f1]
  by_cases f2:few>j.1
  ·rw [if_pos f2]
   exact ⟨⟨fun _=>⟨fun q=>absurd q h64,fun _=>⟨fun q=>absurd q f1,fun _=>⟨fun _=>g1,fun q=>absurd f2 q⟩⟩⟩,fun q=>absurd Mq q⟩,rfl⟩
  rw [if_neg f2,if_pos (bne _ hc),if_neg hc]
  refine ⟨⟨fun _=>⟨fun q=>absurd q h64,fun _=>⟨fun q=>absurd q f1,fun _=>⟨fun q=>absurd q f2,fun _=>⟨e1,s1,fun _=>g1,fun q=>absurd (bne _ hc) q⟩⟩⟩⟩,fun q=>absurd Mq q⟩,?_⟩
  simp
 rw [if_neg Mq]
 by_cases f1:few<0
 ·rw [if_pos f1]
  exact ⟨⟨fun q=>absurd q Mq,fun _=>⟨fun _=>g1,fun q=>absurd f1 q⟩⟩,rfl⟩
 rw [if_neg f1]
 by_cases f2:few>j.1
 ·rw [if_pos f2]
  exact ⟨⟨fun q=>absurd q Mq,fun _=>⟨fun q=>absurd q f1,fun _=>⟨fun _=>g1,fun q=>absurd f2 q⟩⟩⟩,rfl⟩
 rw [if_neg f2]
 by_cases hc:bX (j,p,n)=0
 rotate_left
 ·obtain ⟨e1,e2⟩:=bad hc
  rw [e2]
  dsimp only
  rw [if_pos (bne _ hc),if_neg hc]
  refine ⟨⟨fun q=>absurd q Mq,fun _=>⟨fun q=>absurd q f1,fun _=>⟨fun q=>absurd q f2,fun _=>⟨e1,s1,fun _=>g1,fun q=>absurd (bne _ hc) q⟩⟩⟩⟩,?_⟩
  simp
 obtain ⟨h1,h2,h3,h4⟩:=iy hc
 have Lp:bX ((few,j.2),p,n)=0:=by
  unfold bX at hc ⊢
  have ok:Ux (few,j.2):=⟨⟨by dsimp only;omega,by dsimp only;have:=h1.1;omega⟩,h1.2⟩
  rw [if_neg (fun h=>h ok)]
  rw [if_neg (fun h=>h h1)] at hc
  exact hc
 obtain ⟨e1,e2⟩:=Bf (x:=(j,p,n)) (fun _=>by dsimp only;omega)
 obtain ⟨k1,k2⟩:=Bf (x:=((few,j.2),p,n)) (fun _=>by dsimp only;omega)
 rw [if_pos hc] at e2
 rw [if_pos Lp] at k2
 have hst:gg ((few,j.2),p,n)=gg (j,p,n):=rfl
 rw [hst] at k2
 have Ny:A4 (gg (j,p,n)):=Um hc
 have hS:0<=j.1/\ j.1<=24:=⟨h1.1.1,by omega⟩
 have key:=U8 (j,p,n,few) (st:=gg (j,p,n)) (n:=n) (S:=j.1) (few:=few) (len:=j.2.1) hS ⟨by omega,by omega⟩ h1.2.1 rfl rfl h3 h4 Ny
 have l1:=qF hS (gg (j,p,n)) n j.2.1
 have l2:=qF (k:=few) ⟨by omega,by omega⟩ (gg (j,p,n)) n j.2.1
 rw [e2,k2,if_pos hc]
 dsimp only
 have q1: ¬(((((eu j.1 (gg (j,p,n)) n j.2.1).length:Nat):Int) !=j.1)=true):=by rw [l1];simp
 have q2: ¬(((((eu few (gg (j,p,n)) n j.2.1).length:Nat):Int) !=few)=true):=by rw [l2];simp
 rw [if_neg (by decide),if_neg q1,if_neg q2,key.2]
 exact ⟨⟨fun q=>absurd q Mq,fun _=>⟨fun q=>absurd q f1,fun _=>⟨fun q=>absurd q f2,fun _=>⟨e1,s1,fun q=>absurd q (by decide),fun _=>⟨k1,fun _ _ _ _=>⟨key.1,g1⟩⟩⟩⟩⟩⟩,rfl⟩
end Go.Proofs.YtngdehlpoomaiaaGreat
