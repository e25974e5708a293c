/- Plain laws: the document's rows of layer 18. -/
import Derived.Test.YtbjfokijjefoeaaGreatBe
import Derived.Test.YtbjfokijjefoeaaGreatHl
import Derived.Test.YtbjfokijjefoeaaGreatHc
import Derived.Test.YtbjfokijjefoeaaGreatHp
noncomputable section
set_option linter.unusedSectionVars false
set_option linter.unusedVariables false
set_option linter.unusedSimpArgs false
namespace Go.Proofs.YtbjfokijjefoeaaGreat
open Go Go.Ev Go.Proofs
theorem qi (a b:List Int) (hl:a.length<4611686018427387904):cU (a,b)/\ (dG (a,b)=true↔a=b):=by
 unfold cU dG
 dsimp only [aA,ai]
 by_cases h:a.length=b.length
 ·have hn: ¬((((a.length:Nat):Int) !=((b.length:Nat):Int))=true):=by simp [h]
  obtain ⟨h1,h2⟩:=dr (step:=lZ (a,b)) (pre:=rO (a,b)) (fun s=> ∃i:Nat,s=(i:Int)/\ i<=a.length/\ a.take i=b.take i) (fun s=>a.length- s.toNat)
   (fun r=>(r= .inl ()/\ a≠b)\/ (r= .inr ()/\ a=b)) (fun s ⟨i,e,hi,hf⟩=>by
    subst e
    unfold lZ rO
    dsimp only
    simp only [Int.toNat_natCast]
    refine ⟨fun q=>⟨by omega,by omega,by omega,by omega,by omega,by omega⟩,fun s' q=> ?_,fun r q=> ?_⟩
    ·split at q
     ·rename_i hlt
      have hlt:i<a.length:=by omega
      split at q
      ·cases q
      ·rename_i hne
       cases q
       refine ⟨⟨i+1,cnt hlt (by omega),hlt,?_⟩,?_⟩
       ·rw [List.take_succ_eq_append_getElem hlt,List.take_succ_eq_append_getElem (show i<b.length by omega),hf]
        congr 2
        simpa [List.getD_eq_getElem?_getD,List.getElem?_eq_getElem hlt,List.getElem?_eq_getElem (show i<b.length by omega)] using hne
       ·rw [cnt hlt (by omega)]
        simp only [Int.toNat_natCast];omega
     ·cases q
    ·split at q
     ·split at q
      ·rename_i hne
       cases q
       refine .inl ⟨rfl,fun e=> ?_⟩
       rw [e] at hne;simp at hne
      ·cases q
     ·cases q
      have:i=a.length:=by omega
      subst this
      rw [List.take_length,h,List.take_length] at hf
      exact .inr ⟨rfl,hf⟩) 0 ⟨0,rfl,Nat.zero_le _,rfl⟩
  refine ⟨fun _=>h1,?_⟩
  rw [if_neg hn]
  rcases h2 with ⟨e,q⟩|⟨e,q⟩
  ·rw [e];exact ⟨fun z=>(by cases z),fun z=>absurd z q⟩
  ·rw [e];exact ⟨fun _=>q,fun _=>rfl⟩
 ·have hn:(((a.length:Nat):Int) !=((b.length:Nat):Int))=true:=by simp;omega
  refine ⟨fun q=>absurd hn q,?_⟩
  rw [if_pos hn]
  exact ⟨fun q=>(by cases q),fun q=>absurd (by rw [q]) h⟩
theorem XX {l:List T2} {lo hi:P2} (hl:l.length<4611686018427387904) (h0:l≠ []) (hs: ∀p∈pts l,Sm p) (hB:FW (pts l) lo hi):gG l=(lo,hi,0):=by
 rcases (vH l hl).2 with ⟨h,_⟩|⟨⟨p,hp,hn⟩,_⟩|⟨_,_,lo',hi',hB',e⟩
 ·exact absurd h h0
 ·exact absurd (hs p hp) hn
 ·obtain ⟨rfl,rfl⟩:=hB.uniq hB';exact e
theorem Pb (t:T2):CS [t]=true:=(zk [t] (by simp)).2.2 fun i k h1 h2=>by simp at h1;omega
abbrev t1:T2:=((0,0),(31,0),0,15)
abbrev t2:T2:=((0,0),(47,0),0,47)
abbrev d1:JW:=([4],[t1],2,1)
abbrev d2:JW:=([2],[t2],3,3)
theorem afk:zK (4,2,1)=d1:=by kernel_rfl
theorem afl:zK (2,3,3)=d2:=by kernel_rfl
theorem aeM:gG [t1]=(z2,(31,15),0):=
 XX (by simp) (by simp) (by decide) ⟨by decide,by decide,⟨(0,0),by decide,rfl⟩,⟨(0,0),by decide,rfl⟩,⟨(31,0),by decide,rfl⟩,⟨(0,15),by decide,rfl⟩⟩
theorem aeN:gG [t2]=(z2,(47,47),0):=
 XX (by simp) (by simp) (by decide) ⟨by decide,by decide,⟨(0,0),by decide,rfl⟩,⟨(0,0),by decide,rfl⟩,⟨(47,0),by decide,rfl⟩,⟨(0,47),by decide,rfl⟩⟩
theorem X8:dO d1:=by
 refine ⟨by simp,by simp,by decide,?_,?_,?_,?_,Pb t1⟩<;>dsimp only<;>rw [aeM]<;>first|rfl|decide
theorem X9:dO d2:=by
 refine ⟨by simp,by simp,by decide,?_,?_,?_,?_,Pb t2⟩<;>dsimp only<;>rw [aeN]<;>first|rfl|decide
abbrev l0:oU:= [d1,d2]
theorem G2:JX l0:=⟨fun p hp=>by
 simp only [List.mem_cons,List.not_mem_nil,or_false] at hp
 rcases hp with rfl|rfl
 ·exact X8
 ·exact X9,by decide⟩
theorem G1:Ord l0= [1,0]:=by
 have hlen:=eI l0
 have hmem:=FE l0
 have zq:=C9 l0
 have hs:=Hq l0
 generalize Ord l0=o at hlen hmem zq hs
 match o,hlen with
 | [a,b],_=>
  have h0:=(hmem a).1 (by simp)
  have h1:=(hmem b).1 (by simp)
  simp only [List.length_cons,List.length_nil] at h0 h1
  have hne:a≠b:=by simpa using zq
  have GG:(a=0/\ b=1)\/ (a=1/\ b=0):=by omega
  rcases GG with ⟨rfl,rfl⟩|⟨rfl,rfl⟩
  ·have hs:C1 l0 1 0=false:=by simpa using hs
   rw [yB] at hs
   exact absurd (.inl (by decide)) hs
  ·rfl
theorem RU:ov l0 1= [(5,5),(4,3)]:=by
 unfold ov
 rw [G1];rfl
theorem YD {s:List Int} {w x:Nat} {c:Int} (hs:TH s) (hw:0<w) (h:x+w<=s.length) (hc:nQ (List.take w (List.drop x s)) c):hi s w x=c:=(GK hs hw h).2.uniq hc
theorem Oy {w:Nat} {h:Int} {s:List Int} (hs:FZ w h s) (hw:w<=256) (hh:h<=256) {p:Int×Int} (hp:kF p.1/\ kF p.2) {c:Int} (h0:p.1<=w) (hc:hi s p.1.toNat 0=c) (hch:c+p.2<=h) (hx: ∀x:Nat,(x:Int)+p.1<=w->c<=hi s p.1.toNat x):fk s p h=(0,c,true):=by
 obtain ⟨_,g2,g3⟩:=Az hs hw hh hp
 cases hf:(fk s p h).2.2 with
 |false=>
  have:=(g3 hf).2.2 0 (by omega)
  omega
 |true=>
  have hF:=g2 hf
  have a0:=hF.a0
  have l1:=hF.least 0 (by omega) (by omega)
  have l2:=hx (fk s p h).1.toNat (by have:=hF.aw;omega)
  have l3:=hF.eq
  have e1:(fk s p h).2.1=c:=by omega
  have e2:(fk s p h).1=0:=by
   rcases Nat.eq_zero_or_pos (fk s p h).1.toNat with z|z
   ·omega
   ·have:=l1.2 z;omega
  exact Prod.ext e2 (Prod.ext e1 hf)
instance (l:List Int) (m:Int):Decidable (nQ l m):=by unfold nQ;infer_instance
instance (s:List Int):Decidable (TH s):=by unfold TH;infer_instance
abbrev s1:List Int:= [5,5,5,5,5,0,0,0]
theorem abH:fk (List.replicate 8 0) (5,5) 8=(0,0,true):=by
 have hS:TH (List.replicate 8 0):=by decide
 refine Oy (w:=8) ⟨rfl,by decide⟩ (by decide) (by decide) (by unfold kF;decide) (by decide) (YD hS (by decide) (by decide) (by decide)) (by decide) fun x hx=> ?_
 exact (TS hS (by decide) (by simp;omega)).1
theorem abI:fk s1 (4,3) 8=(0,5,true):=by
 have hS:TH s1:=by decide
 refine Oy (w:=8) ⟨rfl,by decide⟩ (by decide) (by decide) (by unfold kF;decide) (by decide) (YD hS (by decide) (by decide) (by decide)) (by decide) fun x hx=> ?_
 have hx5:x<5:=by have:(x:Int)+4<=8:=hx;omega
 have hall: ∀x,x<5->hi s1 4 x=5:=by
  intro x hx
  have hm: ∀x,x<5->nQ (List.take 4 (List.drop x s1)) 5:=by decide
  exact YD hS (by decide) (by simp;omega) (hm x hx)
 rw [show ((4,3):Int×Int).1.toNat=4 from rfl,hall x hx5]
 decide
theorem T1:fC 8 (List.replicate 8 0) [(5,5),(4,3)]=some [(0,0,5,5),(0,5,4,3)]:=by
 rw [fC,abH,if_pos rfl,fC]
 have e:jW (List.replicate 8 0) ((0:Int),(0:Int),true).1.toNat ((5,5):Int×Int).1.toNat (((0:Int),(0:Int),true).2.1+((5,5):Int×Int).2)=s1:=by kernel_rfl
 rw [e,abI,if_pos rfl,fC]
theorem abJ:fC 8 (List.replicate 4 0) [(5,5),(4,3)]=none:=by
 rw [fC]
 obtain ⟨_,g2,g3⟩:=Az (w:=4) (h:=8) (s:=List.replicate 4 0) (p:=(5,5)) ⟨rfl,by decide⟩ (by decide) (by decide) (by unfold kF;decide)
 cases hf:(fk (List.replicate 4 0) (5,5) 8).2.2 with
 |false=>rw [if_neg (by decide)]
 |true=>
  have hF:=g2 hf
  have a0:=hF.a0
  have aw:_+(5:Int)<=((4:Nat):Int):=hF.aw
  omega
abbrev r0:List vf:= [(0,5,4,3),(0,0,5,5)]
abbrev a0:FV:=(8,8,1,l0,r0)
theorem Y6:fq (8,8,1,l0)/\ jH (8,8,1,l0)=(a0,0):=by
 obtain ⟨h1,h2⟩:=w9 8 8 1 l0 (by decide)
 refine ⟨h1,?_⟩
 rcases h2 with ⟨h,_⟩|⟨_,_,h,_⟩|⟨_,_,_,q,R,hq,hP,e⟩
 ·exact absurd ⟨by unfold U8 kF;decide,G2⟩ h
 ·rw [RU] at h
  have:=h (by unfold Fits;decide)
  rw [show List.replicate (8:Int).toNat (0:Int)=List.replicate 8 0 from rfl,T1] at this
  cases this
 ·rw [RU,show List.replicate (8:Int).toNat (0:Int)=List.replicate 8 0 from rfl,T1] at hq
  cases hq
  rw [e]
  obtain ⟨p1,p2⟩:=hP
  have q0:=p2 0 (by decide)
  have q1:=p2 1 (by decide)
  rw [G1] at q0 q1
  match R,p1 with
  | [x,y],_=>
   have e0:y=(0,0,5,5):=q0
   have e1:x=(0,5,4,3):=q1
   rw [e0,e1]
theorem V3:fq (4,8,1,l0)/\ (jH (4,8,1,l0)).2=9:=by
 obtain ⟨h1,h2⟩:=w9 4 8 1 l0 (by decide)
 refine ⟨h1,?_⟩
 rcases h2 with ⟨h,_⟩|⟨_,_,_,e⟩|⟨_,_,_,q,R,hq,hP,e⟩
 ·exact absurd ⟨by unfold U8 kF;decide,G2⟩ h
 ·rw [e]
 ·rw [RU,show List.replicate (4:Int).toNat (0:Int)=List.replicate 4 0 from rfl,abJ] at hq
  cases hq
theorem V2:fq (8,8,0,l0)/\ (jH (8,8,0,l0)).2=1:=by
 obtain ⟨h1,h2⟩:=w9 8 8 0 l0 (by decide)
 refine ⟨h1,?_⟩
 rcases h2 with ⟨_,e⟩|⟨h,_⟩|⟨h,_⟩
 ·rw [e]
 ·exact absurd h (by unfold U8 kF;decide)
 ·exact absurd h (by unfold U8 kF;decide)
theorem XO:pT a0:=by
 refine ⟨by unfold U8 kF;decide,rfl,G2,by decide,fun i hi=> ?_⟩
 have:i=0\/ i=1:=by have:i<2:=hi;omega
 rcases this with rfl|rfl
 ·exact ⟨by unfold Mn;decide,fun k hk=>absurd hk (Nat.not_lt_zero _)⟩
 ·refine ⟨by unfold Mn;decide,fun k hk=> ?_⟩
  have:k=0:=by omega
  subst this
  unfold JV;decide
theorem adu:jw a0/\ GY a0=true:=⟨(MU a0 (by decide) (by decide)).1,(MU a0 (by decide) (by decide)).2.2 XO⟩
abbrev T0:List T2:= [((16,96),(47,96),16,111),((16,16),(63,16),16,63)]
theorem aff:r9 l0 r0 1 2=T0:=by kernel_rfl
theorem adt:pU a0/\ allM a0=(T0,[0,1],0):=by
 obtain ⟨h1,h2⟩:=Fk a0 (by decide) (by decide)
 refine ⟨h1,?_⟩
 rcases h2 with ⟨h,_⟩|⟨_,e⟩
 ·exact absurd XO h
 ·rw [e]
  show (r9 l0 r0 1 2,CI l0 2,(0:Int))=_
  rw [aff];rfl
theorem aaZ:pN (a0,4)/\ vL (a0,4)=(((16,96),(47,96),16,111),true):=by
 obtain ⟨h1,h2⟩:=Ou a0 4 (by decide) (by decide)
 refine ⟨h1,?_⟩
 rcases h2 with ⟨h,_⟩|⟨_,⟨k,k1,k2,e⟩|⟨k1,_⟩⟩
 ·exact absurd XO h
 ·rw [e]
  show ((r9 l0 r0 1 2).getD k zT,true)=_
  rw [aff]
  have k1:k<2:=k1
  have:k=0\/ k=1:=by omega
  rcases this with rfl|rfl
  ·rfl
  ·exact absurd k2 (by decide)
 ·exact absurd (by decide) k1
end Go.Proofs.YtbjfokijjefoeaaGreat
namespace Go.Proofs.YtbjfokijjefoeaaGreat
open Go Go.Ev Go.Proofs
theorem WW (l:List Int) (hl:l.length<1099511627776):xR l/\ Uq l=l:=⟨by unfold xR;omega,rfl⟩
theorem Np (x:JW) (b:P2) (hl:x.2.1.length<1000000):Term (eT (x,b)) (lO (x,b)) ([],0)/\ run (eT (x,b)) ([],0)=x.2.1.map (JU fun p=>nY (p,b)):=by
 refine dr (step:=eT (x,b)) (pre:=lO (x,b)) (fun s=> ∃i:Nat,s=((x.2.1.take i).map (JU fun p=>nY (p,b)),(i:Int))/\ i<=x.2.1.length)
  (fun s=>x.2.1.length- s.2.toNat) (fun r=>r=x.2.1.map (JU fun p=>nY (p,b))) (fun s hs=> ?_) _ ⟨0,rfl,Nat.zero_le _⟩
 obtain ⟨i,rfl,hi'⟩:=hs
 unfold eT lO
 dsimp only
 simp only [Int.toNat_natCast,List.length_map,List.length_take]
 refine ⟨fun q=>by omega,?_⟩
 by_cases hlt:i<x.2.1.length
 ·have hg:x.2.1.getD i zT=x.2.1[i]:=by rw [List.getD_eq_getElem?_getD,List.getElem?_eq_getElem hlt];rfl
  rw [if_pos (by omega),cnt hlt (by omega)]
  refine ⟨fun s' q=> ?_,fun r q=>(by cases q)⟩
  cases q
  refine ⟨⟨i+1,?_,hlt⟩,by simp only [Int.toNat_natCast];omega⟩
  rw [List.take_succ_eq_append_getElem hlt,List.map_append,<- hg]
  rfl
 ·rw [if_neg (by omega)]
  refine ⟨fun s' q=>(by cases q),fun r q=> ?_⟩
  cases q
  have:i=x.2.1.length:=by omega
  subst this
  rw [List.take_length]
theorem Ps (x:JW) (b:P2) (hl:x.2.1.length<1000000):qP (x,b)/\ xF (x,b)=Ay (x,b):=by
 have hI:=K9 x
 have hL:=Np x b hl
 have hM:=(CW x b).2
 unfold qP xF
 dsimp only [aA,ai]
 refine ⟨⟨hI.1,fun _ _ _ _ _=>hL.1⟩,?_⟩
 rw [hI.2,hL.2]
 rcases hM with ⟨h,e⟩|⟨h,hb,e⟩|⟨h,hb,e⟩
 ·have:QM x=false:=by rw [Bool.eq_false_iff];exact fun q=>h ((nr x).2.1 q)
  rw [e,this];rfl
 ·rw [e,(nr x).2.2 h,if_neg (by decide)]
  split
  ·rfl
  ·split
   ·rfl
   ·split
    ·rfl
    ·split
     ·rfl
     ·exact absurd (by omega) hb
 ·rw [e,(nr x).2.2 h,if_neg (by decide),if_neg (by omega),if_neg (by omega),if_neg (by omega),if_neg (by omega)]
theorem agX (a b:T2):((((a.1.1==b.1.1)&&((a.1.2==b.1.2)&&true))&&(((a.2.1.1==b.2.1.1)&&((a.2.1.2==b.2.1.2)&&true))&&(((a.2.2.1==b.2.2.1)&&((a.2.2.2==b.2.2.2)&&true))&&true)))=true)↔a=b:=by
 obtain ⟨⟨a1,a2⟩,⟨a3,a4⟩,a5,a6⟩:=a
 obtain ⟨⟨b1,b2⟩,⟨b3,b4⟩,b5,b6⟩:=b
 simp only [Bool.and_true,Bool.and_eq_true,beq_iff_eq,Prod.mk.injEq]
theorem BI (a:List T2) (hl:a.length<4611686018427387904):hY (a,a)/\ kO (a,a)=true:=by
 unfold hY kO
 dsimp only [aA,ai]
 have hn: ¬((((a.length:Nat):Int) !=((a.length:Nat):Int))=true):=by simp
 have hh:=pW a hl (fun _=>false) (dN (a,a)) (kD (a,a)) (fun i hi=>by
   unfold kD
   dsimp only
   intro q
   simp only [Int.toNat_natCast];omega) (fun i t ht=>by
   have hlt:=cD ht
   unfold dN
   dsimp only
   rw [if_pos (by omega),Int.toNat_natCast,iM ht,if_neg (by rw [(agX t t).2 rfl];decide),if_neg (by decide)]) (by
   unfold dN
   dsimp only
   rw [if_neg (by omega)])
 refine ⟨fun _=>hh.1,?_⟩
 rw [if_neg hn,hh.2]
 simp
theorem aag (x:JW) (h1:x.1.length<4611686018427387904) (h2:x.2.1.length<4611686018427387904):n8 (x,x)/\ xH (x,x)=true:=by
 have a:=qi x.1 x.1 h1
 have b:=BI x.2.1 h2
 unfold n8 xH
 dsimp only [aA,ai]
 refine ⟨fun _ _=>⟨a.1,fun _=>b.1⟩,?_⟩
 rw [if_pos (by simp),if_pos (by simp),a.2.2 rfl,if_pos rfl,b.2]
end Go.Proofs.YtbjfokijjefoeaaGreat
namespace Go.Proofs.YtbjfokijjefoeaaGreat
open Go Go.Ev Go.Proofs
theorem wD (w h pad:Int):gN (w,h,pad)=true↔U8 w h pad:=by
 unfold gN U8 kF
 dsimp only
 by_cases c1:w>=1
 ·rw [if_pos c1]
  by_cases c2:w<=256
  ·rw [if_pos c2]
   by_cases c3:h>=1
   ·rw [if_pos c3]
    by_cases c4:h<=256
    ·rw [if_pos c4]
     by_cases c5:pad>=1
     ·rw [if_pos c5,decide_eq_true_iff];omega
     ·rw [if_neg c5];exact ⟨fun q=>(by cases q),fun q=>absurd q (by omega)⟩
    ·rw [if_neg c4];exact ⟨fun q=>(by cases q),fun q=>absurd q (by omega)⟩
   ·rw [if_neg c3];exact ⟨fun q=>(by cases q),fun q=>absurd q (by omega)⟩
  ·rw [if_neg c2];exact ⟨fun q=>(by cases q),fun q=>absurd q (by omega)⟩
 ·rw [if_neg c1];exact ⟨fun q=>(by cases q),fun q=>absurd q (by omega)⟩
def Unl (t:List Int) (i:Nat):Prop:= ∀a,a<i-> ∀k,k<a->t.getD k 0≠t.getD a 0
theorem Mj (t:List Int):Unl t t.length↔t.Nodup:=by
 rw [List.nodup_iff_pairwise_ne,List.pairwise_iff_getElem]
 have hg: ∀ {k:Nat} (h:k<t.length),t.getD k 0=t[k]:=fun {k} h=>by rw [List.getD_eq_getElem?_getD,List.getElem?_eq_getElem h];rfl
 constructor
 ·intro h i j hi hj hij
  have:=h j hj i hij
  rw [hg hi,hg hj] at this;exact this
 ·intro h a ha k hk
  rw [hg ha,hg (by omega)]
  exact h k a (by omega) ha hk
theorem abW (l:oU) (t:List Int) {i:Nat} (hi:i<t.length) (ht:t.length<4611686018427387904):
  TR (ij l) (lV l) (t,(i:Int),0) fun r=>(r= .inl ()/\ ¬ ∀k,k<i->t.getD k 0≠t.getD i 0)\/ (r= .inr (t,(i:Int))/\ ∀k,k<i->t.getD k 0≠t.getD i 0):=by
 refine aZ i (fun k s=>s=(t,(i:Int),(k:Int))/\ ∀j,j<k->t.getD j 0≠t.getD i 0) _ (fun k s hk hj=> ?_) (fun s hj=> ?_) ⟨rfl,fun j hj=>absurd hj (Nat.not_lt_zero _)⟩
 ·obtain ⟨rfl,hA⟩:=hj
  refine ⟨?_,?_⟩
  ·unfold lV
   intro _
   dsimp only
   rw [Int.toNat_natCast,Int.toNat_natCast]
   exact ⟨⟨by omega,by omega⟩,hi,hi,⟨by omega,by omega⟩,by omega,by omega⟩
  ·unfold ij
   dsimp only
   rw [if_pos (by omega),Int.toNat_natCast,Int.toNat_natCast]
   by_cases c:t.getD k 0=t.getD i 0
   ·rw [if_pos (by rw [c];exact beq_self_eq_true _)]
    exact .inr ⟨_,rfl,.inl ⟨rfl,fun q=>q k hk c⟩⟩
   ·rw [if_neg (fun q=>c (eq_of_beq q).symm)]
    refine .inl ⟨_,rfl,by rw [fJ hk (by omega)],fun j hj=> ?_⟩
    rcases Nat.lt_or_ge j k with h1|h1
    ·exact hA j h1
    ·have:j=k:=by omega
     subst this;exact c
 ·obtain ⟨rfl,hA⟩:=hj
  refine ⟨?_,_,?_,.inr ⟨rfl,hA⟩⟩
  ·unfold lV
   intro q
   dsimp only at q;omega
  ·unfold ij
   dsimp only
   rw [if_neg (by omega)]
theorem Zq (l:oU) (t:List Int) (ht:t.length<4611686018427387904):
  TR (ig l) (qg l) (t,0) fun r=>(r= .inl ()/\ ¬t.Nodup)\/ (r= .inr ()/\ t.Nodup):=by
 refine aZ t.length (fun i s=>s=(t,(i:Int))/\ Unl t i) _ (fun i s hi hj=> ?_) (fun s hj=> ?_) ⟨rfl,fun a ha=>absurd ha (Nat.not_lt_zero _)⟩
 ·obtain ⟨rfl,hU⟩:=hj
  have hin:=abW l t hi ht
  refine ⟨fun _=>hin.1,?_⟩
  unfold ig ai
  dsimp only
  rw [if_pos (by omega)]
  rcases hin.2 with ⟨e,hn⟩|⟨e,hy⟩
  ·rw [e]
   exact .inr ⟨_,rfl,.inl ⟨rfl,fun q=>hn ((Mj t).2 q i hi)⟩⟩
  ·rw [e]
   refine .inl ⟨(t,((i+1:Nat):Int)),?_,rfl,fun a ha=> ?_⟩
   ·dsimp only [Sum.elim_inr];rw [fJ hi ht]
   ·rcases Nat.lt_or_ge a i with h1|h1
    ·exact hU a h1
    ·have:a=i:=by omega
     subst this;exact hy
 ·obtain ⟨rfl,hU⟩:=hj
  refine ⟨?_,_,?_,.inr ⟨rfl,(Mj t).1 hU⟩⟩
  ·unfold qg
   intro q
   dsimp only at q;omega
  ·unfold ig
   dsimp only
   rw [if_neg (by omega)]
theorem Jf {l:oU} (h: ∀p∈l,dO p):(cW l).length<=500*l.length:=by
 induction l with
 |nil=>simp [cW]
 |cons p l ih=>
  have h1:=(h p (by simp)).len
  have h2:=ih fun p hp=>h p (by simp [hp])
  have e:cW (p::l)=p.1++cW l:=rfl
  rw [e,List.length_append,List.length_cons];omega
theorem Ej (l:oU) (hl:l.length<=1000):oh l/\ (pA l=true↔JX l):=by
 have key:TR (dF l) (jm l) ([],0) fun r=>(r= .inl ()/\ ¬ ∀p∈l,dO p)\/ (r= .inr (cW l)/\ ∀p∈l,dO p):=by
  refine aZ l.length (fun i st=>st=(cW (l.take i),(i:Int))/\ ∀p∈l.take i,dO p) _ (fun i st hi hj=> ?_) (fun st hj=> ?_) ⟨rfl,fun p hp=>(by simp at hp)⟩
  ·obtain ⟨rfl,hA⟩:=hj
   have hmem:l.getD i zP∈l:=bZ hi _
   obtain ⟨q1,q2⟩:=K9 (l.getD i zP)
   obtain ⟨f1,f2⟩:=nr (l.getD i zP)
   have hts:=Jf hA
   rw [List.length_take] at hts
   cases hf:QM (l.getD i zP) with
   |false=>
    rw [hf] at q2
    have q2:Bg (l.getD i ([],[],(0:Int),(0:Int)))=false:=q2
    refine ⟨?_,.inr ⟨.inl (),?_,.inl ⟨rfl,fun q=> ?_⟩⟩⟩
    ·unfold jm aA
     intro _
     dsimp only
     rw [Int.toNat_natCast,q2]
     exact ⟨⟨by omega,by omega⟩,hi,hi,q1,fun q=>absurd rfl q⟩
    ·unfold dF ai
     dsimp only
     rw [if_pos (by omega),Int.toNat_natCast,q2,if_pos (by decide)]
    ·have:=f2.2 (q _ hmem);rw [hf] at this;cases this
   |true=>
    have hp:=f2.1 hf
    have ajx:=hp.len
    rw [hf] at q2
    have q2:Bg (l.getD i ([],[],(0:Int),(0:Int)))=true:=q2
    refine ⟨?_,.inl ⟨_,?_,rfl,fun p eo=> ?_⟩⟩
    ·unfold jm aA
     intro _
     dsimp only
     rw [Int.toNat_natCast]
     exact ⟨⟨by omega,by omega⟩,hi,hi,q1,fun _=>⟨⟨by omega,by omega⟩,hi,hi,hi,(show (cW (l.take i)).length+(l.getD i zP).1.length<1099511627776 by omega)⟩⟩
    ·unfold dF ai
     dsimp only
     rw [if_pos (by omega),Int.toNat_natCast,q2,if_neg (by decide),fJ hi (by omega),b9 hi zP,pR]
    ·rw [b9 hi zP] at eo
     rcases List.mem_append.1 eo with h|h
     ·exact hA p h
     ·simp only [List.mem_singleton] at h
      subst h;exact hp
  ·obtain ⟨rfl,hA⟩:=hj
   rw [List.take_length] at hA
   refine ⟨?_,_,?_,.inr ⟨rfl,hA⟩⟩
   ·unfold jm
    intro q
    dsimp only at q;omega
   ·unfold dF
    dsimp only
    rw [if_neg (by omega),List.take_length]
 unfold oh pA aA ai
 rcases key.2 with ⟨e,hn⟩|⟨e,hy⟩
 ·rw [e]
  exact ⟨⟨key.1,trivial⟩,fun q=>(by cases q),fun q=>absurd q.all hn⟩
 ·rw [e]
  have hts:=Jf hy
  have k2:=Zq l (cW l) (by omega)
  refine ⟨⟨key.1,k2.1⟩,?_⟩
  dsimp only [Sum.elim_inr]
  rcases k2.2 with ⟨e2,hn⟩|⟨e2,hN⟩
  ·rw [e2];exact ⟨fun q=>(by cases q),fun q=>absurd q.once hn⟩
  ·rw [e2];exact ⟨fun _=>⟨hy,hN⟩,fun _=>rfl⟩
theorem Va (l:oU) {o i:Nat} (h:o<i):qe (l.getD o zP,l.getD i zP)= !C1 l (i:Int) (o:Int):=by
 have e1:hM l (i:Int)=(l.getD i zP).2.2.2:=by unfold hM;rw [Int.toNat_natCast]
 have e2:hM l (o:Int)=(l.getD o zP).2.2.2:=by unfold hM;rw [Int.toNat_natCast]
 have e3:wM l (i:Int)=(l.getD i zP).2.2.1:=by unfold wM;rw [Int.toNat_natCast]
 have e4:wM l (o:Int)=(l.getD o zP).2.2.1:=by unfold wM;rw [Int.toNat_natCast]
 have key:qe (l.getD o zP,l.getD i zP)=true↔C1 l (i:Int) (o:Int)=false:=by
  rw [yB,e1,e2,e3,e4]
  unfold qe
  dsimp only
  split
  ·rename_i hne
   have hne:(l.getD o zP).2.2.2≠(l.getD i zP).2.2.2:=by simpa using hne
   rw [decide_eq_true_iff];omega
  ·rename_i he
   have he:(l.getD o zP).2.2.2=(l.getD i zP).2.2.2:=by simpa using he
   rw [decide_eq_true_iff];omega
 cases hb:C1 l (i:Int) (o:Int) with
 |false=>exact key.2 hb
 |true=>
  cases ha:qe (l.getD o zP,l.getD i zP) with
  |false=>rfl
  |true=>have:=key.1 ha;rw [hb] at this;cases this
def acJ (l:oU) (out:List Int) (i:Nat) (k:Nat):Prop:=k<=out.length/\ (∀j,j<k->C1 l (i:Int) (out.getD j 0)=false)/\ (k<out.length->C1 l (i:Int) (out.getD k 0)=true)
theorem YU (l:oU) (out:List Int) {i:Nat} (hi:i<l.length) (hl:l.length<=1000) (hm: ∀o∈out,0<=o/\ o<(i:Int)) (ho:out.length=i):
  TR (ek l) (kj l) (out,(i:Int),0) fun r=> ∃k:Nat,r=(out,(i:Int),(k:Int))/\ acJ l out i k:=by
 refine aZ out.length (fun k s=>s=(out,(i:Int),(k:Int))/\ ∀j,j<k->C1 l (i:Int) (out.getD j 0)=false) _ (fun k s hk hj=> ?_) (fun s hj=> ?_) ⟨rfl,fun j hj=>absurd hj (Nat.not_lt_zero _)⟩
 ·obtain ⟨rfl,hA⟩:=hj
  have hin:=hm _ (bZ hk 0)
  have ha:=Va l (o:=(out.getD k 0).toNat) (i:=i) (by omega)
  rw [show (((out.getD k 0).toNat:Nat):Int)=out.getD k 0 by omega] at ha
  have ha:qe (l.getD (out.getD k 0).toNat ([],[],(0:Int),(0:Int)),l.getD i ([],[],(0:Int),(0:Int)))= !C1 l (i:Int) (out.getD k 0):=ha
  refine ⟨?_,?_⟩
  ·unfold kj
   intro _
   dsimp only
   rw [Int.toNat_natCast,Int.toNat_natCast]
   exact ⟨⟨by omega,by omega⟩,hk,hk,⟨by omega,by omega⟩,by omega,by omega,⟨by omega,by omega⟩,hi,hi⟩
  ·unfold ek ai
   dsimp only
   rw [if_pos (by omega),Int.toNat_natCast,Int.toNat_natCast,ha]
   cases hb:C1 l (i:Int) (out.getD k 0) with
   |true=>
    rw [if_neg (by decide)]
    exact .inr ⟨_,rfl,k,rfl,by omega,hA,fun _=>hb⟩
   |false=>
    rw [if_pos (by decide)]
    refine .inl ⟨_,rfl,by rw [fJ hk (by omega)],fun j hj=> ?_⟩
    rcases Nat.lt_or_ge j k with h1|h1
    ·exact hA j h1
    ·have:j=k:=by omega
     subst this;exact hb
 ·obtain ⟨rfl,hA⟩:=hj
  refine ⟨?_,_,?_,out.length,rfl,Nat.le_refl _,hA,fun q=>absurd q (Nat.lt_irrefl _)⟩
  ·unfold kj
   intro q
   dsimp only at q;omega
  ·unfold ek
   dsimp only
   rw [if_neg (by omega)]
structure U9 (l:oU) (i:Nat) (out:List Int):Prop where
 perm:out.Perm (Lt i)
 sort:out.Pairwise fun x y=>C1 l y x=false
theorem aco (n:Nat) (x:Int):x∈Lt n↔0<=x/\ x<(n:Int):=by
 simp only [Lt,List.mem_map,List.mem_range]
 constructor
 ·rintro ⟨a,ha,rfl⟩;omega
 ·rintro ⟨h1,h2⟩;exact ⟨x.toNat,by omega,by omega⟩
theorem U9.step {l:oU} {i:Nat} {out:List Int} (h:U9 l i out) {k:Nat} (hk:acJ l out i k):U9 l (i+1) (out.take k++ [(i:Int)]++out.drop k):=by
 obtain ⟨k1,k2,k3⟩:=hk
 have hsp:=List.take_append_drop k out
 have hs:=h.sort
 rw [<- hsp,List.pairwise_append] at hs
 obtain ⟨s1,s2,s3⟩:=hs
 have ha: ∀x∈out.take k,C1 l (i:Int) x=false:=fun x hx=>by
  obtain ⟨j,hj,rfl⟩:=List.getElem_of_mem hx
  rw [List.length_take] at hj
  have:=k2 j (by omega)
  rw [List.getD_eq_getElem?_getD,List.getElem?_eq_getElem (by omega)] at this
  rw [List.getElem_take];exact this
 have hb: ∀y∈out.drop k,C1 l (i:Int) y=true:=fun y hy=>by
  have hlt:k<out.length:=by
   rcases Nat.lt_or_ge k out.length with c|c
   ·exact c
   ·rw [List.drop_eq_nil_of_le c] at hy;cases hy
  have h0:=k3 hlt
  have hd:out.drop k=out.getD k 0::out.drop (k+1):=by
   rw [List.drop_eq_getElem_cons hlt,List.getD_eq_getElem?_getD,List.getElem?_eq_getElem hlt];rfl
  rw [hd] at hy s2
  rcases List.mem_cons.1 hy with e|hy
  ·rw [e];exact h0
  ·have h1:=(List.pairwise_cons.1 s2).1 y hy
   rw [Fy] at h0 ⊢
   rw [yB] at h1
   omega
 refine ⟨?_,?_⟩
 ·have e:Lt (i+1)=Lt i++ [(i:Int)]:=by simp [Lt,List.range_succ]
  rw [e,List.append_assoc]
  refine List.perm_append_comm_assoc _ _ _|>.trans ?_
  rw [hsp]
  exact List.perm_append_comm.trans (h.perm.append_right _)
 ·rw [List.pairwise_append,List.pairwise_append]
  refine ⟨⟨s1,List.pairwise_singleton _ _,fun x hx y hy=> ?_⟩,s2,fun x hx y hy=> ?_⟩
  ·rw [List.mem_singleton] at hy
   subst hy;exact ha x hx
  ·rcases List.mem_append.1 hx with hx|hx
   ·exact s3 x hx y hy
   ·rw [List.mem_singleton] at hx
    subst hx
    have:=hb y hy
    rw [Fy] at this
    rw [yB];omega
theorem Bu (l:oU) (hl:l.length<=1000):dh l/\ cT l=Ord l:=by
 have key:TR (fX l) (kg l) ([],0) fun r=>U9 l l.length r:=by
  refine aZ l.length (fun i st=> ∃out,st=(out,(i:Int))/\ U9 l i out) _ (fun i st hi hj=> ?_) (fun st hj=> ?_) ⟨[],rfl,.refl _,.nil⟩
  ·obtain ⟨out,rfl,hO⟩:=hj
   have hlen:out.length=i:=by rw [hO.perm.length_eq,uB]
   have hin:=YU l out hi hl (fun o ho=>(aco _ _).1 (hO.perm.mem_iff.1 ho)) hlen
   obtain ⟨k,e,hk⟩:=hin.2
   have YF:=hk.1
   refine ⟨?_,.inl ⟨(out.take k++ [(i:Int)]++out.drop k,((i+1:Nat):Int)),?_,_,rfl,hO.step hk⟩⟩
   ·unfold kg aA
    intro _
    dsimp only
    rw [e]
    dsimp only
    rw [Int.toNat_natCast]
    simp only [List.length_append,List.length_take,List.length_drop,List.length_nil,List.length_cons]
    exact ⟨hin.1,⟨by omega,by omega⟩,by omega,by omega,⟨by omega,by omega⟩,by omega⟩
   ·unfold fX ai
    dsimp only
    rw [if_pos (by omega),e]
    dsimp only
    rw [Int.toNat_natCast,fJ hi (by omega),List.nil_append]
  ·obtain ⟨out,rfl,hO⟩:=hj
   refine ⟨?_,out,?_,hO⟩
   ·unfold kg
    intro q
    dsimp only at q;omega
   ·unfold fX
    dsimp only
    rw [if_neg (by omega)]
 refine ⟨key.1,?_⟩
 have hO:U9 l l.length (cT l):=key.2
 exact (hO.perm.trans (A7 l).symm).eq_of_pairwise (fun a b _ _ h1 h2=>KF l a b h2 h1) hO.sort (Hq l)
end Go.Proofs.YtbjfokijjefoeaaGreat
