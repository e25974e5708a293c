/- Plain laws: the references of layer 18 (atlases) say what the program says. -/
import Derived.Test.YtfgdjlhilladhaaGreatHq
import Derived.Test.YtfgdjlhilladhaaGreatBe
noncomputable section
set_option linter.unusedSectionVars false
set_option linter.unusedVariables false
set_option linter.unusedSimpArgs false
namespace Go.Proofs.YtfgdjlhilladhaaGreat
open Go Go.Ev Go.Proofs
theorem amd {p:SX} (h:fI p) {pad:Int} (hp:1<=pad/\ pad<=8):aj (p.2.2.1+aj (2*pad))=(JB p pad).1/\ aj (p.2.2.2+aj (2*pad))=(JB p pad).2:=by
 have:=h.ai9
 unfold JB
 rw [ay (n:=2*pad) (by omega) (by omega),ay (n:=p.2.2.1+2*pad) (by omega) (by omega),ay (n:=p.2.2.2+2*pad) (by omega) (by omega)]
 exact ⟨rfl,rfl⟩
theorem O7 (a:GR) (hl:a.2.2.2.1.length<=1000) (FC:a.2.2.2.2.length<1099511627776):ug a/\ (DW a=true↔qt a):=by
 obtain ⟨w,h,pad,l,R⟩:=a
 dsimp only at hl FC
 have n1:=Le w h pad
 obtain ⟨r1,r2⟩:=UA l hl
 unfold ug DW az aq
 dsimp only
 cases hn:nk (w,h,pad) with
 |false=>
  refine ⟨fun q=>absurd rfl q,fun q=>(by cases q),fun q=> ?_⟩
  rw [n1.2 q.num] at hn;cases hn
 |true=>
  have hN:=n1.1 hn
  obtain ⟨hw,hh,hp⟩:=hN
  rw [if_neg (by decide)]
  cases hr:Ae l with
  |false=>
   refine ⟨fun _=>⟨r1,fun q=>absurd rfl q⟩,fun q=>(by cases q),fun q=> ?_⟩
   rw [r2.2 q.rgt] at hr;cases hr
  |true=>
   have hR:=r2.1 hr
   rw [if_neg (by decide)]
   by_cases hlen:R.length=l.length
   rotate_left
   ·have hb:(((R.length:Nat):Int) !=((l.length:Nat):Int))=true:=by simp;omega
    refine ⟨fun _=>⟨r1,fun _ q=>absurd hb q⟩,?_⟩
    rw [if_pos hb]
    exact ⟨fun q=>(by cases q),fun q=>absurd q.len hlen⟩
   have hb: ¬(((R.length:Nat):Int) !=((l.length:Nat):Int))=true:=by simp;omega
   rw [if_neg hb]
   have key:TR (iZ (w,h,pad,l,R)) (p7 (w,h,pad,l,R)) 0 fun r=>(r= .inl ()/\ ¬ ∀i,i<l.length->(R.getD i zR).2.2=Go.Proofs.YtfgdjlhilladhaaGreat.JB (l.getD i zP) pad)\/ (r= .inr ()/\ ∀i,i<l.length->(R.getD i zR).2.2=Go.Proofs.YtfgdjlhilladhaaGreat.JB (l.getD i zP) pad):=by
    refine bg l.length (fun i s=>s=(i:Int)/\ ∀j,j<i->(R.getD j zR).2.2=Go.Proofs.YtfgdjlhilladhaaGreat.JB (l.getD j zP) pad) _ (fun i s hi hj=> ?_) (fun s hj=> ?_) ⟨rfl,fun j hj=>absurd hj (Nat.not_lt_zero _)⟩
    ·obtain ⟨rfl,hJ⟩:=hj
     have hi2:i<R.length:=by omega
     obtain ⟨z1,z2⟩:=amd (hR.all _ (cq hi zP)) hp
     have z1:aj ((l.getD i ([],[],(0:Int),(0:Int))).2.2.1+aj (2*pad))=_:=z1
     have z2:aj ((l.getD i ([],[],(0:Int),(0:Int))).2.2.2+aj (2*pad))=_:=z2
     refine ⟨?_,?_⟩
     ·unfold p7
      intro _
      dsimp only
      rw [Int.toNat_natCast]
      exact ⟨⟨by omega,by omega⟩,hi2,hi2,hi2,⟨by omega,by omega⟩,hi,hi,hi,fun _=>⟨⟨by omega,by omega⟩,hi2,hi2,hi2,⟨by omega,by omega⟩,hi,hi,hi⟩⟩
     ·unfold iZ
      dsimp only
      rw [if_pos (by omega),Int.toNat_natCast,z1,z2]
      by_cases c1:(R.getD i zR).2.2.1=(Go.Proofs.YtfgdjlhilladhaaGreat.JB (l.getD i zP) pad).1
      ·by_cases c2:(R.getD i zR).2.2.2=(Go.Proofs.YtfgdjlhilladhaaGreat.JB (l.getD i zP) pad).2
       ·refine .inl ⟨_,?_,lO (n:=l.length) hi (by omega),fun j hj=> ?_⟩
        ·rw [if_neg (fun q=>(bne_iff_ne.1 q) c1),if_neg (fun q=>(bne_iff_ne.1 q) c2)]
        ·rcases Nat.lt_or_ge j i with h1|h1
         ·exact hJ j h1
         ·have:j=i:=by omega
          subst this;exact Prod.ext c1 c2
       ·refine .inr ⟨.inl (),?_,.inl ⟨rfl,fun q=>c2 (congrArg Prod.snd (q i hi))⟩⟩
        rw [if_neg (fun q=>(bne_iff_ne.1 q) c1),if_pos (bne_iff_ne.2 c2)]
      ·refine .inr ⟨.inl (),?_,.inl ⟨rfl,fun q=>c1 (congrArg Prod.fst (q i hi))⟩⟩
       rw [if_pos (bne_iff_ne.2 c1)]
    ·obtain ⟨rfl,hJ⟩:=hj
     refine ⟨?_,.inr (),?_,.inr ⟨rfl,hJ⟩⟩
     ·unfold p7
      intro q
      dsimp only at q;omega
     ·unfold iZ
      dsimp only
      rw [if_neg (by omega)]
   have k1:=key.1
   obtain ⟨s1,s2⟩:=aby hw hh R (by omega)
   rcases key.2 with ⟨e,hS⟩|⟨e,hS⟩
   ·rw [e]
    exact ⟨fun _=>⟨r1,fun _ _=>⟨k1,trivial⟩⟩,fun q=>(by cases q),fun q=>absurd q.JB hS⟩
   ·rw [e]
    refine ⟨fun _=>⟨r1,fun _ _=>⟨k1,s1⟩⟩,?_⟩
    show Uu (w,h,R)=true↔_
    rw [s2]
    exact ⟨fun q=>⟨⟨hw,hh,hp⟩,hlen,hR,hS,q⟩,fun q=>q.sh⟩
theorem Xm {p:SX} (h1:p.1.length<1000000) (h2:p.2.1.length<1000000):Ca p/\ K6 p=p:=by
 obtain ⟨a1,a2⟩:=abK p.1 (by omega)
 exact ⟨⟨a1,(show 0+p.2.1.length<1099511627776 by omega)⟩,rfl⟩
theorem ahW (a:GR) (T L:List T2) (i:Nat) (o:List Int) (hL:L.length<=1000) (ho:o.length<=1000000):
  TR (jE a) (nT a) (T,o,(i:Int),L,0) fun r=>r=(T,o++List.replicate L.length (i:Int),(i:Int)):=by
 refine bg L.length (fun k s=>s=(T,o++List.replicate k (i:Int),(i:Int),L,(k:Int))) _ (fun k s hk hj=> ?_) (fun s hj=> ?_) (by simp)
 ·subst hj
  refine ⟨?_,.inl ⟨_,?_,rfl⟩⟩
  ·unfold nT
   intro _
   dsimp only
   rw [List.length_append,List.length_replicate];omega
  ·unfold jE
   dsimp only
   rw [if_pos (by omega),lO hk (by omega),List.append_assoc,<- List.replicate_succ']
 ·subst hj
  refine ⟨?_,_,?_,rfl⟩
  ·unfold nT
   intro q
   dsimp only at q;omega
  ·unfold jE
   dsimp only
   rw [if_neg (by omega)]
theorem Xs (a:GR) (hl:a.2.2.2.1.length<=1000) (FC:a.2.2.2.2.length<1099511627776):vA a/\ ((¬qt a/\ Cb a=([],[],1))\/
  (qt a/\ Cb a=(sL a.2.2.2.1 a.2.2.2.2 a.2.2.1 a.2.2.2.1.length,CB a.2.2.2.1 a.2.2.2.1.length,0))):=by
 obtain ⟨i1,i2⟩:=O7 a hl FC
 unfold vA Cb az aq
 cases hb:DW a with
 |false=>
  refine ⟨⟨i1,fun q=>absurd rfl q⟩,.inl ⟨fun q=> ?_,rfl⟩⟩
  rw [i2.2 q] at hb;cases hb
 |true=>
  have hA:=i2.1 hb
  have hR:=hA.rgt
  have key:TR (jD a) (nS a) ([],[],0) fun r=>r=(sL a.2.2.2.1 a.2.2.2.2 a.2.2.1 a.2.2.2.1.length,CB a.2.2.2.1 a.2.2.2.1.length):=by
   refine bg a.2.2.2.1.length (fun i st=>st=(sL a.2.2.2.1 a.2.2.2.2 a.2.2.1 i,CB a.2.2.2.1 i,(i:Int))) _ (fun i st hi hj=> ?_) (fun st hj=> ?_) rfl
   ·subst hj
    have hp:=hR.all _ (cq hi zP)
    have hlen:=hA.len
    have hi2:i<a.2.2.2.2.length:=by omega
    obtain ⟨⟨r1,r2⟩,⟨r3,r4⟩,r5,r6⟩:=hA.ahX hi
    obtain ⟨⟨w1,w2⟩,⟨h1,h2⟩,p1,p2⟩:=hA.num
    have adX:=hA.way hi
    have e1:aj ((a.2.2.2.2.getD i zR).1+a.2.2.1)=(a.2.2.2.2.getD i zR).1+a.2.2.1:=ay (by omega) (by omega)
    have e2:aj ((a.2.2.2.2.getD i zR).2.1+a.2.2.1)=(a.2.2.2.2.getD i zR).2.1+a.2.2.1:=ay (by omega) (by omega)
    have e3:aj (16*((a.2.2.2.2.getD i zR).1+a.2.2.1))=16*((a.2.2.2.2.getD i zR).1+a.2.2.1):=ay (by omega) (by omega)
    have e4:aj (16*((a.2.2.2.2.getD i zR).2.1+a.2.2.1))=16*((a.2.2.2.2.getD i zR).2.1+a.2.2.1):=ay (by omega) (by omega)
    have hps:=hp.same
    have FD:=hp.len
    have hm:=F3 (a.2.2.2.1.getD i zP) (dx a.2.2.2.2 a.2.2.1 i)
    obtain ⟨rm1,rm2⟩:=Up (a.2.2.2.1.getD i zP) (dx a.2.2.2.2 a.2.2.1 i) (by omega)
    have hmv:z7 (a.2.2.2.1.getD i zP,dx a.2.2.2.2 a.2.2.1 i)=(xR a.2.2.2.1 a.2.2.2.2 a.2.2.1 i,0):=by
     rw [rm2]
     rcases hm.2 with ⟨q,_⟩|⟨_,q,_⟩|⟨_,_,q⟩
     ·exact absurd hp q
     ·exact absurd adX q
     ·exact q
    have adk:(a.2.2.2.1.getD i zP,aj ((16:Int)*(aj ((a.2.2.2.2.getD i zR).1+a.2.2.1))),aj ((16:Int)*(aj ((a.2.2.2.2.getD i zR).2.1+a.2.2.1))))=(a.2.2.2.1.getD i zP,dx a.2.2.2.2 a.2.2.1 i):=by rw [e1,e2,e3,e4];rfl
    have hml:=zQ a.2.2.2.1 a.2.2.2.2 a.2.2.1 i
    obtain ⟨t1,t2,t3⟩:=tH hR a.2.2.2.2 a.2.2.1 i (by omega)
    have hin:=ahW a (sL a.2.2.2.1 a.2.2.2.2 a.2.2.1 i++xR a.2.2.2.1 a.2.2.2.2 a.2.2.1 i) (xR a.2.2.2.1 a.2.2.2.2 a.2.2.1 i) i (CB a.2.2.2.1 i) (by omega) (by omega)
    refine ⟨?_,.inl ⟨_,?_,rfl⟩⟩
    ·unfold nS az
     intro _
     dsimp only
     rw [Int.toNat_natCast,show (a.2.2.2.1.getD i ([],[],0,0),aj ((16:Int)*(aj ((a.2.2.2.2.getD i (0,0,0,0)).1+a.2.2.1))),aj ((16:Int)*(aj ((a.2.2.2.2.getD i (0,0,0,0)).2.1+a.2.2.1))))=_ from adk,hmv]
     exact ⟨⟨by omega,by omega⟩,hi,hi,⟨by omega,by omega⟩,hi2,hi2,hi2,⟨by omega,by omega⟩,hi2,hi2,hi2,rm1,by dsimp only;omega,hin.1⟩
    ·unfold jD aq
     dsimp only
     rw [if_pos (by omega),Int.toNat_natCast,show (a.2.2.2.1.getD i ([],[],0,0),aj ((16:Int)*(aj ((a.2.2.2.2.getD i (0,0,0,0)).1+a.2.2.1))),aj ((16:Int)*(aj ((a.2.2.2.2.getD i (0,0,0,0)).2.1+a.2.2.1))))=_ from adk,hmv]
     dsimp only
     rw [hin.2]
     dsimp only
     rw [lO hi (by omega),tI,zi,hml]
   ·subst hj
    refine ⟨?_,_,?_,rfl⟩
    ·unfold nS
     intro q
     dsimp only at q;omega
    ·unfold jD
     dsimp only
     rw [if_neg (by omega)]
  refine ⟨⟨i1,fun _=>key.1⟩,.inr ⟨hA,?_⟩⟩
  dsimp only
  rw [if_neg (by decide),key.2]
theorem A1 (a:GR) (hR:Rgt a.2.2.2.1) (hl:a.2.2.2.1.length<=1000):nV a/\ qn a=eO a.2.2.2.1:=by
 have key:TR (fO a) (jT a) ([],0) fun r=>r=eO a.2.2.2.1:=by
  refine bg a.2.2.2.1.length (fun i st=>st=(eO (a.2.2.2.1.take i),(i:Int))) _ (fun i st hi hj=> ?_) (fun st hj=> ?_) rfl
  ·subst hj
   have FD:=(hR.all _ (cq hi zP)).len
   have hts:=Ft (l:=a.2.2.2.1.take i) fun p hp=>hR.all p (List.mem_of_mem_take hp)
   rw [List.length_take] at hts
   refine ⟨?_,.inl ⟨_,?_,rfl⟩⟩
   ·unfold jT
    intro _
    dsimp only
    rw [Int.toNat_natCast]
    exact ⟨⟨by omega,by omega⟩,hi,hi,hi,(show (eO (a.2.2.2.1.take i)).length+(a.2.2.2.1.getD i zP).1.length<1099511627776 by omega)⟩
   ·unfold fO
    dsimp only
    rw [if_pos (by omega),Int.toNat_natCast,lO hi (by omega),eV hi zP,nD]
  ·subst hj
   refine ⟨?_,_,?_,rfl⟩
   ·unfold jT
    intro q
    dsimp only at q;omega
   ·unfold fO
    dsimp only
    rw [if_neg (by omega),List.take_length]
 exact ⟨key.1,key.2⟩
def Sml (l:M0):Prop:=l.length<=12/\ ∀p∈l,p.1.length<=1000/\ p.2.1.length<=1000
theorem Xu (a:GR) (hs:Sml a.2.2.2.1) (FC:a.2.2.2.2.length<=1000):vB a/\ Lk a=a:=by
 obtain ⟨s1,s2⟩:=hs
 have key:TR (jG a) (nU a) ([],a.2.2.2.2,0) fun r=>r=(a.2.2.2.1,a.2.2.2.2):=by
  refine bg a.2.2.2.1.length (fun i st=>st=(a.2.2.2.1.take i,a.2.2.2.2,(i:Int))) _ (fun i st hi hj=> ?_) (fun st hj=> ?_) rfl
  ·subst hj
   have hp:=s2 _ (cq hi zP)
   obtain ⟨p1,p2⟩:=Xm (p:=a.2.2.2.1.getD i zP) (by omega) (by omega)
   refine ⟨?_,.inl ⟨_,?_,rfl⟩⟩
   ·unfold nU az
    intro _
    dsimp only
    rw [Int.toNat_natCast]
    exact ⟨⟨by omega,by omega⟩,hi,hi,p1,by rw [List.length_take];omega⟩
   ·unfold jG aq
    dsimp only
    rw [if_pos (by omega),Int.toNat_natCast,show K6 (a.2.2.2.1.getD i ([],[],0,0))=_ from p2,lO hi (by omega),eV hi zP]
  ·subst hj
   refine ⟨?_,_,?_,rfl⟩
   ·unfold nU
    intro q
    dsimp only at q;omega
   ·unfold jG
    dsimp only
    rw [if_neg (by omega),List.take_length]
 unfold vB Lk az aq
 have e:R1 a.2.2.2.2=a.2.2.2.2:=rfl
 rw [e]
 dsimp only
 rw [key.2]
 exact ⟨⟨(show 0+a.2.2.2.2.length<1099511627776 by omega),key.1⟩,rfl⟩
theorem RW (p:SX) (h1:p.1.length<=1000) (h2:p.2.1.length<=1000):oP (p,p)/\ z9 (p,p)=true:=afC p (by omega) (by omega)
theorem R4 (a:GR) (hs:Sml a.2.2.2.1) (FC:a.2.2.2.2.length<=1000):ym (a,a)/\ Ju (a,a)=true:=by
 obtain ⟨s1,s2⟩:=hs
 have key:TR (iP (a,a)) (mh (a,a)) 0 fun r=>r= .inr ():=by
  refine bg a.2.2.2.1.length (fun i st=>st=(i:Int)) _ (fun i st hi hj=> ?_) (fun st hj=> ?_) rfl
  ·subst hj
   have hp:=s2 _ (cq hi zP)
   obtain ⟨p1,p2⟩:=RW (a.2.2.2.1.getD i zP) hp.1 hp.2
   refine ⟨?_,.inl ⟨_,?_,rfl⟩⟩
   ·unfold mh
    intro _
    dsimp only
    rw [Int.toNat_natCast]
    exact ⟨⟨by omega,by omega⟩,hi,hi,⟨by omega,by omega⟩,hi,hi,p1⟩
   ·unfold iP aq
    dsimp only
    rw [if_pos (by omega),Int.toNat_natCast,show z9 (a.2.2.2.1.getD i ([],[],0,0),a.2.2.2.1.getD i ([],[],0,0))=_ from p2,if_neg (by decide),lO hi (by omega)]
  ·subst hj
   refine ⟨?_,_,?_,rfl⟩
   ·unfold mh
    intro q
    dsimp only at q;omega
   ·unfold iP
    dsimp only
    rw [if_neg (by omega)]
 obtain ⟨q1,q2⟩:=Ux a.2.2.2.2 a.2.2.2.2 (by omega)
 have q2:=q2 rfl
 have nn: ∀n:Int,¬((n !=n)=true):=fun n=>by simp
 refine ⟨fun _ _ _ _=>⟨q1,aji fun _=>key.1⟩,?_⟩
 unfold Ju
 dsimp only
 rw [if_neg (nn _),if_neg (nn _),if_neg (nn _),if_neg (nn _),aaH,q2,if_neg (by decide),aaH,key.2]
 rfl
theorem Uy (l:M0):Cc l/\ (Lc l=false->Sml l):=by
 have key:TR (gU l) (kr l) (0,0) fun r=>(r= .inl ())\/ ∃n,r= .inr n/\ (l.length<=12-> ∀p∈l,p.1.length<=1000/\ p.2.1.length<=1000):=by
  by_cases h12:l.length<=12
  ·refine bg l.length (fun i s=>s.2=(i:Int)∧ ∀p∈l.take i,p.1.length≤1000∧p.2.1.length≤1000) _ (fun i s hi hj=> ?_) (fun s hj=> ?_) ⟨rfl,fun p hp=>(by simp at hp)⟩
   ·obtain ⟨n,z⟩:=s
    obtain ⟨e,hA⟩:=hj
    dsimp only at e hA;subst e
    refine ⟨?_,?_⟩
    ·unfold kr az
     intro _ _
     dsimp only
     rw [Int.toNat_natCast]
     exact ⟨⟨by omega,by omega⟩,hi,hi,fun _=>⟨⟨by omega,by omega⟩,hi,hi,hi⟩⟩
    ·unfold gU aq
     dsimp only
     rw [if_pos (by omega),if_pos (by omega),Int.toNat_natCast]
     cases hb:Gj (l.getD i ([],[],(0:Int),(0:Int))) with
     |true=>rw [if_pos rfl];exact .inr ⟨_,rfl,.inl rfl⟩
     |false=>
      rw [if_neg (by decide)]
      refine .inl ⟨_,rfl,lO hi (by omega),fun p hp=> ?_⟩
      rw [eV hi zP] at hp
      rcases List.mem_append.1 hp with h|h
      ·exact hA p h
      ·simp only [List.mem_singleton] at h
       subst h
       have hb:Gj (l.getD i zP)=false:=hb
       unfold Gj at hb
       split at hb
       ·cases hb
       ·have:=of_decide_eq_false hb
        exact ⟨by omega,by omega⟩
   ·obtain ⟨n,z⟩:=s
    obtain ⟨e,hA⟩:=hj
    dsimp only at e hA;subst e
    rw [List.take_length] at hA
    refine ⟨?_,.inr n,?_,.inr ⟨n,rfl,fun _=>hA⟩⟩
    ·unfold kr
     intro q
     dsimp only at q;omega
    ·unfold gU
     dsimp only
     rw [if_neg (by omega)]
  ·refine TR.stop (r:= .inr 0) ?_ ?_ (.inr ⟨0,rfl,fun q=>absurd q h12⟩)
   ·unfold kr
    intro _ q
    omega
   ·unfold gU
    dsimp only
    rw [if_pos (by omega),if_neg (by omega)]
 refine ⟨key.1,?_⟩
 unfold Lc aq
 dsimp only
 rcases key.2 with e|⟨b,e,hA⟩
 ·rw [e];intro q;cases q
 ·rw [e]
  intro q
  have q:(if ((l.length:Nat):Int)>12 then true else decide (b>30))=false:=q
  by_cases c:((l.length:Nat):Int)>12
  ·rw [if_pos c] at q;cases q
  ·exact ⟨by omega,hA (by omega)⟩
end Go.Proofs.YtfgdjlhilladhaaGreat
