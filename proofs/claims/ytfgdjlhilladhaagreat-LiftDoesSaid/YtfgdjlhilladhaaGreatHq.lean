/- Plain laws: the references of layer 17 say what the program says. -/
import Derived.Test.YtfgdjlhilladhaaGreatPa
import Derived.Test.YtfgdjlhilladhaaGreatLb
import Derived.Test.YtfgdjlhilladhaaGreatHl
import Derived.Test.YtfgdjlhilladhaaGreatBe
import Derived.Test.YtfgdjlhilladhaaGreatHc
noncomputable section
set_option linter.unusedSectionVars false
set_option linter.unusedVariables false
set_option linter.unusedSimpArgs false
namespace Go.Proofs.YtfgdjlhilladhaaGreat
open Go Go.Ev Go.Proofs
theorem aj6 {w h:Int} (hw:pM w) (hh:pM h) (l:List JI) (hl:l.length<4611686018427387904) {i:Nat} (hi:i<l.length) (hJ: ∀j,j<=i->YB w h (l.getD j zR)):
  TR (kq (w,h,l)) (pZ (w,h,l)) ((i:Int),0) fun r=>(r= .inl ()/\ ¬ ∀k,k<i->SV (l.getD k zR) (l.getD i zR))\/ (r= .inr (i:Int)/\ ∀k,k<i->SV (l.getD k zR) (l.getD i zR)):=by
 refine bg i (fun k s=>s=((i:Int),(k:Int))/\ ∀j,j<k->SV (l.getD j zR) (l.getD i zR)) _ (fun k s hk hj=> ?_) (fun s hj=> ?_) ⟨rfl,fun j hj=>absurd hj (Nat.not_lt_zero _)⟩
 ·obtain ⟨rfl,hA⟩:=hj
  obtain ⟨a1,a2⟩:=RX hw hh (hJ i (Nat.le_refl _)) (hJ k (by omega))
  refine ⟨?_,?_⟩
  ·unfold pZ
   intro _
   dsimp only
   rw [Int.toNat_natCast,Int.toNat_natCast]
   exact ⟨⟨by omega,by omega⟩,hi,hi,⟨by omega,by omega⟩,by omega,by omega,a1⟩
  ·unfold kq aq
   dsimp only
   rw [if_pos (by omega),Int.toNat_natCast,Int.toNat_natCast]
   cases hb:ue (l.getD i (0,0,0,0),l.getD k (0,0,0,0)) with
   |false=>
    refine .inr ⟨_,rfl,.inl ⟨rfl,fun q=> ?_⟩⟩
    have:=a2.2 (q k hk).symm
    rw [show ue (l.getD i zR,l.getD k zR)=false from hb] at this
    cases this
   |true=>
    refine .inl ⟨_,rfl,?_,fun j hj=> ?_⟩
    ·rw [lO hk (by omega)]
    ·rcases Nat.lt_or_ge j k with h1|h1
     ·exact hA j h1
     ·have:j=k:=by omega
      subst this;exact (a2.1 hb).symm
 ·obtain ⟨rfl,hA⟩:=hj
  refine ⟨?_,_,?_,.inr ⟨rfl,hA⟩⟩
  ·unfold pZ
   intro q
   dsimp only at q;omega
  ·unfold kq
   dsimp only
   rw [if_neg (by omega)]
theorem aby {w h:Int} (hw:pM w) (hh:pM h) (l:List JI) (hl:l.length<4611686018427387904):Gk (w,h,l)/\ (Uu (w,h,l)=true↔QH w h l):=by
 have key:TR (ga (w,h,l)) (jS (w,h,l)) 0 fun r=>(r= .inl ()/\ ¬QH w h l)\/ (r= .inr ()/\ QH w h l):=by
  refine bg l.length (fun i s=>s=(i:Int)/\ ∀j,j<i->YB w h (l.getD j zR)/\ ∀k,k<j->SV (l.getD k zR) (l.getD j zR)) _ (fun i s hi hj=> ?_) (fun s hj=> ?_) ⟨rfl,fun j hj=>absurd hj (Nat.not_lt_zero _)⟩
  ·obtain ⟨e,hJ⟩:=hj
   subst e
   have Nd:(¬(YB w h (l.getD i zR)/\ ∀k,k<i->SV (l.getD k zR) (l.getD i zR)))-> ¬QH w h l:=fun q q'=>q (q' i hi)
   have hI:=Nx w h hw hh (l.getD i zR)
   cases hb:nj (w,h,l.getD i (0,0,0,0)) with
   |false=>
    refine ⟨?_,.inr ⟨.inl (),?_,.inl ⟨rfl,Nd fun q=> ?_⟩⟩⟩
    ·unfold jS az
     intro _
     dsimp only
     rw [Int.toNat_natCast,hb]
     exact ⟨⟨by omega,by omega⟩,hi,hi,fun q=>absurd rfl q⟩
    ·unfold ga aq
     dsimp only
     rw [if_pos (by omega),Int.toNat_natCast,hb,if_pos (by decide)]
    ·have:=hI.2 q.1
     rw [show nj (w,h,l.getD i zR)=false from hb] at this
     cases this
   |true=>
    have hin:=hI.1 hb
    have hk:=aj6 hw hh l hl hi (fun j hj'=>by
     rcases Nat.lt_or_ge j i with h1|h1
     ·exact (hJ j h1).1
     ·have:j=i:=by omega
      subst this;exact hin)
    have hpre:jS (w,h,l) (i:Int):=by
     unfold jS az
     intro _
     dsimp only
     rw [Int.toNat_natCast]
     exact ⟨⟨by omega,by omega⟩,hi,hi,fun _=>hk.1⟩
    refine ⟨hpre,?_⟩
    rcases hk.2 with ⟨e,hn⟩|⟨e,hy⟩
    ·refine .inr ⟨.inl (),?_,.inl ⟨rfl,Nd fun q=>hn q.2⟩⟩
     unfold ga aq
     dsimp only
     rw [if_pos (by omega),Int.toNat_natCast,hb,if_neg (by decide),e]
     rfl
    ·refine .inl ⟨_,?_,rfl,fun j hj=> ?_⟩
     ·unfold ga aq
      dsimp only
      rw [if_pos (by omega),Int.toNat_natCast,hb,if_neg (by decide),e,Sum.elim_inr,lO hi hl]
     ·rcases Nat.lt_or_ge j i with h1|h1
      ·exact hJ j h1
      ·have:j=i:=by omega
       subst this;exact ⟨hin,hy⟩
  ·obtain ⟨e,hJ⟩:=hj
   subst e
   refine ⟨?_,.inr (),?_,.inr ⟨rfl,hJ⟩⟩
   ·unfold jS
    intro q
    dsimp only at q;omega
   ·unfold ga
    rw [if_neg (by dsimp only;omega)]
 refine ⟨key.1,?_⟩
 unfold Uu aq
 rcases key.2 with ⟨e,hn⟩|⟨e,hy⟩
 ·rw [e];exact ⟨fun q=>(by cases q),fun q=>absurd q hn⟩
 ·rw [e];exact ⟨fun _=>hy,fun _=>rfl⟩
theorem Ux (a b:List JI) (hl:a.length<4611686018427387904):sk (a,b)/\ (a=b->DR (a,b)=true):=by
 unfold sk DR aq
 dsimp only
 by_cases hab:a.length=b.length
 rotate_left
 ·have hn:(((a.length:Nat):Int) !=((b.length:Nat):Int))=true:=by simp;omega
  exact ⟨fun q=>absurd hn q,fun q=>absurd (by rw [q]) hab⟩
 have hn: ¬((((a.length:Nat):Int) !=((b.length:Nat):Int))=true):=by simp [hab]
 rw [if_neg hn]
 have key:TR (iM (a,b)) (me (a,b)) 0 fun r=>a=b->r= .inr ():=by
  refine bg a.length (fun i s=>s=(i:Int)) _ (fun i s hi hj=> ?_) (fun s hj=> ?_) rfl
  ·subst hj
   refine ⟨?_,?_⟩
   ·unfold me
    intro _
    dsimp only
    rw [Int.toNat_natCast]
    exact ⟨⟨by omega,by omega⟩,hi,hi,⟨by omega,by omega⟩,by omega,by omega⟩
   ·unfold iM
    dsimp only
    rw [if_pos (by omega),Int.toNat_natCast]
    split
    ·rename_i hne
     refine .inr ⟨_,rfl,fun q=> ?_⟩
     subst q
     simp at hne
    ·exact .inl ⟨_,rfl,lO hi hl⟩
  ·subst hj
   refine ⟨?_,_,?_,fun _=>rfl⟩
   ·unfold me
    intro q
    dsimp only at q;omega
   ·unfold iM
    dsimp only
    rw [if_neg (by omega)]
 refine ⟨fun _=>key.1,fun q=> ?_⟩
 rw [key.2 q];rfl
end Go.Proofs.YtfgdjlhilladhaaGreat
namespace Go.Proofs.YtfgdjlhilladhaaGreat
open Go Go.Ev Go.Proofs
theorem XF (a b:List Int) (hl:a.length<4611686018427387904):vE (a,b)/\ (Lp (a,b)=true↔a=b):=by
 unfold vE Lp
 dsimp only [az,aq]
 by_cases h:a.length=b.length
 ·have hn: ¬((((a.length:Nat):Int) !=((b.length:Nat):Int))=true):=by simp [h]
  obtain ⟨h1,h2⟩:=cV (step:=mu (a,b)) (pre:=td (a,b)) (fun s=> ∃i:Nat,s=(i:Int)/\ i<=a.length/\ a.take i=b.take i) (fun s=>a.length- s.toNat)
   (fun r=>(r= .inl ()/\ a≠b)\/ (r= .inr ()/\ a=b)) (fun s ⟨i,e,hi,hf⟩=>by
    subst e
    unfold mu td
    dsimp only
    simp only [Int.toNat_natCast]
    refine ⟨fun q=>⟨by omega,by omega,by omega,by omega,by omega,by omega⟩,fun s' q=> ?_,fun r q=> ?_⟩
    ·split at q
     ·rename_i hlt
      have hlt:i<a.length:=by omega
      split at q
      ·cases q
      ·rename_i hne
       cases q
       refine ⟨⟨i+1,cnt hlt (by omega),hlt,?_⟩,?_⟩
       ·rw [List.take_succ_eq_append_getElem hlt,List.take_succ_eq_append_getElem (show i<b.length by omega),hf]
        congr 2
        simpa [List.getD_eq_getElem?_getD,List.getElem?_eq_getElem hlt,List.getElem?_eq_getElem (show i<b.length by omega)] using hne
       ·rw [cnt hlt (by omega)]
        simp only [Int.toNat_natCast];omega
     ·cases q
    ·split at q
     ·split at q
      ·rename_i hne
       cases q
       refine .inl ⟨rfl,fun e=> ?_⟩
       rw [e] at hne;simp at hne
      ·cases q
     ·cases q
      have:i=a.length:=by omega
      subst this
      rw [List.take_length,h,List.take_length] at hf
      exact .inr ⟨rfl,hf⟩) 0 ⟨0,rfl,Nat.zero_le _,rfl⟩
  refine ⟨fun _=>h1,?_⟩
  rw [if_neg hn]
  rcases h2 with ⟨e,q⟩|⟨e,q⟩
  ·rw [e];exact ⟨fun z=>(by cases z),fun z=>absurd z q⟩
  ·rw [e];exact ⟨fun _=>q,fun _=>rfl⟩
 ·have hn:(((a.length:Nat):Int) !=((b.length:Nat):Int))=true:=by simp;omega
  refine ⟨fun q=>absurd hn q,?_⟩
  rw [if_pos hn]
  exact ⟨fun q=>(by cases q),fun q=>absurd (by rw [q]) h⟩
theorem abK (l:List Int) (hl:l.length<1099511627776):Ah l/\ Zl l=l:=⟨by unfold Ah;omega,rfl⟩
theorem RV (x:SX) (b:P2) (hl:x.2.1.length<1000000):Term (fG (x,b)) (mc (x,b)) ([],0)/\ run (fG (x,b)) ([],0)=x.2.1.map (w4 fun p=>eI (p,b)):=by
 refine cV (step:=fG (x,b)) (pre:=mc (x,b)) (fun s=> ∃i:Nat,s=((x.2.1.take i).map (w4 fun p=>eI (p,b)),(i:Int))/\ i<=x.2.1.length)
  (fun s=>x.2.1.length- s.2.toNat) (fun r=>r=x.2.1.map (w4 fun p=>eI (p,b))) (fun s hs=> ?_) _ ⟨0,rfl,Nat.zero_le _⟩
 obtain ⟨i,rfl,hi'⟩:=hs
 unfold fG mc
 dsimp only
 simp only [Int.toNat_natCast,List.length_map,List.length_take]
 refine ⟨fun q=>by omega,?_⟩
 by_cases hlt:i<x.2.1.length
 ·have hg:x.2.1.getD i zT=x.2.1[i]:=by rw [List.getD_eq_getElem?_getD,List.getElem?_eq_getElem hlt];rfl
  rw [if_pos (by omega),cnt hlt (by omega)]
  refine ⟨fun s' q=> ?_,fun r q=>(by cases q)⟩
  cases q
  refine ⟨⟨i+1,?_,hlt⟩,by simp only [Int.toNat_natCast];omega⟩
  rw [List.take_succ_eq_append_getElem hlt,List.map_append,<- hg]
  rfl
 ·rw [if_neg (by omega)]
  refine ⟨fun s' q=>(by cases q),fun r q=> ?_⟩
  cases q
  have:i=x.2.1.length:=by omega
  subst this
  rw [List.take_length]
theorem Up (x:SX) (b:P2) (hl:x.2.1.length<1000000):r9 (x,b)/\ z7 (x,b)=CX (x,b):=by
 have hI:=O3 x
 have hL:=RV x b hl
 have hM:=(F3 x b).2
 unfold r9 z7
 dsimp only [az,aq]
 refine ⟨⟨hI.1,fun _ _ _ _ _=>hL.1⟩,?_⟩
 rw [hI.2,hL.2]
 rcases hM with ⟨h,e⟩|⟨h,hb,e⟩|⟨h,hb,e⟩
 ·have:VO x=false:=by rw [Bool.eq_false_iff];exact fun q=>h ((nJ x).2.1 q)
  rw [e,this];rfl
 ·rw [e,(nJ x).2.2 h,if_neg (by decide)]
  split
  ·rfl
  ·split
   ·rfl
   ·split
    ·rfl
    ·split
     ·rfl
     ·exact absurd (by omega) hb
 ·rw [e,(nJ x).2.2 h,if_neg (by decide),if_neg (by omega),if_neg (by omega),if_neg (by omega),if_neg (by omega)]
theorem amh (a b:T2):((((a.1.1==b.1.1)&&((a.1.2==b.1.2)&&true))&&(((a.2.1.1==b.2.1.1)&&((a.2.1.2==b.2.1.2)&&true))&&(((a.2.2.1==b.2.2.1)&&((a.2.2.2==b.2.2.2)&&true))&&true)))=true)↔a=b:=by
 obtain ⟨⟨a1,a2⟩,⟨a3,a4⟩,a5,a6⟩:=a
 obtain ⟨⟨b1,b2⟩,⟨b3,b4⟩,b5,b6⟩:=b
 simp only [Bool.and_true,Bool.and_eq_true,beq_iff_eq,Prod.mk.injEq]
theorem Sw (a:List T2) (hl:a.length<4611686018427387904):kO (a,a)/\ si (a,a)=true:=by
 unfold kO si
 dsimp only [az,aq]
 have hn: ¬((((a.length:Nat):Int) !=((a.length:Nat):Int))=true):=by simp
 have hh:=gG a hl (fun _=>false) (ej (a,a)) (k5 (a,a)) (fun i hi=>by
   unfold k5
   dsimp only
   intro q
   simp only [Int.toNat_natCast];omega) (fun i t ht=>by
   have hlt:=bt ht
   unfold ej
   dsimp only
   rw [if_pos (by omega),Int.toNat_natCast,cY ht,if_neg (by rw [(amh t t).2 rfl];decide),if_neg (by decide)]) (by
   unfold ej
   dsimp only
   rw [if_neg (by omega)])
 refine ⟨fun _=>hh.1,?_⟩
 rw [if_neg hn,hh.2]
 simp
theorem afC (x:SX) (h1:x.1.length<4611686018427387904) (h2:x.2.1.length<4611686018427387904):oP (x,x)/\ z9 (x,x)=true:=by
 have a:=XF x.1 x.1 h1
 have b:=Sw x.2.1 h2
 unfold oP z9
 dsimp only [az,aq]
 refine ⟨fun _ _=>⟨a.1,fun _=>b.1⟩,?_⟩
 rw [if_pos (by simp),if_pos (by simp),a.2.2 rfl,if_pos rfl,b.2]
end Go.Proofs.YtfgdjlhilladhaaGreat
namespace Go.Proofs.YtfgdjlhilladhaaGreat
open Go Go.Ev Go.Proofs
theorem Le (w h pad:Int):nk (w,h,pad)=true↔Num w h pad:=by
 unfold nk Num pM
 dsimp only
 by_cases c1:w>=1
 ·rw [if_pos c1]
  by_cases c2:w<=256
  ·rw [if_pos c2]
   by_cases c3:h>=1
   ·rw [if_pos c3]
    by_cases c4:h<=256
    ·rw [if_pos c4]
     by_cases c5:pad>=1
     ·rw [if_pos c5,decide_eq_true_iff];omega
     ·rw [if_neg c5];exact ⟨fun q=>(by cases q),fun q=>absurd q (by omega)⟩
    ·rw [if_neg c4];exact ⟨fun q=>(by cases q),fun q=>absurd q (by omega)⟩
   ·rw [if_neg c3];exact ⟨fun q=>(by cases q),fun q=>absurd q (by omega)⟩
  ·rw [if_neg c2];exact ⟨fun q=>(by cases q),fun q=>absurd q (by omega)⟩
 ·rw [if_neg c1];exact ⟨fun q=>(by cases q),fun q=>absurd q (by omega)⟩
def Unl (t:List Int) (i:Nat):Prop:= ∀a,a<i-> ∀k,k<a->t.getD k 0≠t.getD a 0
theorem QD (t:List Int):Unl t t.length↔t.Nodup:=by
 rw [List.nodup_iff_pairwise_ne,List.pairwise_iff_getElem]
 have hg: ∀ {k:Nat} (h:k<t.length),t.getD k 0=t[k]:=fun {k} h=>by rw [List.getD_eq_getElem?_getD,List.getElem?_eq_getElem h];rfl
 constructor
 ·intro h i j hi hj hij
  have:=h j hj i hij
  rw [hg hi,hg hj] at this;exact this
 ·intro h a ha k hk
  rw [hg ha,hg (by omega)]
  exact h k a (by omega) ha hk
theorem ahz (l:M0) (t:List Int) {i:Nat} (hi:i<t.length) (ht:t.length<4611686018427387904):
  TR (iO l) (mg l) (t,(i:Int),0) fun r=>(r= .inl ()/\ ¬ ∀k,k<i->t.getD k 0≠t.getD i 0)\/ (r= .inr (t,(i:Int))/\ ∀k,k<i->t.getD k 0≠t.getD i 0):=by
 refine bg i (fun k s=>s=(t,(i:Int),(k:Int))/\ ∀j,j<k->t.getD j 0≠t.getD i 0) _ (fun k s hk hj=> ?_) (fun s hj=> ?_) ⟨rfl,fun j hj=>absurd hj (Nat.not_lt_zero _)⟩
 ·obtain ⟨rfl,hA⟩:=hj
  refine ⟨?_,?_⟩
  ·unfold mg
   intro _
   dsimp only
   rw [Int.toNat_natCast,Int.toNat_natCast]
   exact ⟨⟨by omega,by omega⟩,hi,hi,⟨by omega,by omega⟩,by omega,by omega⟩
  ·unfold iO
   dsimp only
   rw [if_pos (by omega),Int.toNat_natCast,Int.toNat_natCast]
   by_cases c:t.getD k 0=t.getD i 0
   ·rw [if_pos (by rw [c];exact beq_self_eq_true _)]
    exact .inr ⟨_,rfl,.inl ⟨rfl,fun q=>q k hk c⟩⟩
   ·rw [if_neg (fun q=>c (eq_of_beq q).symm)]
    refine .inl ⟨_,rfl,by rw [lO hk (by omega)],fun j hj=> ?_⟩
    rcases Nat.lt_or_ge j k with h1|h1
    ·exact hA j h1
    ·have:j=k:=by omega
     subst this;exact c
 ·obtain ⟨rfl,hA⟩:=hj
  refine ⟨?_,_,?_,.inr ⟨rfl,hA⟩⟩
  ·unfold mg
   intro q
   dsimp only at q;omega
  ·unfold iO
   dsimp only
   rw [if_neg (by omega)]
theorem aeJ (l:M0) (t:List Int) (ht:t.length<4611686018427387904):
  TR (iN l) (qL l) (t,0) fun r=>(r= .inl ()/\ ¬t.Nodup)\/ (r= .inr ()/\ t.Nodup):=by
 refine bg t.length (fun i s=>s=(t,(i:Int))/\ Unl t i) _ (fun i s hi hj=> ?_) (fun s hj=> ?_) ⟨rfl,fun a ha=>absurd ha (Nat.not_lt_zero _)⟩
 ·obtain ⟨rfl,hU⟩:=hj
  have hin:=ahz l t hi ht
  refine ⟨fun _=>hin.1,?_⟩
  unfold iN aq
  dsimp only
  rw [if_pos (by omega)]
  rcases hin.2 with ⟨e,hn⟩|⟨e,hy⟩
  ·rw [e]
   exact .inr ⟨_,rfl,.inl ⟨rfl,fun q=>hn ((QD t).2 q i hi)⟩⟩
  ·rw [e]
   refine .inl ⟨(t,((i+1:Nat):Int)),?_,rfl,fun a ha=> ?_⟩
   ·dsimp only [Sum.elim_inr];rw [lO hi ht]
   ·rcases Nat.lt_or_ge a i with h1|h1
    ·exact hU a h1
    ·have:a=i:=by omega
     subst this;exact hy
 ·obtain ⟨rfl,hU⟩:=hj
  refine ⟨?_,_,?_,.inr ⟨rfl,(QD t).1 hU⟩⟩
  ·unfold qL
   intro q
   dsimp only at q;omega
  ·unfold iN
   dsimp only
   rw [if_neg (by omega)]
theorem Ft {l:M0} (h: ∀p∈l,fI p):(eO l).length<=500*l.length:=by
 induction l with
 |nil=>simp [eO]
 |cons p l ih=>
  have h1:=(h p (by simp)).len
  have h2:=ih fun p hp=>h p (by simp [hp])
  have e:eO (p::l)=p.1++eO l:=rfl
  rw [e,List.length_append,List.length_cons];omega
theorem UA (l:M0) (hl:l.length<=1000):so l/\ (Ae l=true↔Rgt l):=by
 have key:TR (dW l) (jF l) ([],0) fun r=>(r= .inl ()/\ ¬ ∀p∈l,fI p)\/ (r= .inr (eO l)/\ ∀p∈l,fI p):=by
  refine bg l.length (fun i st=>st=(eO (l.take i),(i:Int))/\ ∀p∈l.take i,fI p) _ (fun i st hi hj=> ?_) (fun st hj=> ?_) ⟨rfl,fun p hp=>(by simp at hp)⟩
  ·obtain ⟨rfl,hA⟩:=hj
   have hmem:l.getD i zP∈l:=cq hi _
   obtain ⟨q1,q2⟩:=O3 (l.getD i zP)
   obtain ⟨f1,f2⟩:=nJ (l.getD i zP)
   have hts:=Ft hA
   rw [List.length_take] at hts
   cases hf:VO (l.getD i zP) with
   |false=>
    rw [hf] at q2
    have q2:DM (l.getD i ([],[],(0:Int),(0:Int)))=false:=q2
    refine ⟨?_,.inr ⟨.inl (),?_,.inl ⟨rfl,fun q=> ?_⟩⟩⟩
    ·unfold jF az
     intro _
     dsimp only
     rw [Int.toNat_natCast,q2]
     exact ⟨⟨by omega,by omega⟩,hi,hi,q1,fun q=>absurd rfl q⟩
    ·unfold dW aq
     dsimp only
     rw [if_pos (by omega),Int.toNat_natCast,q2,if_pos (by decide)]
    ·have:=f2.2 (q _ hmem);rw [hf] at this;cases this
   |true=>
    have hp:=f2.1 hf
    have aoy:=hp.len
    rw [hf] at q2
    have q2:DM (l.getD i ([],[],(0:Int),(0:Int)))=true:=q2
    refine ⟨?_,.inl ⟨_,?_,rfl,fun p m6=> ?_⟩⟩
    ·unfold jF az
     intro _
     dsimp only
     rw [Int.toNat_natCast]
     exact ⟨⟨by omega,by omega⟩,hi,hi,q1,fun _=>⟨⟨by omega,by omega⟩,hi,hi,hi,(show (eO (l.take i)).length+(l.getD i zP).1.length<1099511627776 by omega)⟩⟩
    ·unfold dW aq
     dsimp only
     rw [if_pos (by omega),Int.toNat_natCast,q2,if_neg (by decide),lO hi (by omega),eV hi zP,nD]
    ·rw [eV hi zP] at m6
     rcases List.mem_append.1 m6 with h|h
     ·exact hA p h
     ·simp only [List.mem_singleton] at h
      subst h;exact hp
  ·obtain ⟨rfl,hA⟩:=hj
   rw [List.take_length] at hA
   refine ⟨?_,_,?_,.inr ⟨rfl,hA⟩⟩
   ·unfold jF
    intro q
    dsimp only at q;omega
   ·unfold dW
    dsimp only
    rw [if_neg (by omega),List.take_length]
 unfold so Ae az aq
 rcases key.2 with ⟨e,hn⟩|⟨e,hy⟩
 ·rw [e]
  exact ⟨⟨key.1,trivial⟩,fun q=>(by cases q),fun q=>absurd q.all hn⟩
 ·rw [e]
  have hts:=Ft hy
  have k2:=aeJ l (eO l) (by omega)
  refine ⟨⟨key.1,k2.1⟩,?_⟩
  dsimp only [Sum.elim_inr]
  rcases k2.2 with ⟨e2,hn⟩|⟨e2,hN⟩
  ·rw [e2];exact ⟨fun q=>(by cases q),fun q=>absurd q.once hn⟩
  ·rw [e2];exact ⟨fun _=>⟨hy,hN⟩,fun _=>rfl⟩
end Go.Proofs.YtfgdjlhilladhaaGreat
