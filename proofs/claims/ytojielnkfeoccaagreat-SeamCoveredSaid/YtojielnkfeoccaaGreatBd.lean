/- Plain laws: rows of patches: right, in order. -/
import Derived.Test.YtojielnkfeoccaaGreatAe
import Derived.Test.YtojielnkfeoccaaGreatQa
import Derived.Test.YtojielnkfeoccaaGreatBb
noncomputable section
set_option linter.unusedSectionVars false
set_option linter.unusedVariables false
set_option linter.unusedSimpArgs false
namespace Go.Proofs.YtojielnkfeoccaaGreat
open Go Go.Ev Go.Proofs
abbrev zP:U7:=([],[],0,0)
def Num (w h pad:Int):Prop:=uc w/\ uc h/\ 1<=pad/\ pad<=8
theorem Ib (w h pad:Int):pV (w,h,pad)=true↔Num w h pad:=by
 unfold pV
 dsimp only
 have m1:=da w h
 have m2:=da (aO w h) pad
 have m3:=cZ w h
 unfold Num uc
 by_cases c1:aO (aO w h) pad>=1
 ·rw [if_pos c1]
  by_cases c2:aS w h<=256
  ·rw [if_pos c2,decide_eq_true_eq];omega
  ·rw [if_neg c2];exact ⟨fun q=>(by cases q),fun q=>absurd q (by omega)⟩
 ·rw [if_neg c1];exact ⟨fun q=>(by cases q),fun q=>absurd q (by omega)⟩
def ud (m:List (Int×Bool)) (s:List Int):Prop:= ∀x:Int,aU (k:=yi) m x false=true↔x∈s
theorem ud.nil:ud [] []:=fun x=>by simp [aU,eI]
theorem ud.put {m:List (Int×Bool)} {s:List Int} (h:ud m s) (x:Int):ud (bU (k:=yi) m x true) (s++ [x]):=by
 have key: ∀(m:List (Int×Bool)) (y:Int),aU (k:=yi) (bU (k:=yi) m x true) y false=if y=x then true else aU (k:=yi) m y false:=by
  intro m
  induction m with
  |nil=>
   intro y
   by_cases e:y=x
   ·subst e;simp [bU,aU,eI,iQ]
   ·simp only [bU,aU,eI,iQ]
    rw [show (y==x)=false from by simp [e],if_neg e]
  |cons p r ih=>
   intro y
   simp only [bU]
   by_cases e1:x=p.1
   ·have:iQ yi x p.1=true:=by simp [iQ,e1]
    rw [this]
    by_cases e:y=x
    ·subst e;simp [aU,eI,iQ]
    ·simp only [aU,eI,iQ]
     rw [show (y==x)=false from by simp [e],show (y==p.1)=false from by simp [<- e1,e],if_neg e]
   ·have:iQ yi x p.1=false:=by simp [iQ,e1]
    rw [this]
    by_cases e2:y=p.1
    ·have e: ¬y=x:=by omega
     simp [aU,eI,iQ,e2,show¬p.1=x by omega]
    ·have:=ih y
     simp only [aU,eI,iQ] at this ⊢
     rw [show ((y==p.1)=false) from by simp [e2]]
     exact this
 intro y
 rw [key]
 by_cases e:y=x
 ·simp [e]
 ·rw [if_neg e,h y];simp [e]
abbrev Ls:Type:=List U7
def lI (l:Ls):List Int:=l.flatMap Prod.fst
structure Vr (l:Ls):Prop where
 all: ∀p∈l,jP p
 once:(lI l).Nodup
theorem tU (l:Ls) (p:U7):lI (l++ [p])=lI l++p.1:=by simp [lI]
theorem Uk (l:Ls) (m:List (Int×Bool)) (s:List Int) (hm:ud m s) (hs:s.Nodup) (t:List Int) (ht:t.length<4611686018427387904) (z:Int):
  TR (fZ l) (lB l) (m,z,t,(t.length:Int),0) fun r=>(r= .inl ()/\ ¬(s++t).Nodup)\/ (∃m',r= .inr (m',z)/\ ud m' (s++t)/\ (s++t).Nodup):=by
 refine dj t.length (fun i st=> ∃m',st=(m',z,t,(t.length:Int),(i:Int))/\ ud m' (s++t.take i)/\ (s++t.take i).Nodup) _ (fun i st hi hj=> ?_) (fun st hj=> ?_) ⟨m,rfl,by simpa using hm,by simpa using hs⟩
 ·obtain ⟨m',rfl,hM,hN⟩:=hj
  have hsn:s++t.take (i+1)=(s++t.take i)++ [t.getD i 0]:=by rw [iU hi 0,List.append_assoc]
  refine ⟨?_,?_⟩
  ·unfold lB
   intro _
   dsimp only
   rw [Int.toNat_natCast]
   omega
  ·unfold fZ au
   dsimp only
   rw [if_pos (by omega),Int.toNat_natCast]
   by_cases hc:aU (k:=yi) m' (t.getD i 0) false=true
   ·rw [if_pos hc]
    refine .inr ⟨_,rfl,.inl ⟨rfl,fun ur=> ?_⟩⟩
    have hmem:=(hM _).1 hc
    have:t=t.take i++(t.getD i 0::t.drop (i+1)):=by
     have:=List.take_append_drop i t
     rw [List.drop_eq_getElem_cons hi] at this
     rw [List.getD_eq_getElem?_getD,List.getElem?_eq_getElem hi]
     exact this.symm
    rw [this,<- List.append_assoc] at ur
    have:=(List.nodup_append.1 ur).2.2 _ hmem _ (List.mem_cons_self ..)
    exact this rfl
   ·rw [if_neg hc]
    refine .inl ⟨_,rfl,_,by rw [Jh hi ht],?_⟩
    ·rw [hsn]
     refine ⟨hM.put _,?_⟩
     rw [List.nodup_append]
     refine ⟨hN,by simp,fun a ha b hb=> ?_⟩
     simp only [List.mem_singleton] at hb
     subst hb
     intro e
     subst e
     exact hc ((hM _).2 ha)
 ·obtain ⟨m',rfl,hM,hN⟩:=hj
  rw [List.take_length] at hM hN
  refine ⟨?_,_,?_,.inr ⟨m',rfl,hM,hN⟩⟩
  ·unfold lB
   intro q
   dsimp only at q;omega
  ·unfold fZ
   dsimp only
   rw [if_neg (by omega)]
theorem Q3 (l:Ls) (hl:l.length<4611686018427387904):vC l/\ (zJ l=true↔Vr l):=by
 have key:TR (eX l) (jd l) ([],0) fun r=>(r= .inl ()/\ ¬Vr l)\/ (r= .inr ()/\ Vr l):=by
  refine dj l.length (fun i st=> ∃m,st=(m,(i:Int))/\ ud m (lI (l.take i))/\ Vr (l.take i)) _ (fun i st hi hj=> ?_) (fun st hj=> ?_) ⟨[],rfl,ud.nil,⟨by simp,by simp [lI]⟩⟩
  ·obtain ⟨m,rfl,hM,hR⟩:=hj
   have hmem:l.getD i zP∈l:=fc hi _
   have hsn:=iU hi zP
   have htr:lI (l.take (i+1))=lI (l.take i)++(l.getD i zP).1:=by rw [hsn,tU]
   have hsub: ∀ {P:Prop},(Vr l->P)->Vr l->P:=fun h=>h
   obtain ⟨f1,f2⟩:=wN (l.getD i zP)
   cases hf:Rn (l.getD i zP) with
   |false=>
    refine ⟨?_,.inr ⟨.inl (),?_,.inl ⟨rfl,fun q=> ?_⟩⟩⟩
    ·unfold jd aM
     intro _
     dsimp only
     rw [Int.toNat_natCast]
     exact ⟨by omega,hi,hi,f1,fun q=>absurd (by rw [show Rn (l.getD i ([],[],0,0))=false from hf];rfl) q⟩
    ·unfold eX au
     dsimp only
     rw [if_pos (by omega),Int.toNat_natCast,show Rn (l.getD i ([],[],0,0))=false from hf]
     rfl
    ·have:=f2.2 (q.all _ hmem);rw [hf] at this;cases this
   |true=>
    have hp:=f2.1 hf
    have hlen:(l.getD i zP).1.length<4611686018427387904:=by have:=hp.len;omega
    have hin:=Uk l m _ hM hR.once (l.getD i zP).1 hlen (i:Int)
    refine ⟨?_,?_⟩
    ·unfold jd aM
     intro _
     dsimp only
     rw [Int.toNat_natCast]
     exact ⟨by omega,hi,hi,f1,fun q=>hin.1⟩
    ·have hst:eX l (m,(i:Int))=Sum.elim (fun a=>(Sum.inr (Sum.inl ()))) (fun b=>(Sum.inl (b.1,(aj (b.2+(1:Int)))))) (run (fZ l) (m,(i:Int),(l.getD i zP).1,(((l.getD i zP).1.length:Nat):Int),0)):=by
      unfold eX au
      dsimp only
      rw [if_pos (by omega),Int.toNat_natCast,show Rn (l.getD i ([],[],0,0))=true from hf]
      rfl
     rcases hin.2 with ⟨e,hn⟩|⟨m',e,hM',hN⟩
     ·rw [hst,e]
      refine .inr ⟨_,rfl,.inl ⟨rfl,fun q=>hn ?_⟩⟩
      rw [<- htr]
      have:lI l=lI (l.take (i+1))++lI (l.drop (i+1)):=by
       unfold lI;rw [<- List.flatMap_append,List.take_append_drop]
      have h2:=q.once
      rw [this] at h2
      exact (List.nodup_append.1 h2).1
     ·rw [hst,e]
      refine .inl ⟨_,rfl,m',?_,by rw [htr];exact hM',⟨fun p gN=> ?_,by rw [htr];exact hN⟩⟩
      ·dsimp only;rw [Jh hi hl]
      ·rw [hsn] at gN
       rcases List.mem_append.1 gN with h|h
       ·exact hR.all p h
       ·simp only [List.mem_singleton] at h
        subst h;exact hp
  ·obtain ⟨m,rfl,hM,hR⟩:=hj
   rw [List.take_length] at hR
   refine ⟨?_,.inr (),?_,.inr ⟨rfl,hR⟩⟩
   ·unfold jd
    intro q
    dsimp only at q;omega
   ·unfold eX
    dsimp only
    rw [if_neg (by omega)]
 refine ⟨key.1,?_⟩
 unfold zJ au
 rcases key.2 with ⟨e,hn⟩|⟨e,hy⟩
 ·rw [e];exact ⟨fun q=>(by cases q),fun q=>absurd q hn⟩
 ·rw [e];exact ⟨fun _=>hy,fun _=>rfl⟩
end Go.Proofs.YtojielnkfeoccaaGreat
namespace Go.Proofs.YtojielnkfeoccaaGreat
open Go Go.Ev Go.Proofs
abbrev Cd:Type:=Int×(Int×Int×Ls×List G5)
def Nj (p:U7) (pad:Int):Int×Int:=(p.2.2.1+2*pad,p.2.2.2+2*pad)
theorem XP (n:Int):0<=Sz n/\ Sz n<=257:=by unfold Sz;split<;>(try split)<;>omega
theorem jP.X5 {p:U7} (h:jP p):(0<=p.2.2.1/\ p.2.2.1<=257)/\ 0<=p.2.2.2/\ p.2.2.2<=257:=by
 rw [h.w,h.h];exact ⟨XP _,XP _⟩
theorem Rb {p:U7} (h:jP p) {pad:Int} (hp:1<=pad/\ pad<=8):KE (p,pad)=Nj p pad:=by
 have:=h.X5
 unfold KE Nj
 dsimp only
 rw [bf (n:=2*pad) (by omega) (by omega),bf (n:=p.2.2.1+2*pad) (by omega) (by omega),bf (n:=p.2.2.2+2*pad) (by omega) (by omega)]
structure lG (a:Cd):Prop where
 num:Num a.1 a.2.1 a.2.2.1
 len:a.2.2.2.2.length=a.2.2.2.1.length
 XM:Vr a.2.2.2.1
 Nj: ∀i,i<a.2.2.2.1.length->(a.2.2.2.2.getD i zR).2.2=Nj (a.2.2.2.1.getD i zP) a.2.2.1
 sh:RB a.1 a.2.1 a.2.2.2.2
theorem YP (a:Cd) (hl:a.2.2.2.1.length<1099511627776) (zo:a.2.2.2.2.length<1099511627776):BW a/\ (ZL a=true↔lG a):=by
 obtain ⟨w,h,pad,l,R⟩:=a
 dsimp only at hl zo
 have n1:=Ib w h pad
 obtain ⟨r1,r2⟩:=Q3 l (by omega)
 unfold BW ZL aM au
 dsimp only
 cases hn:pV (w,h,pad) with
 |false=>
  refine ⟨fun q=>absurd rfl q,fun q=>(by cases q),fun q=> ?_⟩
  rw [n1.2 q.num] at hn;cases hn
 |true=>
  have hN:=n1.1 hn
  obtain ⟨hw,hh,hp⟩:=hN
  by_cases hlen:R.length=l.length
  rotate_left
  ·have hb:(((R.length:Nat):Int) !=((l.length:Nat):Int))=true:=by simp;omega
   refine ⟨fun _ q=>absurd hb q,?_⟩
   rw [if_neg (by decide),if_pos hb]
   exact ⟨fun q=>(by cases q),fun q=>absurd q.len hlen⟩
  have hb: ¬(((R.length:Nat):Int) !=((l.length:Nat):Int))=true:=by simp;omega
  rw [if_neg (by decide),if_neg hb]
  cases hr:zJ l with
  |false=>
   refine ⟨fun _ _=>⟨r1,fun q=>absurd rfl q⟩,fun q=>(by cases q),fun q=> ?_⟩
   rw [r2.2 q.XM] at hr;cases hr
  |true=>
   have hR:=r2.1 hr
   have key:TR (jC (w,h,pad,l,R)) (qv (w,h,pad,l,R)) 0 fun r=>(r= .inl ()/\ ¬ ∀i,i<l.length->(R.getD i zR).2.2=Go.Proofs.YtojielnkfeoccaaGreat.Nj (l.getD i zP) pad)\/ (r= .inr ()/\ ∀i,i<l.length->(R.getD i zR).2.2=Go.Proofs.YtojielnkfeoccaaGreat.Nj (l.getD i zP) pad):=by
    refine dj l.length (fun i s=>s=(i:Int)/\ ∀j,j<i->(R.getD j zR).2.2=Go.Proofs.YtojielnkfeoccaaGreat.Nj (l.getD j zP) pad) _ (fun i s hi hj=> ?_) (fun s hj=> ?_) ⟨rfl,fun j hj=>absurd hj (Nat.not_lt_zero _)⟩
    ·obtain ⟨rfl,hJ⟩:=hj
     have hq:=Rb (hR.all _ (fc hi zP)) hp
     refine ⟨?_,?_⟩
     ·unfold qv
      intro _
      dsimp only
      rw [Int.toNat_natCast]
      omega
     ·unfold jC au
      dsimp only
      rw [if_pos (by omega),Int.toNat_natCast,show KE (l.getD i ([],[],0,0),pad)=_ from hq]
      by_cases c:(R.getD i zR).2.2=Go.Proofs.YtojielnkfeoccaaGreat.Nj (l.getD i zP) pad
      ·refine .inl ⟨_,?_,Jh hi (by omega),fun j hj=> ?_⟩
       ·rw [if_neg]
        rw [show (R.getD i (0,0,0,0)).2.2.1=_ from congrArg Prod.fst c,show (R.getD i (0,0,0,0)).2.2.2=_ from congrArg Prod.snd c]
        simp
       ·rcases Nat.lt_or_ge j i with h1|h1
        ·exact hJ j h1
        ·have:j=i:=by omega
         subst this;exact c
      ·refine .inr ⟨.inl (),?_,.inl ⟨rfl,fun q=>c (q i hi)⟩⟩
       rw [if_pos]
       have: ¬((R.getD i zR).2.2.1=(Go.Proofs.YtojielnkfeoccaaGreat.Nj (l.getD i zP) pad).1/\ (R.getD i zR).2.2.2=(Go.Proofs.YtojielnkfeoccaaGreat.Nj (l.getD i zP) pad).2):=fun q=>c (Prod.ext q.1 q.2)
       show (!(((R.getD i zR).2.2.1==(Go.Proofs.YtojielnkfeoccaaGreat.Nj (l.getD i zP) pad).1)&&(((R.getD i zR).2.2.2==(Go.Proofs.YtojielnkfeoccaaGreat.Nj (l.getD i zP) pad).2)&&true)))=true
       generalize (R.getD i zR).2.2=u at this ⊢
       generalize Go.Proofs.YtojielnkfeoccaaGreat.Nj (l.getD i zP) pad=v at this ⊢
       cases hb:((u.1==v.1)&&((u.2==v.2)&&true)) with
       |false=>rfl
       |true=>
        simp only [Bool.and_eq_true,beq_iff_eq,and_true] at hb
        exact absurd hb this
    ·obtain ⟨rfl,hJ⟩:=hj
     refine ⟨?_,.inr (),?_,.inr ⟨rfl,hJ⟩⟩
     ·unfold qv
      intro q
      dsimp only at q;omega
     ·unfold jC
      dsimp only
      rw [if_neg (by omega)]
   have k1:=key.1
   rw [if_neg (by decide)]
   obtain ⟨s1,s2⟩:=Uz hw hh R (by omega)
   rcases key.2 with ⟨e,hS⟩|⟨e,hS⟩
   ·rw [e]
    exact ⟨fun _ _=>⟨r1,fun _=>⟨k1,trivial⟩⟩,fun q=>(by cases q),fun q=>absurd q.Nj hS⟩
   ·rw [e]
    refine ⟨fun _ _=>⟨r1,fun _=>⟨k1,s1⟩⟩,?_⟩
    show Uy (w,h,R)=true↔_
    rw [s2]
    exact ⟨fun q=>⟨⟨hw,hh,hp⟩,hlen,hR,hS,q⟩,fun q=>q.sh⟩
end Go.Proofs.YtojielnkfeoccaaGreat
