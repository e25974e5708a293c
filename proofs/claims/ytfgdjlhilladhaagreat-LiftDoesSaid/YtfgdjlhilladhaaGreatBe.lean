/- Plain laws: rows of patches: right, in order. -/
import Derived.Test.YtfgdjlhilladhaaGreatAe
import Derived.Test.YtfgdjlhilladhaaGreatQa
import Derived.Test.YtfgdjlhilladhaaGreatHn
noncomputable section
set_option linter.unusedSectionVars false
set_option linter.unusedVariables false
set_option linter.unusedSimpArgs false
namespace Go.Proofs.YtfgdjlhilladhaaGreat
open Go Go.Ev Go.Proofs
abbrev zP:SX:=([],[],0,0)
def Num (w h pad:Int):Prop:=pM w/\ pM h/\ 1<=pad/\ pad<=8
theorem RE (w h pad:Int):tX (w,h,pad)=true↔Num w h pad:=by
 unfold tX
 dsimp only
 have m1:=gA w h
 have m2:=gA (aG w h) pad
 have m3:=fN w h
 unfold Num pM
 by_cases c1:aG (aG w h) pad>=1
 ·rw [if_pos c1]
  by_cases c2:aI w h<=256
  ·rw [if_pos c2,decide_eq_true_eq];omega
  ·rw [if_neg c2];exact ⟨fun q=>(by cases q),fun q=>absurd q (by omega)⟩
 ·rw [if_neg c1];exact ⟨fun q=>(by cases q),fun q=>absurd q (by omega)⟩
def AK (m:List (Int×Bool)) (s:List Int):Prop:= ∀x:Int,mX (k:=yi) m x false=true↔x∈s
theorem AK.nil:AK [] []:=fun x=>by simp [mX,rT]
theorem AK.put {m:List (Int×Bool)} {s:List Int} (h:AK m s) (x:Int):AK (AF (k:=yi) m x true) (s++ [x]):=by
 have key: ∀(m:List (Int×Bool)) (y:Int),mX (k:=yi) (AF (k:=yi) m x true) y false=if y=x then true else mX (k:=yi) m y false:=by
  intro m
  induction m with
  |nil=>
   intro y
   by_cases e:y=x
   ·subst e;simp [AF,mX,rT,BS]
   ·simp only [AF,mX,rT,BS]
    rw [show (y==x)=false from by simp [e],if_neg e]
  |cons p r ih=>
   intro y
   simp only [AF]
   by_cases e1:x=p.1
   ·have:BS yi x p.1=true:=by simp [BS,e1]
    rw [this]
    by_cases e:y=x
    ·subst e;simp [mX,rT,BS]
    ·simp only [mX,rT,BS]
     rw [show (y==x)=false from by simp [e],show (y==p.1)=false from by simp [<- e1,e],if_neg e]
   ·have:BS yi x p.1=false:=by simp [BS,e1]
    rw [this]
    by_cases e2:y=p.1
    ·have e: ¬y=x:=by omega
     simp [mX,rT,BS,e2,show¬p.1=x by omega]
    ·have:=ih y
     simp only [mX,rT,BS] at this ⊢
     rw [show ((y==p.1)=false) from by simp [e2]]
     exact this
 intro y
 rw [key]
 by_cases e:y=x
 ·simp [e]
 ·rw [if_neg e,h y];simp [e]
abbrev M0:Type:=List SX
def eO (l:M0):List Int:=l.flatMap Prod.fst
structure Rgt (l:M0):Prop where
 all: ∀p∈l,fI p
 once:(eO l).Nodup
theorem nD (l:M0) (p:SX):eO (l++ [p])=eO l++p.1:=by simp [eO]
theorem afv (l:M0) (m:List (Int×Bool)) (s:List Int) (hm:AK m s) (hs:s.Nodup) (t:List Int) (ht:t.length<4611686018427387904) (z:Int):
  TR (ie l) (n9 l) (m,z,t,(t.length:Int),0) fun r=>(r= .inl ()/\ ¬(s++t).Nodup)\/ (∃m',r= .inr (m',z)/\ AK m' (s++t)/\ (s++t).Nodup):=by
 refine bg t.length (fun i st=> ∃m',st=(m',z,t,(t.length:Int),(i:Int))/\ AK m' (s++t.take i)/\ (s++t.take i).Nodup) _ (fun i st hi hj=> ?_) (fun st hj=> ?_) ⟨m,rfl,by simpa using hm,by simpa using hs⟩
 ·obtain ⟨m',rfl,hM,hN⟩:=hj
  have hsn:s++t.take (i+1)=(s++t.take i)++ [t.getD i 0]:=by rw [eV hi 0,List.append_assoc]
  refine ⟨?_,?_⟩
  ·unfold n9
   intro _
   dsimp only
   rw [Int.toNat_natCast]
   omega
  ·unfold ie aq
   dsimp only
   rw [if_pos (by omega),Int.toNat_natCast]
   by_cases hc:mX (k:=yi) m' (t.getD i 0) false=true
   ·rw [if_pos hc]
    refine .inr ⟨_,rfl,.inl ⟨rfl,fun Tt=> ?_⟩⟩
    have hmem:=(hM _).1 hc
    have:t=t.take i++(t.getD i 0::t.drop (i+1)):=by
     have:=List.take_append_drop i t
     rw [List.drop_eq_getElem_cons hi] at this
     rw [List.getD_eq_getElem?_getD,List.getElem?_eq_getElem hi]
     exact this.symm
    rw [this,<- List.append_assoc] at Tt
    have:=(List.nodup_append.1 Tt).2.2 _ hmem _ (List.mem_cons_self ..)
    exact this rfl
   ·rw [if_neg hc]
    refine .inl ⟨_,rfl,_,by rw [lO hi ht],?_⟩
    ·rw [hsn]
     refine ⟨hM.put _,?_⟩
     rw [List.nodup_append]
     refine ⟨hN,by simp,fun a ha b hb=> ?_⟩
     simp only [List.mem_singleton] at hb
     subst hb
     intro e
     subst e
     exact hc ((hM _).2 ha)
 ·obtain ⟨m',rfl,hM,hN⟩:=hj
  rw [List.take_length] at hM hN
  refine ⟨?_,_,?_,.inr ⟨m',rfl,hM,hN⟩⟩
  ·unfold n9
   intro q
   dsimp only at q;omega
  ·unfold ie
   dsimp only
   rw [if_neg (by omega)]
theorem acm (l:M0) (hl:l.length<4611686018427387904):Cg l/\ (Gw l=true↔Rgt l):=by
 have key:TR (fe l) (kA l) ([],0) fun r=>(r= .inl ()/\ ¬Rgt l)\/ (r= .inr ()/\ Rgt l):=by
  refine bg l.length (fun i st=> ∃m,st=(m,(i:Int))/\ AK m (eO (l.take i))/\ Rgt (l.take i)) _ (fun i st hi hj=> ?_) (fun st hj=> ?_) ⟨[],rfl,AK.nil,⟨by simp,by simp [eO]⟩⟩
  ·obtain ⟨m,rfl,hM,hR⟩:=hj
   have hmem:l.getD i zP∈l:=cq hi _
   have hsn:=eV hi zP
   have htr:eO (l.take (i+1))=eO (l.take i)++(l.getD i zP).1:=by rw [hsn,nD]
   have hsub: ∀ {P:Prop},(Rgt l->P)->Rgt l->P:=fun h=>h
   obtain ⟨f1,f2⟩:=nJ (l.getD i zP)
   cases hf:VO (l.getD i zP) with
   |false=>
    refine ⟨?_,.inr ⟨.inl (),?_,.inl ⟨rfl,fun q=> ?_⟩⟩⟩
    ·unfold kA az
     intro _
     dsimp only
     rw [Int.toNat_natCast]
     exact ⟨by omega,hi,hi,f1,fun q=>absurd (by rw [show VO (l.getD i ([],[],0,0))=false from hf];rfl) q⟩
    ·unfold fe aq
     dsimp only
     rw [if_pos (by omega),Int.toNat_natCast,show VO (l.getD i ([],[],0,0))=false from hf]
     rfl
    ·have:=f2.2 (q.all _ hmem);rw [hf] at this;cases this
   |true=>
    have hp:=f2.1 hf
    have hlen:(l.getD i zP).1.length<4611686018427387904:=by have:=hp.len;omega
    have hin:=afv l m _ hM hR.once (l.getD i zP).1 hlen (i:Int)
    refine ⟨?_,?_⟩
    ·unfold kA az
     intro _
     dsimp only
     rw [Int.toNat_natCast]
     exact ⟨by omega,hi,hi,f1,fun q=>hin.1⟩
    ·have hst:fe l (m,(i:Int))=Sum.elim (fun a=>(Sum.inr (Sum.inl ()))) (fun b=>(Sum.inl (b.1,(aj (b.2+(1:Int)))))) (run (ie l) (m,(i:Int),(l.getD i zP).1,(((l.getD i zP).1.length:Nat):Int),0)):=by
      unfold fe aq
      dsimp only
      rw [if_pos (by omega),Int.toNat_natCast,show VO (l.getD i ([],[],0,0))=true from hf]
      rfl
     rcases hin.2 with ⟨e,hn⟩|⟨m',e,hM',hN⟩
     ·rw [hst,e]
      refine .inr ⟨_,rfl,.inl ⟨rfl,fun q=>hn ?_⟩⟩
      rw [<- htr]
      have:eO l=eO (l.take (i+1))++eO (l.drop (i+1)):=by
       unfold eO;rw [<- List.flatMap_append,List.take_append_drop]
      have h2:=q.once
      rw [this] at h2
      exact (List.nodup_append.1 h2).1
     ·rw [hst,e]
      refine .inl ⟨_,rfl,m',?_,by rw [htr];exact hM',⟨fun p m6=> ?_,by rw [htr];exact hN⟩⟩
      ·dsimp only;rw [lO hi hl]
      ·rw [hsn] at m6
       rcases List.mem_append.1 m6 with h|h
       ·exact hR.all p h
       ·simp only [List.mem_singleton] at h
        subst h;exact hp
  ·obtain ⟨m,rfl,hM,hR⟩:=hj
   rw [List.take_length] at hR
   refine ⟨?_,.inr (),?_,.inr ⟨rfl,hR⟩⟩
   ·unfold kA
    intro q
    dsimp only at q;omega
   ·unfold fe
    dsimp only
    rw [if_neg (by omega)]
 refine ⟨key.1,?_⟩
 unfold Gw aq
 rcases key.2 with ⟨e,hn⟩|⟨e,hy⟩
 ·rw [e];exact ⟨fun q=>(by cases q),fun q=>absurd q hn⟩
 ·rw [e];exact ⟨fun _=>hy,fun _=>rfl⟩
end Go.Proofs.YtfgdjlhilladhaaGreat
namespace Go.Proofs.YtfgdjlhilladhaaGreat
open Go Go.Ev Go.Proofs
abbrev GR:Type:=Int×(Int×Int×M0×List JI)
def JB (p:SX) (pad:Int):Int×Int:=(p.2.2.1+2*pad,p.2.2.2+2*pad)
theorem aiR (n:Int):0<=Sz n/\ Sz n<=257:=by unfold Sz;split<;>(try split)<;>omega
theorem fI.ai9 {p:SX} (h:fI p):(0<=p.2.2.1/\ p.2.2.1<=257)/\ 0<=p.2.2.2/\ p.2.2.2<=257:=by
 rw [h.w,h.h];exact ⟨aiR _,aiR _⟩
theorem acv {p:SX} (h:fI p) {pad:Int} (hp:1<=pad/\ pad<=8):U5 (p,pad)=JB p pad:=by
 have:=h.ai9
 unfold U5 JB
 dsimp only
 rw [ay (n:=2*pad) (by omega) (by omega),ay (n:=p.2.2.1+2*pad) (by omega) (by omega),ay (n:=p.2.2.2+2*pad) (by omega) (by omega)]
structure qt (a:GR):Prop where
 num:Num a.1 a.2.1 a.2.2.1
 len:a.2.2.2.2.length=a.2.2.2.1.length
 rgt:Rgt a.2.2.2.1
 JB: ∀i,i<a.2.2.2.1.length->(a.2.2.2.2.getD i zR).2.2=JB (a.2.2.2.1.getD i zP) a.2.2.1
 sh:QH a.1 a.2.1 a.2.2.2.2
theorem ajF (a:GR) (hl:a.2.2.2.1.length<1099511627776) (FC:a.2.2.2.2.length<1099511627776):Jh a/\ (isM a=true↔qt a):=by
 obtain ⟨w,h,pad,l,R⟩:=a
 dsimp only at hl FC
 have n1:=RE w h pad
 obtain ⟨r1,r2⟩:=acm l (by omega)
 unfold Jh isM az aq
 dsimp only
 cases hn:tX (w,h,pad) with
 |false=>
  refine ⟨fun q=>absurd rfl q,fun q=>(by cases q),fun q=> ?_⟩
  rw [n1.2 q.num] at hn;cases hn
 |true=>
  have hN:=n1.1 hn
  obtain ⟨hw,hh,hp⟩:=hN
  by_cases hlen:R.length=l.length
  rotate_left
  ·have hb:(((R.length:Nat):Int) !=((l.length:Nat):Int))=true:=by simp;omega
   refine ⟨fun _ q=>absurd hb q,?_⟩
   rw [if_neg (by decide),if_pos hb]
   exact ⟨fun q=>(by cases q),fun q=>absurd q.len hlen⟩
  have hb: ¬(((R.length:Nat):Int) !=((l.length:Nat):Int))=true:=by simp;omega
  rw [if_neg (by decide),if_neg hb]
  cases hr:Gw l with
  |false=>
   refine ⟨fun _ _=>⟨r1,fun q=>absurd rfl q⟩,fun q=>(by cases q),fun q=> ?_⟩
   rw [r2.2 q.rgt] at hr;cases hr
  |true=>
   have hR:=r2.1 hr
   have key:TR (lz (w,h,pad,l,R)) (u7 (w,h,pad,l,R)) 0 fun r=>(r= .inl ()/\ ¬ ∀i,i<l.length->(R.getD i zR).2.2=Go.Proofs.YtfgdjlhilladhaaGreat.JB (l.getD i zP) pad)\/ (r= .inr ()/\ ∀i,i<l.length->(R.getD i zR).2.2=Go.Proofs.YtfgdjlhilladhaaGreat.JB (l.getD i zP) pad):=by
    refine bg l.length (fun i s=>s=(i:Int)/\ ∀j,j<i->(R.getD j zR).2.2=Go.Proofs.YtfgdjlhilladhaaGreat.JB (l.getD j zP) pad) _ (fun i s hi hj=> ?_) (fun s hj=> ?_) ⟨rfl,fun j hj=>absurd hj (Nat.not_lt_zero _)⟩
    ·obtain ⟨rfl,hJ⟩:=hj
     have hq:=acv (hR.all _ (cq hi zP)) hp
     refine ⟨?_,?_⟩
     ·unfold u7
      intro _
      dsimp only
      rw [Int.toNat_natCast]
      omega
     ·unfold lz aq
      dsimp only
      rw [if_pos (by omega),Int.toNat_natCast,show U5 (l.getD i ([],[],0,0),pad)=_ from hq]
      by_cases c:(R.getD i zR).2.2=Go.Proofs.YtfgdjlhilladhaaGreat.JB (l.getD i zP) pad
      ·refine .inl ⟨_,?_,lO hi (by omega),fun j hj=> ?_⟩
       ·rw [if_neg]
        rw [show (R.getD i (0,0,0,0)).2.2.1=_ from congrArg Prod.fst c,show (R.getD i (0,0,0,0)).2.2.2=_ from congrArg Prod.snd c]
        simp
       ·rcases Nat.lt_or_ge j i with h1|h1
        ·exact hJ j h1
        ·have:j=i:=by omega
         subst this;exact c
      ·refine .inr ⟨.inl (),?_,.inl ⟨rfl,fun q=>c (q i hi)⟩⟩
       rw [if_pos]
       have: ¬((R.getD i zR).2.2.1=(Go.Proofs.YtfgdjlhilladhaaGreat.JB (l.getD i zP) pad).1/\ (R.getD i zR).2.2.2=(Go.Proofs.YtfgdjlhilladhaaGreat.JB (l.getD i zP) pad).2):=fun q=>c (Prod.ext q.1 q.2)
       show (!(((R.getD i zR).2.2.1==(Go.Proofs.YtfgdjlhilladhaaGreat.JB (l.getD i zP) pad).1)&&(((R.getD i zR).2.2.2==(Go.Proofs.YtfgdjlhilladhaaGreat.JB (l.getD i zP) pad).2)&&true)))=true
       generalize (R.getD i zR).2.2=u at this ⊢
       generalize Go.Proofs.YtfgdjlhilladhaaGreat.JB (l.getD i zP) pad=v at this ⊢
       cases hb:((u.1==v.1)&&((u.2==v.2)&&true)) with
       |false=>rfl
       |true=>
        simp only [Bool.and_eq_true,beq_iff_eq,and_true] at hb
        exact absurd hb this
    ·obtain ⟨rfl,hJ⟩:=hj
     refine ⟨?_,.inr (),?_,.inr ⟨rfl,hJ⟩⟩
     ·unfold u7
      intro q
      dsimp only at q;omega
     ·unfold lz
      dsimp only
      rw [if_neg (by omega)]
   have k1:=key.1
   rw [if_neg (by decide)]
   obtain ⟨s1,s2⟩:=afH hw hh R (by omega)
   rcases key.2 with ⟨e,hS⟩|⟨e,hS⟩
   ·rw [e]
    exact ⟨fun _ _=>⟨r1,fun _=>⟨k1,trivial⟩⟩,fun q=>(by cases q),fun q=>absurd q.JB hS⟩
   ·rw [e]
    refine ⟨fun _ _=>⟨r1,fun _=>⟨k1,s1⟩⟩,?_⟩
    show afG (w,h,R)=true↔_
    rw [s2]
    exact ⟨fun q=>⟨⟨hw,hh,hp⟩,hlen,hR,hS,q⟩,fun q=>q.sh⟩
end Go.Proofs.YtfgdjlhilladhaaGreat
namespace Go.Proofs.YtfgdjlhilladhaaGreat
open Go Go.Ev Go.Proofs
theorem aen {n:Nat} (h:n<4294967296):(BitVec.toNat ((BitVec.ofInt 64 (n:Int))&&&(BitVec.ofInt 64 (4294967295:Int))))=n:=by
 have e1:(BitVec.ofInt 64 (n:Int)).toNat=n:=by
  rw [BitVec.toNat_ofInt];omega
 have e2:(BitVec.ofInt 64 (4294967295:Int)).toNat=2^32- 1:=by decide
 rw [BitVec.toNat_and,e1,e2,Nat.and_two_pow_sub_one_eq_mod]
 omega
theorem ac4 {n:Nat} (h:n<4294967296):S3 (1,(n:Int))=(0,(n:Int)):=by
 have f1:Int.fdiv 1 4294967296=0:=by decide
 have f2:Int.fdiv (n:Int) 4294967296=0:=by rw [Int.fdiv_eq_ediv_of_nonneg _ (by decide)];omega
 have l1:(BitVec.toNat ((BitVec.ofInt 64 (1:Int))&&&(BitVec.ofInt 64 (4294967295:Int))))=1:=aen (n:=1) (by decide)
 have w0:IntKind.wrap IntKind.u64 0=0:=wrap64 (by decide) (by decide)
 have w1':IntKind.wrap IntKind.u64 1=1:=wrap64 (by decide) (by decide)
 have wn:IntKind.wrap IntKind.u64 (n:Int)=(n:Int):=wrap64 (by omega) (by omega)
 have z:(BitVec.toNat ((BitVec.ofInt 64 (0:Int))&&&(BitVec.ofInt 64 (4294967295:Int))))=0:=aen (n:=0) (by decide)
 unfold S3 W0 aq
 dsimp only
 simp only [f1,f2,aen h,l1,Int.zero_mul,Int.mul_zero,Int.one_mul,Int.zero_add,Int.add_zero,w0,wn,z,Int.natCast_zero,Int.natCast_one,w1',show Int.fdiv 0 4294967296=0 from by decide]
def rep (c m:Nat) (i:Int):List Int:=List.replicate c i++List.replicate (m- c) 0
theorem ah1 {c m:Nat} (h:c<=m) (i:Int):(rep c m i).length=m:=by simp only [rep,List.length_append,List.length_replicate];omega
theorem aft {c m:Nat} (h:c<=m) (i:Int):j8 (rep c m i) c (m- c) ((rep c m i).take c)=rep (c+min c (m- c)) m i/\ rH (m- c) ((rep c m i).take c).length=min c (m- c):=by
 have e1:(rep c m i).take c=List.replicate c i:=by simp [rep]
 have e2:rH (m- c) (List.replicate c i).length=min c (m- c):=by unfold rH;rw [List.length_replicate]
 rw [e1,e2]
 refine ⟨?_,rfl⟩
 unfold j8
 rw [e1,e2]
 unfold rep
 rw [List.take_replicate,show min (min c (m- c)) c=min c (m- c) by omega,List.replicate_append_replicate,List.drop_append,List.length_replicate,List.drop_replicate,List.drop_replicate,show c- (c+min c (m- c))=0 by omega]
 simp only [List.replicate_zero,List.nil_append]
 rw [show m- c- (c+min c (m- c)- c)=m- (c+min c (m- c)) by omega]
theorem UZ (x:List Int×Int) (i:Int) (m:Nat) (hm:m<=1000000000): ∀k c,c+k=m->(0<c\/ k=0)->TR (iS x) (mG x) (rep c m i,(c:Int)) fun r=>r=List.replicate m i:=by
 intro k
 induction k using Nat.strongRecOn with
 |ind k ih=>
  intro c hc h0
  have hl:=ah1 (c:=c) (m:=m) (by omega) i
  by_cases hk:k=0
  ·subst hk
   have:c=m:=by omega
   subst this
   refine TR.stop (r:=rep c c i) ?_ ?_ (by simp [rep])
   ·unfold mG
    intro q
    dsimp only at q;rw [hl] at q;omega
   ·unfold iS
    dsimp only
    rw [hl,if_neg (by omega)]
  ·obtain ⟨q1,q2⟩:=aft (c:=c) (m:=m) (by omega) i
   refine TR.go (s':=(rep (c+min c (m- c)) m i,((c+min c (m- c):Nat):Int))) ?_ ?_ (ih (k- min c (m- c)) (by omega) _ (by omega) (by omega))
   ·unfold mG
    intro _
    dsimp only
    rw [hl];omega
   ·unfold iS aq
    dsimp only
    rw [hl,if_pos (by omega),Int.toNat_natCast,Nat.add_zero,q1,q2,ay (by omega) (by omega)]
    congr 2
theorem LI (i:Int) {n:Nat} (hn:n<=1000000000):lM ([i],(n:Int))/\ repeatM ([i],(n:Int))=List.replicate n i:=by
 have e1:IntKind.wrap IntKind.u64 ((([i]:List Int).length:Nat):Int)=1:=wrap64 (by simp) (by simp)
 have e2:IntKind.wrap IntKind.u64 ((n:Nat):Int)=(n:Int):=wrap64 (by omega) (by omega)
 have e3:aj ((n:Nat):Int)=(n:Int):=ay (by omega) (by omega)
 have e4:j8 (List.replicate n (0:Int)) 0 n [i]=rep (min 1 n) n i/\ rH n 1=min 1 n:=by
  refine ⟨?_,rfl⟩
  unfold j8
  show _++List.take (min 1 n) [i]++List.drop (0+min 1 n) _=_
  cases n with
  |zero=>rfl
  |succ n=>simp [rep,show min 1 (n+1)=1 by omega]
 have key:=UZ ([i],(n:Int)) i n hn (n- min 1 n) (min 1 n) (by omega) (by omega)
 unfold lM repeatM az aq
 dsimp only
 rw [e1,e2,ac4 (by omega)]
 dsimp only
 rw [e3,Int.toNat_natCast,List.length_replicate]
 simp only [List.length_cons,List.length_nil,Nat.zero_add]
 rw [e4.1,e4.2]
 refine ⟨⟨fun q=>absurd q (by omega),fun _=>⟨fun q=>absurd q (by omega),fun _=>⟨fun q=>absurd q (by omega),fun _=>⟨⟨⟨by omega,by omega⟩,by omega⟩,key.1⟩⟩⟩⟩,?_⟩
 rw [if_neg (by omega),if_neg (by omega),if_neg (by omega)]
 exact key.2
def dx (R:List JI) (pad:Int) (i:Nat):Int×Int:=(16*((R.getD i zR).1+pad),16*((R.getD i zR).2.1+pad))
def xR (l:M0) (R:List JI) (pad:Int) (i:Nat):List T2:=(l.getD i zP).2.1.map (w4 fun p=>eI (p,dx R pad i))
def sL (l:M0) (R:List JI) (pad:Int) (k:Nat):List T2:=(List.range k).flatMap (xR l R pad)
def CB (l:M0) (k:Nat):List Int:=(List.range k).flatMap fun i=>List.replicate (l.getD i zP).2.1.length (i:Int)
theorem tI (l:M0) (R:List JI) (pad:Int) (k:Nat):sL l R pad (k+1)=sL l R pad k++xR l R pad k:=by simp [sL,List.range_succ]
theorem zi (l:M0) (k:Nat):CB l (k+1)=CB l k++List.replicate (l.getD k zP).2.1.length (k:Int):=by simp [CB,List.range_succ]
theorem zQ (l:M0) (R:List JI) (pad:Int) (i:Nat):(xR l R pad i).length=(l.getD i zP).2.1.length:=by simp [xR]
theorem tH {l:M0} (hl:Rgt l) (R:List JI) (pad:Int): ∀k,k<=l.length->(sL l R pad k).length=(eO (l.take k)).length/\ (CB l k).length=(eO (l.take k)).length/\ (sL l R pad k).length<=500*k:=by
 intro k
 induction k with
 |zero=>intro _;simp [sL,CB,eO]
 |succ k ih=>
  intro hk
  have hp:=hl.all _ (cq (show k<l.length by omega) zP)
  have h1:=hp.len
  have h2:=hp.same
  obtain ⟨i1,i2,i3⟩:=ih (by omega)
  rw [tI,zi,eV (show k<l.length by omega) zP,nD]
  simp only [List.length_append,zQ,List.length_replicate]
  omega
theorem qt.ahX {a:GR} (h:qt a) {i:Nat} (hi:i<a.2.2.2.1.length):YB a.1 a.2.1 (a.2.2.2.2.getD i zR):=(h.sh i (by rw [h.len];exact hi)).1
theorem qt.way {a:GR} (h:qt a) {i:Nat} (hi:i<a.2.2.2.1.length):0<=(dx a.2.2.2.2 a.2.2.1 i).1/\ (dx a.2.2.2.2 a.2.2.1 i).1<=65536/\ 0<=(dx a.2.2.2.2 a.2.2.1 i).2/\ (dx a.2.2.2.2 a.2.2.1 i).2<=65536:=by
 obtain ⟨⟨r1,r2⟩,⟨r3,r4⟩,r5,r6⟩:=h.ahX hi
 obtain ⟨⟨w1,w2⟩,⟨h1,h2⟩,p1,p2⟩:=h.num
 unfold dx
 dsimp only
 omega
theorem YG (a:GR) (hl:a.2.2.2.1.length<=1000000) (FC:a.2.2.2.2.length<1099511627776):xg a/\ ((¬qt a/\ allM a=([],[],1))\/
  (qt a/\ allM a=(sL a.2.2.2.1 a.2.2.2.2 a.2.2.1 a.2.2.2.1.length,CB a.2.2.2.1 a.2.2.2.1.length,0))):=by
 obtain ⟨i1,i2⟩:=ajF a (by omega) FC
 unfold xg allM az aq
 cases hb:isM a with
 |false=>
  refine ⟨⟨i1,fun q=>absurd rfl q⟩,.inl ⟨fun q=> ?_,rfl⟩⟩
  rw [i2.2 q] at hb;cases hb
 |true=>
  have hA:=i2.1 hb
  have hR:=hA.rgt
  have key:TR (lR a) (rA a) ([],[],0) fun r=>r= .inr (sL a.2.2.2.1 a.2.2.2.2 a.2.2.1 a.2.2.2.1.length,CB a.2.2.2.1 a.2.2.2.1.length):=by
   refine bg a.2.2.2.1.length (fun i st=>st=(sL a.2.2.2.1 a.2.2.2.2 a.2.2.1 i,CB a.2.2.2.1 i,(i:Int))) _ (fun i st hi hj=> ?_) (fun st hj=> ?_) rfl
   ·subst hj
    have hp:=hR.all _ (cq hi zP)
    have hlen:=hA.len
    obtain ⟨⟨r1,r2⟩,⟨r3,r4⟩,r5,r6⟩:=hA.ahX hi
    obtain ⟨⟨w1,w2⟩,⟨h1,h2⟩,p1,p2⟩:=hA.num
    have adX:=hA.way hi
    have e1:aj ((a.2.2.2.2.getD i zR).1+a.2.2.1)=(a.2.2.2.2.getD i zR).1+a.2.2.1:=ay (by omega) (by omega)
    have e2:aj ((a.2.2.2.2.getD i zR).2.1+a.2.2.1)=(a.2.2.2.2.getD i zR).2.1+a.2.2.1:=ay (by omega) (by omega)
    have e3:aj (16*((a.2.2.2.2.getD i zR).1+a.2.2.1))=16*((a.2.2.2.2.getD i zR).1+a.2.2.1):=ay (by omega) (by omega)
    have e4:aj (16*((a.2.2.2.2.getD i zR).2.1+a.2.2.1))=16*((a.2.2.2.2.getD i zR).2.1+a.2.2.1):=ay (by omega) (by omega)
    have hm:=F3 (a.2.2.2.1.getD i zP) (dx a.2.2.2.2 a.2.2.1 i)
    have hmv:CX (a.2.2.2.1.getD i zP,dx a.2.2.2.2 a.2.2.1 i)=(xR a.2.2.2.1 a.2.2.2.2 a.2.2.1 i,0):=by
     rcases hm.2 with ⟨q,_⟩|⟨_,q,_⟩|⟨_,_,q⟩
     ·exact absurd hp q
     ·exact absurd adX q
     ·exact q
    have adk:(a.2.2.2.1.getD i zP,aj ((16:Int)*(aj ((a.2.2.2.2.getD i zR).1+a.2.2.1))),aj ((16:Int)*(aj ((a.2.2.2.2.getD i zR).2.1+a.2.2.1))))=(a.2.2.2.1.getD i zP,dx a.2.2.2.2 a.2.2.1 i):=by rw [e1,e2,e3,e4];rfl
    have hml:=zQ a.2.2.2.1 a.2.2.2.2 a.2.2.1 i
    have hps:=hp.same
    have FD:=hp.len
    obtain ⟨t1,t2,t3⟩:=tH hR a.2.2.2.2 a.2.2.1 i (by omega)
    obtain ⟨q1,q2⟩:=LI (i:Int) (n:=(xR a.2.2.2.1 a.2.2.2.2 a.2.2.1 i).length) (by omega)
    refine ⟨?_,.inl ⟨_,?_,rfl⟩⟩
    ·unfold rA az
     intro _
     dsimp only
     rw [Int.toNat_natCast,show (a.2.2.2.1.getD i ([],[],0,0),aj ((16:Int)*(aj ((a.2.2.2.2.getD i (0,0,0,0)).1+a.2.2.1))),aj ((16:Int)*(aj ((a.2.2.2.2.getD i (0,0,0,0)).2.1+a.2.2.1))))=_ from adk,hmv]
     exact ⟨by omega,hi,hi,by omega,by omega,by omega,by omega,by omega,by omega,by omega,by omega,hm.1,fun _=>⟨by dsimp only;omega,q1,by dsimp only;rw [q2,List.length_replicate];omega⟩⟩
    ·unfold lR aq
     dsimp only
     rw [if_pos (by omega),Int.toNat_natCast,show (a.2.2.2.1.getD i ([],[],0,0),aj ((16:Int)*(aj ((a.2.2.2.2.getD i (0,0,0,0)).1+a.2.2.1))),aj ((16:Int)*(aj ((a.2.2.2.2.getD i (0,0,0,0)).2.1+a.2.2.1))))=_ from adk,hmv]
     dsimp only
     rw [if_neg (by decide),q2,lO hi (by omega),tI,zi,hml]
   ·subst hj
    refine ⟨?_,_,?_,rfl⟩
    ·unfold rA
     intro q
     dsimp only at q;omega
    ·unfold lR
     dsimp only
     rw [if_neg (by omega)]
  refine ⟨⟨i1,fun _=>key.1⟩,.inr ⟨hA,?_⟩⟩
  dsimp only
  rw [if_neg (by decide),key.2];rfl
end Go.Proofs.YtfgdjlhilladhaaGreat
