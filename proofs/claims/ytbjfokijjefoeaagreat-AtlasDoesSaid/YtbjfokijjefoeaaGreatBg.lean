/- Plain laws: the references of layer 18 (atlases) say what the program says. -/
import Derived.Test.YtbjfokijjefoeaaGreatHq
import Derived.Test.YtbjfokijjefoeaaGreatBe
import Derived.Test.YtbjfokijjefoeaaGreatAm
noncomputable section
set_option linter.unusedSectionVars false
set_option linter.unusedVariables false
set_option linter.unusedSimpArgs false
namespace Go.Proofs.YtbjfokijjefoeaaGreat
open Go Go.Ev Go.Proofs
theorem adn {p:JW} (h:dO p) {pad:Int} (hp:1<=pad/\ pad<=8):az (p.2.2.1+az (2*pad))=(Ab p pad).1/\ az (p.2.2.2+az (2*pad))=(Ab p pad).2:=by
 have:=h.adH
 unfold Ab
 rw [aR (n:=2*pad) (by omega) (by omega),aR (n:=p.2.2.1+2*pad) (by omega) (by omega),aR (n:=p.2.2.2+2*pad) (by omega) (by omega)]
 exact ⟨rfl,rfl⟩
theorem Le (a:FV) (hl:a.2.2.2.1.length<=1000) (tw:a.2.2.2.2.length<1099511627776):fW a/\ (jT a=true↔pT a):=by
 obtain ⟨w,h,pad,l,R⟩:=a
 dsimp only at hl tw
 have n1:=wD w h pad
 obtain ⟨r1,r2⟩:=Ej l hl
 unfold fW jT aA ai
 dsimp only
 cases hn:gN (w,h,pad) with
 |false=>
  refine ⟨fun q=>absurd rfl q,fun q=>(by cases q),fun q=> ?_⟩
  rw [n1.2 q.num] at hn;cases hn
 |true=>
  have hN:=n1.1 hn
  obtain ⟨hw,hh,hp⟩:=hN
  rw [if_neg (by decide)]
  cases hr:pA l with
  |false=>
   refine ⟨fun _=>⟨r1,fun q=>absurd rfl q⟩,fun q=>(by cases q),fun q=> ?_⟩
   rw [r2.2 q.rgt] at hr;cases hr
  |true=>
   have hR:=r2.1 hr
   rw [if_neg (by decide)]
   by_cases hlen:R.length=l.length
   rotate_left
   ·have hb:(((R.length:Nat):Int) !=((l.length:Nat):Int))=true:=by simp;omega
    refine ⟨fun _=>⟨r1,fun _ q=>absurd hb q⟩,?_⟩
    rw [if_pos hb]
    exact ⟨fun q=>(by cases q),fun q=>absurd q.len hlen⟩
   have hb: ¬(((R.length:Nat):Int) !=((l.length:Nat):Int))=true:=by simp;omega
   rw [if_neg hb]
   have key:TR (iF (w,h,pad,l,R)) (pz (w,h,pad,l,R)) 0 fun r=>(r= .inl ()/\ ¬ ∀i,i<l.length->(R.getD i zR).2.2=Go.Proofs.YtbjfokijjefoeaaGreat.Ab (l.getD i zP) pad)\/ (r= .inr ()/\ ∀i,i<l.length->(R.getD i zR).2.2=Go.Proofs.YtbjfokijjefoeaaGreat.Ab (l.getD i zP) pad):=by
    refine aZ l.length (fun i s=>s=(i:Int)/\ ∀j,j<i->(R.getD j zR).2.2=Go.Proofs.YtbjfokijjefoeaaGreat.Ab (l.getD j zP) pad) _ (fun i s hi hj=> ?_) (fun s hj=> ?_) ⟨rfl,fun j hj=>absurd hj (Nat.not_lt_zero _)⟩
    ·obtain ⟨rfl,hJ⟩:=hj
     have NW:i<R.length:=by omega
     obtain ⟨z1,z2⟩:=adn (hR.all _ (bZ hi zP)) hp
     have z1:az ((l.getD i ([],[],(0:Int),(0:Int))).2.2.1+az (2*pad))=_:=z1
     have z2:az ((l.getD i ([],[],(0:Int),(0:Int))).2.2.2+az (2*pad))=_:=z2
     refine ⟨?_,?_⟩
     ·unfold pz
      intro _
      dsimp only
      rw [Int.toNat_natCast]
      exact ⟨⟨by omega,by omega⟩,NW,NW,NW,⟨by omega,by omega⟩,hi,hi,hi,fun _=>⟨⟨by omega,by omega⟩,NW,NW,NW,⟨by omega,by omega⟩,hi,hi,hi⟩⟩
     ·unfold iF
      dsimp only
      rw [if_pos (by omega),Int.toNat_natCast,z1,z2]
      by_cases c1:(R.getD i zR).2.2.1=(Go.Proofs.YtbjfokijjefoeaaGreat.Ab (l.getD i zP) pad).1
      ·by_cases c2:(R.getD i zR).2.2.2=(Go.Proofs.YtbjfokijjefoeaaGreat.Ab (l.getD i zP) pad).2
       ·refine .inl ⟨_,?_,fJ (n:=l.length) hi (by omega),fun j hj=> ?_⟩
        ·rw [if_neg (fun q=>(bne_iff_ne.1 q) c1),if_neg (fun q=>(bne_iff_ne.1 q) c2)]
        ·rcases Nat.lt_or_ge j i with h1|h1
         ·exact hJ j h1
         ·have:j=i:=by omega
          subst this;exact Prod.ext c1 c2
       ·refine .inr ⟨.inl (),?_,.inl ⟨rfl,fun q=>c2 (congrArg Prod.snd (q i hi))⟩⟩
        rw [if_neg (fun q=>(bne_iff_ne.1 q) c1),if_pos (bne_iff_ne.2 c2)]
      ·refine .inr ⟨.inl (),?_,.inl ⟨rfl,fun q=>c1 (congrArg Prod.fst (q i hi))⟩⟩
       rw [if_pos (bne_iff_ne.2 c1)]
    ·obtain ⟨rfl,hJ⟩:=hj
     refine ⟨?_,.inr (),?_,.inr ⟨rfl,hJ⟩⟩
     ·unfold pz
      intro q
      dsimp only at q;omega
     ·unfold iF
      dsimp only
      rw [if_neg (by omega)]
   have k1:=key.1
   obtain ⟨s1,s2⟩:=WE hw hh R (by omega)
   rcases key.2 with ⟨e,hS⟩|⟨e,hS⟩
   ·rw [e]
    exact ⟨fun _=>⟨r1,fun _ _=>⟨k1,trivial⟩⟩,fun q=>(by cases q),fun q=>absurd q.Ab hS⟩
   ·rw [e]
    refine ⟨fun _=>⟨r1,fun _ _=>⟨k1,s1⟩⟩,?_⟩
    show Py (w,h,R)=true↔_
    rw [s2]
    exact ⟨fun q=>⟨⟨hw,hh,hp⟩,hlen,hR,hS,q⟩,fun q=>q.sh⟩
theorem HD {p:JW} (h1:p.1.length<1000000) (h2:p.2.1.length<1000000):tV p/\ wq p=p:=by
 obtain ⟨a1,a2⟩:=WW p.1 (by omega)
 exact ⟨⟨a1,(show 0+p.2.1.length<1099511627776 by omega)⟩,rfl⟩
section
variable (w h pad:Int) (l:oU)
theorem NJ (hl:l.length<=1000) (hR:JX l) (hp:1<=pad/\ pad<=8):TR (ej (w,h,pad,l)) (j9 (w,h,pad,l)) (Ord l,[],0)
  fun r=>(r= .inl ()/\ ¬Fits (ov l pad))\/ (r= .inr (Ord l,ov l pad)/\ Fits (ov l pad)):=by
 refine aZ l.length (fun i st=>st=(Ord l,(ov l pad).take i,(i:Int))/\ Fits ((ov l pad).take i)) _ (fun i st hi hj=> ?_) (fun st hj=> ?_) ⟨rfl,by simp [Fits]⟩
 ·obtain ⟨rfl,hF⟩:=hj
  have hlo:=eI l
  have hls:=nP l pad
  have hg:=xE l hi
  have hin:((Ord l).getD i 0).toNat<l.length:=by omega
  have NW:i<(Ord l).length:=by omega
  obtain ⟨z1,z2⟩:=adn (hR.all _ (bZ hin zP)) hp
  have hsz:=UY l pad hi
  rw [<- hsz] at z1 z2
  have z1:az ((l.getD ((Ord l).getD i 0).toNat ([],[],(0:Int),(0:Int))).2.2.1+az (2*pad))=_:=z1
  have z2:az ((l.getD ((Ord l).getD i 0).toNat ([],[],(0:Int),(0:Int))).2.2.2+az (2*pad))=_:=z2
  have hmem:(ov l pad).getD i (0,0)∈ov l pad:=bZ (by rw [hls];exact hi) _
  refine ⟨?_,?_⟩
  ·unfold j9
   intro _
   dsimp only
   rw [Int.toNat_natCast]
   exact ⟨⟨by omega,by omega⟩,NW,NW,⟨by omega,by omega⟩,hin,hin,fun _ _=>by rw [List.length_take,hls];omega⟩
  ·unfold ej
   dsimp only
   rw [hlo,if_pos (by omega),Int.toNat_natCast,z1,z2]
   by_cases c1:((ov l pad).getD i (0,0)).1>256
   ·rw [if_pos c1]
    exact .inr ⟨_,rfl,.inl ⟨rfl,fun q=>by have:=q _ hmem;omega⟩⟩
   rw [if_neg c1]
   by_cases c2:((ov l pad).getD i (0,0)).2>256
   ·rw [if_pos c2]
    exact .inr ⟨_,rfl,.inl ⟨rfl,fun q=>by have:=q _ hmem;omega⟩⟩
   ·rw [if_neg c2]
    refine .inl ⟨_,rfl,?_,fun p eo=> ?_⟩
    ·rw [fJ hi (by omega),b9 (by rw [hls];exact hi) (0,0)]
    ·rw [b9 (by rw [hls];exact hi) (0,0)] at eo
     rcases List.mem_append.1 eo with eo|eo
     ·exact hF p eo
     ·simp only [List.mem_singleton] at eo
      subst eo;omega
 ·obtain ⟨rfl,hF⟩:=hj
  rw [<- nP l pad,List.take_length] at hF
  refine ⟨?_,_,?_,.inr ⟨rfl,hF⟩⟩
  ·unfold j9
   intro q
   dsimp only at q
   rw [eI] at q;omega
  ·unfold ej
   dsimp only
   rw [eI,if_neg (by omega)]
   have:(ov l pad).take l.length=ov l pad:=by rw [<- nP l pad,List.take_length]
   rw [this]
theorem SZ (hl:l.length<=1000) (hR:JX l) (o:List Int) (q:List vf):TR (c9 (w,h,pad,l)) (ke (w,h,pad,l)) (o,q,[],0) fun r=>r=(o,q,l):=by
 refine aZ l.length (fun i st=>st=(o,q,l.take i,(i:Int))) _ (fun i st hi hj=> ?_) (fun st hj=> ?_) rfl
 ·subst hj
  have hp:=hR.all _ (bZ hi zP)
  have g1:=hp.len
  have g2:=hp.same
  obtain ⟨p1,p2⟩:=HD (p:=l.getD i zP) (by omega) (by omega)
  refine ⟨?_,.inl ⟨_,?_,rfl⟩⟩
  ·unfold ke aA
   intro _
   dsimp only
   rw [Int.toNat_natCast]
   exact ⟨⟨by omega,by omega⟩,hi,hi,p1,by rw [List.length_take];omega⟩
  ·unfold c9 ai
   dsimp only
   rw [if_pos (by omega),Int.toNat_natCast,show wq (l.getD i ([],[],0,0))=_ from p2,fJ hi (by omega),b9 hi zP]
 ·subst hj
  refine ⟨?_,_,?_,rfl⟩
  ·unfold ke
   intro q
   dsimp only at q;omega
  ·unfold c9
   dsimp only
   rw [if_neg (by omega),List.take_length]
theorem S0 (hl:l.length<=1000) (q:List vf) (hq:q.length=l.length):TR (dc (w,h,pad,l)) (kf (w,h,pad,l)) (Ord l,q,l,List.replicate l.length zR,0)
  fun r=>r.1=l/\ Put l q r.2:=by
 refine aZ l.length (fun i st=> ∃acc,st=(Ord l,q,l,acc,(i:Int))/\ acc.length=l.length/\ ∀j,j<i->acc.getD ((Ord l).getD j 0).toNat zR=q.getD j zR) _ (fun i st hi hj=> ?_) (fun st hj=> ?_) ⟨_,rfl,by simp,fun j hj=>absurd hj (Nat.not_lt_zero _)⟩
 ·obtain ⟨acc,rfl,ha,hJ⟩:=hj
  have hlo:=eI l
  have hg:=xE l hi
  refine ⟨?_,.inl ⟨_,?_,acc.set ((Ord l).getD i 0).toNat (q.getD i zR),rfl,by simp [ha],fun j hj=> ?_⟩⟩
  ·unfold kf
   intro _
   dsimp only
   rw [Int.toNat_natCast,hlo,hq,ha]
   omega
  ·unfold dc ai
   dsimp only
   rw [hlo,if_pos (by omega),Int.toNat_natCast,fJ hi (by omega)]
  ·rw [List.getD_eq_getElem?_getD,List.getElem?_set]
   by_cases e:((Ord l).getD i 0).toNat=((Ord l).getD j 0).toNat
   ·have hgj:=xE l (k:=j) (by omega)
    have:i=j:=zE (C9 l) (by omega) (by omega) (by omega)
    subst this
    rw [if_pos rfl,if_pos (by omega)];rfl
   ·rw [if_neg e,←List.getD_eq_getElem?_getD]
    have:j≠i:=fun q=>e (by rw [q])
    exact hJ j (by omega)
 ·obtain ⟨acc,rfl,ha,hJ⟩:=hj
  refine ⟨?_,(l,acc),?_,rfl,ha,hJ⟩
  ·unfold kf
   intro q
   dsimp only at q;rw [eI] at q;omega
  ·unfold dc
   dsimp only
   rw [eI,if_neg (by omega)]
theorem Ny (hl:l.length<=1000):cR (w,h,pad,l)/\ QT w h pad l (cL (w,h,pad,l)):=by
 have n1:=wD w h pad
 obtain ⟨r1,r2⟩:=Ej l hl
 obtain ⟨o1,o2⟩:=Bu l hl
 unfold cR cL aA ai
 dsimp only
 cases hn:gN (w,h,pad) with
 |false=>
  refine ⟨fun q=>absurd rfl q,.inl ⟨fun q=> ?_,rfl⟩⟩
  rw [n1.2 q.1] at hn;cases hn
 |true=>
  have hN:=n1.1 hn
  obtain ⟨hw,hh,hp⟩:=hN
  cases hr:pA l with
  |false=>
   refine ⟨fun _=>⟨r1,fun q=>absurd rfl q⟩,.inl ⟨fun q=> ?_,rfl⟩⟩
   rw [r2.2 q.2] at hr;cases hr
  |true=>
   have hR:=r2.1 hr
   rw [o2]
   have hs:=NJ w h pad l hl hR hp
   have hs1:=hs.1
   rcases hs.2 with ⟨e,hF⟩|⟨e,hF⟩
   ·rw [e]
    exact ⟨fun _=>⟨r1,fun _=>⟨o1,hs1,trivial⟩⟩,.inr (.inl ⟨⟨hw,hh,hp⟩,hR,fun q=>absurd q hF,rfl⟩)⟩
   ·rw [e]
    have hin:=UZ hR hp hF
    obtain ⟨k1,k2⟩:=PD hw hh (ov l pad) (by rw [nP];omega) hin
    cases hk:fC h (List.replicate w.toNat 0) (ov l pad) with
    |none=>
     rw [hk] at k2
     have k2:nC (w,h,ov l pad)=([],9):=k2
     refine ⟨fun _=>⟨r1,fun _=>⟨o1,hs1,k1,fun q=> ?_⟩⟩,.inr (.inl ⟨⟨hw,hh,hp⟩,hR,fun _=>hk,?_⟩)⟩
     ·exfalso
      refine q ?_
      show ((nC (w,h,ov l pad)).2 !=(0:Int))=true
      rw [k2];rfl
     ·show (if ((nC (w,h,ov l pad)).2 !=(0:Int))=true then _ else _)=_
      rw [k2];rfl
    |some q=>
     rw [hk] at k2
     have k2:nC (w,h,ov l pad)=(q,0):=k2
     have XC:=hw
     have CZ:=hh
     obtain ⟨w1,w2⟩:=hw
     obtain ⟨h1,h2⟩:=hh
     have hql:q.length=l.length:=by
      have:=(Pf (w:=w.toNat) (h:=h) (by omega) h2 (ov l pad) _ q hin (Lz w h XC CZ) hk).1
      rw [<- nP l pad,<- this,List.length_map]
     have hO:=SZ w h pad l hl hR (Ord l) q
     have hP:=S0 w h pad l hl q hql
     have hO2:run (c9 (w,h,pad,l)) (Ord l,q,[],0)=(Ord l,q,l):=hO.2
     refine ⟨fun _=>⟨r1,fun _=>⟨o1,hs1,k1,fun _=> ?_⟩⟩,.inr (.inr ⟨⟨XC,CZ,hp⟩,hR,hF,q,(run (dc (w,h,pad,l)) (Ord l,q,l,List.replicate l.length zR,0)).2,hk,hP.2.2,?_⟩)⟩
     ·rw [k2]
      dsimp only
      rw [hO2]
      exact ⟨⟨Int.le_refl _,by omega⟩,hO.1,hP.1⟩
     ·show (if ((nC (w,h,ov l pad)).2 !=(0:Int))=true then _ else _)=_
      rw [k2]
      show (_,_)=_
      dsimp only
      rw [hO2]
      have:=hP.2.1
      dsimp only
      generalize run (dc (w,h,pad,l)) (Ord l,q,l,List.replicate l.length zR,0)=z at this ⊢
      obtain ⟨z1,z2⟩:=z
      dsimp only at this
      subst this;rfl
theorem Put.uniq {l:oU} {q R R':List vf} (h1:Put l q R) (h2:Put l q R'):R=R':=by
 obtain ⟨a1,a2⟩:=h1
 obtain ⟨b1,b2⟩:=h2
 refine List.ext_getElem (by omega) fun i g1 g2=> ?_
 have hi:i<l.length:=by omega
 have:=(FE l (i:Int)).2 ⟨by omega,by omega⟩
 obtain ⟨j,hj,e⟩:=List.getElem_of_mem this
 have hj':j<l.length:=by rw [eI] at hj;exact hj
 have e':(Ord l).getD j 0=(i:Int):=by rw [List.getD_eq_getElem?_getD,List.getElem?_eq_getElem hj];exact e
 have x1:=a2 j hj'
 have x2:=b2 j hj'
 rw [e',Int.toNat_natCast] at x1 x2
 rw [<- x2,List.getD_eq_getElem?_getD,List.getD_eq_getElem?_getD,List.getElem?_eq_getElem g1,List.getElem?_eq_getElem g2] at x1
 exact x1
theorem QT.uniq {r r':FV×Int} (h1:QT w h pad l r) (h2:QT w h pad l r'):r=r':=by
 rcases h1 with ⟨a,e⟩|⟨a,b,c,e⟩|⟨a,b,c,q,R,d,f,e⟩
 ·rcases h2 with ⟨_,e'⟩|⟨a',b',_⟩|⟨a',b',_⟩
  ·rw [e,e']
  ·exact absurd ⟨a',b'⟩ a
  ·exact absurd ⟨a',b'⟩ a
 ·rcases h2 with ⟨a',_⟩|⟨_,_,_,e'⟩|⟨_,_,c',q,R,d,_⟩
  ·exact absurd ⟨a,b⟩ a'
  ·rw [e,e']
  ·rw [c c'] at d;cases d
 ·rcases h2 with ⟨a',_⟩|⟨_,_,c',_⟩|⟨_,_,_,q',R',d',f',e'⟩
  ·exact absurd ⟨a,b⟩ a'
  ·rw [c' c] at d;cases d
  ·rw [d] at d'
   cases d'
   rw [e,e',f.uniq f']
end
theorem acf (a:FV) (T L:List T2) (i:Nat) (o:List Int) (hL:L.length<=1000) (ho:o.length<=1000000):
  TR (jl a) (nF a) (T,o,(i:Int),L,0) fun r=>r=(T,o++List.replicate L.length (i:Int),(i:Int)):=by
 refine aZ L.length (fun k s=>s=(T,o++List.replicate k (i:Int),(i:Int),L,(k:Int))) _ (fun k s hk hj=> ?_) (fun s hj=> ?_) (by simp)
 ·subst hj
  refine ⟨?_,.inl ⟨_,?_,rfl⟩⟩
  ·unfold nF
   intro _
   dsimp only
   rw [List.length_append,List.length_replicate];omega
  ·unfold jl
   dsimp only
   rw [if_pos (by omega),fJ hk (by omega),List.append_assoc,<- List.replicate_succ']
 ·subst hj
  refine ⟨?_,_,?_,rfl⟩
  ·unfold nF
   intro q
   dsimp only at q;omega
  ·unfold jl
   dsimp only
   rw [if_neg (by omega)]
theorem HO (a:FV) (hl:a.2.2.2.1.length<=1000) (tw:a.2.2.2.2.length<1099511627776):qf a/\ ((¬pT a/\ uc a=([],[],1))\/
  (pT a/\ uc a=(r9 a.2.2.2.1 a.2.2.2.2 a.2.2.1 a.2.2.2.1.length,CI a.2.2.2.1 a.2.2.2.1.length,0))):=by
 obtain ⟨i1,i2⟩:=Le a hl tw
 unfold qf uc aA ai
 cases hb:jT a with
 |false=>
  refine ⟨⟨i1,fun q=>absurd rfl q⟩,.inl ⟨fun q=> ?_,rfl⟩⟩
  rw [i2.2 q] at hb;cases hb
 |true=>
  have hA:=i2.1 hb
  have hR:=hA.rgt
  have key:TR (jk a) (nE a) ([],[],0) fun r=>r=(r9 a.2.2.2.1 a.2.2.2.2 a.2.2.1 a.2.2.2.1.length,CI a.2.2.2.1 a.2.2.2.1.length):=by
   refine aZ a.2.2.2.1.length (fun i st=>st=(r9 a.2.2.2.1 a.2.2.2.2 a.2.2.1 i,CI a.2.2.2.1 i,(i:Int))) _ (fun i st hi hj=> ?_) (fun st hj=> ?_) rfl
   ·subst hj
    have hp:=hR.all _ (bZ hi zP)
    have hlen:=hA.len
    have NW:i<a.2.2.2.2.length:=by omega
    obtain ⟨⟨r1,r2⟩,⟨r3,r4⟩,r5,r6⟩:=hA.aeA hi
    obtain ⟨⟨w1,w2⟩,⟨h1,h2⟩,p1,p2⟩:=hA.num
    have aeb:=hA.way hi
    have e1:az ((a.2.2.2.2.getD i zR).1+a.2.2.1)=(a.2.2.2.2.getD i zR).1+a.2.2.1:=aR (by omega) (by omega)
    have e2:az ((a.2.2.2.2.getD i zR).2.1+a.2.2.1)=(a.2.2.2.2.getD i zR).2.1+a.2.2.1:=aR (by omega) (by omega)
    have e3:az (16*((a.2.2.2.2.getD i zR).1+a.2.2.1))=16*((a.2.2.2.2.getD i zR).1+a.2.2.1):=aR (by omega) (by omega)
    have e4:az (16*((a.2.2.2.2.getD i zR).2.1+a.2.2.1))=16*((a.2.2.2.2.getD i zR).2.1+a.2.2.1):=aR (by omega) (by omega)
    have hps:=hp.same
    have yy:=hp.len
    have hm:=CW (a.2.2.2.1.getD i zP) (sY a.2.2.2.2 a.2.2.1 i)
    obtain ⟨rm1,rm2⟩:=Ps (a.2.2.2.1.getD i zP) (sY a.2.2.2.2 a.2.2.1 i) (by omega)
    have hmv:xF (a.2.2.2.1.getD i zP,sY a.2.2.2.2 a.2.2.1 i)=(A2 a.2.2.2.1 a.2.2.2.2 a.2.2.1 i,0):=by
     rw [rm2]
     rcases hm.2 with ⟨q,_⟩|⟨_,q,_⟩|⟨_,_,q⟩
     ·exact absurd hp q
     ·exact absurd aeb q
     ·exact q
    have Yf:(a.2.2.2.1.getD i zP,az ((16:Int)*(az ((a.2.2.2.2.getD i zR).1+a.2.2.1))),az ((16:Int)*(az ((a.2.2.2.2.getD i zR).2.1+a.2.2.1))))=(a.2.2.2.1.getD i zP,sY a.2.2.2.2 a.2.2.1 i):=by rw [e1,e2,e3,e4];rfl
    have hml:=C3 a.2.2.2.1 a.2.2.2.2 a.2.2.1 i
    obtain ⟨t1,t2,t3⟩:=vp hR a.2.2.2.2 a.2.2.1 i (by omega)
    have hin:=acf a (r9 a.2.2.2.1 a.2.2.2.2 a.2.2.1 i++A2 a.2.2.2.1 a.2.2.2.2 a.2.2.1 i) (A2 a.2.2.2.1 a.2.2.2.2 a.2.2.1 i) i (CI a.2.2.2.1 i) (by omega) (by omega)
    refine ⟨?_,.inl ⟨_,?_,rfl⟩⟩
    ·unfold nE aA
     intro _
     dsimp only
     rw [Int.toNat_natCast,show (a.2.2.2.1.getD i ([],[],0,0),az ((16:Int)*(az ((a.2.2.2.2.getD i (0,0,0,0)).1+a.2.2.1))),az ((16:Int)*(az ((a.2.2.2.2.getD i (0,0,0,0)).2.1+a.2.2.1))))=_ from Yf,hmv]
     exact ⟨⟨by omega,by omega⟩,hi,hi,⟨by omega,by omega⟩,NW,NW,NW,⟨by omega,by omega⟩,NW,NW,NW,rm1,by dsimp only;omega,hin.1⟩
    ·unfold jk ai
     dsimp only
     rw [if_pos (by omega),Int.toNat_natCast,show (a.2.2.2.1.getD i ([],[],0,0),az ((16:Int)*(az ((a.2.2.2.2.getD i (0,0,0,0)).1+a.2.2.1))),az ((16:Int)*(az ((a.2.2.2.2.getD i (0,0,0,0)).2.1+a.2.2.1))))=_ from Yf,hmv]
     dsimp only
     rw [hin.2]
     dsimp only
     rw [fJ hi (by omega),CK,CJ,hml]
   ·subst hj
    refine ⟨?_,_,?_,rfl⟩
    ·unfold nE
     intro q
     dsimp only at q;omega
    ·unfold jk
     dsimp only
     rw [if_neg (by omega)]
  refine ⟨⟨i1,fun _=>key.1⟩,.inr ⟨hA,?_⟩⟩
  dsimp only
  rw [if_neg (by decide),key.2]
theorem JM (a:FV) (hR:JX a.2.2.2.1) (hl:a.2.2.2.1.length<=1000):rL a/\ xQ a=cW a.2.2.2.1:=by
 have key:TR (fb a) (jC a) ([],0) fun r=>r=cW a.2.2.2.1:=by
  refine aZ a.2.2.2.1.length (fun i st=>st=(cW (a.2.2.2.1.take i),(i:Int))) _ (fun i st hi hj=> ?_) (fun st hj=> ?_) rfl
  ·subst hj
   have yy:=(hR.all _ (bZ hi zP)).len
   have hts:=Jf (l:=a.2.2.2.1.take i) fun p hp=>hR.all p (List.mem_of_mem_take hp)
   rw [List.length_take] at hts
   refine ⟨?_,.inl ⟨_,?_,rfl⟩⟩
   ·unfold jC
    intro _
    dsimp only
    rw [Int.toNat_natCast]
    exact ⟨⟨by omega,by omega⟩,hi,hi,hi,(show (cW (a.2.2.2.1.take i)).length+(a.2.2.2.1.getD i zP).1.length<1099511627776 by omega)⟩
   ·unfold fb
    dsimp only
    rw [if_pos (by omega),Int.toNat_natCast,fJ hi (by omega),b9 hi zP,pR]
  ·subst hj
   refine ⟨?_,_,?_,rfl⟩
   ·unfold jC
    intro q
    dsimp only at q;omega
   ·unfold fb
    dsimp only
    rw [if_neg (by omega),List.take_length]
 exact ⟨key.1,key.2⟩
theorem U7.uniq {a:FV} (hR:JX a.2.2.2.1) {T:List T2} {t:Int} {r r':T2×Bool} (h1:U7 a T t r) (h2:U7 a T t r'):r=r':=by
 rcases h1 with ⟨k,k1,k2,e⟩|⟨n,e⟩
 ·rcases h2 with ⟨j,j1,j2,e'⟩|⟨n',e'⟩
  ·have:k=j:=zE hR.once k1 j1 (by rw [k2,j2])
   subst this
   rw [e,e']
  ·exact absurd (by rw [<- k2];exact bZ k1 0) n'
 ·rcases h2 with ⟨j,j1,j2,e'⟩|⟨n',e'⟩
  ·exact absurd (by rw [<- j2];exact bZ j1 0) n
  ·rw [e,e']
theorem PL (a:FV) (t:Int) (hl:a.2.2.2.1.length<=1000) (tw:a.2.2.2.2.length<1099511627776):qV (a,t)/\ ((¬pT a/\ ug (a,t)=(zT,false))\/
  (pT a/\ U7 a (r9 a.2.2.2.1 a.2.2.2.2 a.2.2.1 a.2.2.2.1.length) t (ug (a,t)))):=by
 obtain ⟨i1,i2⟩:=HO a hl tw
 unfold qV ug aA ai
 dsimp only
 rcases i2 with ⟨hn,e⟩|⟨hA,e⟩
 ·rw [e]
  exact ⟨⟨i1,fun q=>absurd rfl q⟩,.inl ⟨hn,rfl⟩⟩
 ·rw [e]
  have hR:=hA.rgt
  obtain ⟨pl1,pl2⟩:=JM a hR hl
  generalize hT:r9 a.2.2.2.1 a.2.2.2.2 a.2.2.1 a.2.2.2.1.length=T
  have hTl:T.length=(cW a.2.2.2.1).length/\ T.length<=500*a.2.2.2.1.length:=by
   obtain ⟨t1,t2,t3⟩:=vp hR a.2.2.2.2 a.2.2.1 a.2.2.2.1.length (Nat.le_refl _)
   rw [hT] at t1 t3
   rw [List.take_length] at t1
   exact ⟨t1,t3⟩
  have key:TR (ie (a,t)) (lS (a,t)) (T,cW a.2.2.2.1,0) fun r=>(∃k,k<(cW a.2.2.2.1).length/\ (cW a.2.2.2.1).getD k 0=t/\ r= .inl ((T.getD k zT).1.1,(T.getD k zT).1.2,(T.getD k zT).2.1.1,(T.getD k zT).2.1.2,(T.getD k zT).2.2.1,(T.getD k zT).2.2.2))\/ (t∉cW a.2.2.2.1/\ r= .inr ()):=by
   refine aZ (cW a.2.2.2.1).length (fun i st=>st=(T,cW a.2.2.2.1,(i:Int))/\ t∉(cW a.2.2.2.1).take i) _ (fun i st hi hj=> ?_) (fun st hj=> ?_) ⟨rfl,by simp⟩
   ·obtain ⟨rfl,hN⟩:=hj
    refine ⟨?_,?_⟩
    ·unfold lS
     intro _
     dsimp only
     rw [Int.toNat_natCast]
     exact ⟨⟨by omega,by omega⟩,hi,hi,fun _=>⟨⟨by omega,by omega⟩,by omega,by omega⟩⟩
    ·unfold ie
     dsimp only
     rw [if_pos (by omega),Int.toNat_natCast]
     by_cases c:(cW a.2.2.2.1).getD i 0=t
     ·rw [if_pos (by rw [c];exact beq_self_eq_true _)]
      exact .inr ⟨_,rfl,.inl ⟨i,hi,c,rfl⟩⟩
     ·rw [if_neg (fun q=>c (eq_of_beq q))]
      refine .inl ⟨_,rfl,by rw [fJ hi (by omega)],?_⟩
      rw [b9 hi 0,List.mem_append,List.mem_singleton]
      exact fun q=>q.elim hN fun q=>c q.symm
   ·obtain ⟨rfl,hN⟩:=hj
    rw [List.take_length] at hN
    refine ⟨?_,_,?_,.inr ⟨hN,rfl⟩⟩
    ·unfold lS
     intro q
     dsimp only at q;omega
    ·unfold ie
     dsimp only
     rw [if_neg (by omega)]
  dsimp only
  rw [pl2]
  refine ⟨⟨i1,fun _=>⟨pl1,key.1⟩⟩,.inr ⟨hA,?_⟩⟩
  rw [if_neg (by decide)]
  rcases key.2 with ⟨k,k1,k2,e⟩|⟨k1,e⟩
  ·rw [e];exact .inl ⟨k,k1,k2,rfl⟩
  ·rw [e];exact .inr ⟨k1,rfl⟩
def Sml (l:oU):Prop:=l.length<=12/\ ∀p∈l,p.1.length<=1000/\ p.2.1.length<=1000
theorem SH (a:FV) (hs:Sml a.2.2.2.1) (tw:a.2.2.2.2.length<=1000):uh a/\ HX a=a:=by
 obtain ⟨s1,s2⟩:=hs
 have key:TR (jn a) (nG a) ([],a.2.2.2.2,0) fun r=>r=(a.2.2.2.1,a.2.2.2.2):=by
  refine aZ a.2.2.2.1.length (fun i st=>st=(a.2.2.2.1.take i,a.2.2.2.2,(i:Int))) _ (fun i st hi hj=> ?_) (fun st hj=> ?_) rfl
  ·subst hj
   have hp:=s2 _ (bZ hi zP)
   obtain ⟨p1,p2⟩:=HD (p:=a.2.2.2.1.getD i zP) (by omega) (by omega)
   refine ⟨?_,.inl ⟨_,?_,rfl⟩⟩
   ·unfold nG aA
    intro _
    dsimp only
    rw [Int.toNat_natCast]
    exact ⟨⟨by omega,by omega⟩,hi,hi,p1,by rw [List.length_take];omega⟩
   ·unfold jn ai
    dsimp only
    rw [if_pos (by omega),Int.toNat_natCast,show wq (a.2.2.2.1.getD i ([],[],0,0))=_ from p2,fJ hi (by omega),b9 hi zP]
  ·subst hj
   refine ⟨?_,_,?_,rfl⟩
   ·unfold nG
    intro q
    dsimp only at q;omega
   ·unfold jn
    dsimp only
    rw [if_neg (by omega),List.take_length]
 unfold uh HX aA ai
 have e:Nv a.2.2.2.2=a.2.2.2.2:=rfl
 rw [e]
 dsimp only
 rw [key.2]
 exact ⟨⟨(show 0+a.2.2.2.2.length<1099511627776 by omega),key.1⟩,rfl⟩
theorem Nq (p:JW) (h1:p.1.length<=1000) (h2:p.2.1.length<=1000):n8 (p,p)/\ xH (p,p)=true:=aag p (by omega) (by omega)
theorem By (a:FV) (hs:Sml a.2.2.2.1) (tw:a.2.2.2.2.length<=1000):bP (a,a)/\ cr (a,a)=true:=by
 obtain ⟨s1,s2⟩:=hs
 have key:TR (ik (a,a)) (lW (a,a)) 0 fun r=>r= .inr ():=by
  refine aZ a.2.2.2.1.length (fun i st=>st=(i:Int)) _ (fun i st hi hj=> ?_) (fun st hj=> ?_) rfl
  ·subst hj
   have hp:=s2 _ (bZ hi zP)
   obtain ⟨p1,p2⟩:=Nq (a.2.2.2.1.getD i zP) hp.1 hp.2
   refine ⟨?_,.inl ⟨_,?_,rfl⟩⟩
   ·unfold lW
    intro _
    dsimp only
    rw [Int.toNat_natCast]
    exact ⟨⟨by omega,by omega⟩,hi,hi,⟨by omega,by omega⟩,hi,hi,p1⟩
   ·unfold ik ai
    dsimp only
    rw [if_pos (by omega),Int.toNat_natCast,show xH (a.2.2.2.1.getD i ([],[],0,0),a.2.2.2.1.getD i ([],[],0,0))=_ from p2,if_neg (by decide),fJ hi (by omega)]
  ·subst hj
   refine ⟨?_,_,?_,rfl⟩
   ·unfold lW
    intro q
    dsimp only at q;omega
   ·unfold ik
    dsimp only
    rw [if_neg (by omega)]
 obtain ⟨q1,q2⟩:=PG a.2.2.2.2 a.2.2.2.2 (by omega)
 have q2:=q2 rfl
 have nn: ∀n:Int,¬((n !=n)=true):=fun n=>by simp
 refine ⟨fun _ _ _ _=>⟨q1,lu fun _=>key.1⟩,?_⟩
 unfold cr
 dsimp only
 rw [if_neg (nn _),if_neg (nn _),if_neg (nn _),if_neg (nn _),jv,q2,if_neg (by decide),jv,key.2]
 rfl
theorem Ee (l:oU):uf l/\ (ud l=false->Sml l):=by
 have key:TR (fV l) (jS l) (0,0) fun r=>(r= .inl ())\/ ∃n,r= .inr n/\ (l.length<=12-> ∀p∈l,p.1.length<=1000/\ p.2.1.length<=1000):=by
  by_cases Xz:l.length<=12
  ·refine aZ l.length (fun i s=>s.2=(i:Int)∧ ∀p∈l.take i,p.1.length≤1000∧p.2.1.length≤1000) _ (fun i s hi hj=> ?_) (fun s hj=> ?_) ⟨rfl,fun p hp=>(by simp at hp)⟩
   ·obtain ⟨n,z⟩:=s
    obtain ⟨e,hA⟩:=hj
    dsimp only at e hA;subst e
    refine ⟨?_,?_⟩
    ·unfold jS aA
     intro _ _
     dsimp only
     rw [Int.toNat_natCast]
     exact ⟨⟨by omega,by omega⟩,hi,hi,fun _=>⟨⟨by omega,by omega⟩,hi,hi,hi⟩⟩
    ·unfold fV ai
     dsimp only
     rw [if_pos (by omega),if_pos (by omega),Int.toNat_natCast]
     cases hb:De (l.getD i ([],[],(0:Int),(0:Int))) with
     |true=>rw [if_pos rfl];exact .inr ⟨_,rfl,.inl rfl⟩
     |false=>
      rw [if_neg (by decide)]
      refine .inl ⟨_,rfl,fJ hi (by omega),fun p hp=> ?_⟩
      rw [b9 hi zP] at hp
      rcases List.mem_append.1 hp with h|h
      ·exact hA p h
      ·simp only [List.mem_singleton] at h
       subst h
       have hb:De (l.getD i zP)=false:=hb
       unfold De at hb
       split at hb
       ·cases hb
       ·have:=of_decide_eq_false hb
        exact ⟨by omega,by omega⟩
   ·obtain ⟨n,z⟩:=s
    obtain ⟨e,hA⟩:=hj
    dsimp only at e hA;subst e
    rw [List.take_length] at hA
    refine ⟨?_,.inr n,?_,.inr ⟨n,rfl,fun _=>hA⟩⟩
    ·unfold jS
     intro q
     dsimp only at q;omega
    ·unfold fV
     dsimp only
     rw [if_neg (by omega)]
  ·refine TR.stop (r:= .inr 0) ?_ ?_ (.inr ⟨0,rfl,fun q=>absurd q Xz⟩)
   ·unfold jS
    intro _ q
    omega
   ·unfold fV
    dsimp only
    rw [if_pos (by omega),if_neg (by omega)]
 refine ⟨key.1,?_⟩
 unfold ud ai
 dsimp only
 rcases key.2 with e|⟨b,e,hA⟩
 ·rw [e];intro q;cases q
 ·rw [e]
  intro q
  have q:(if ((l.length:Nat):Int)>12 then true else decide (b>30))=false:=q
  by_cases c:((l.length:Nat):Int)>12
  ·rw [if_pos c] at q;cases q
  ·exact ⟨by omega,hA (by omega)⟩
end Go.Proofs.YtbjfokijjefoeaaGreat
namespace Go.Proofs.YtbjfokijjefoeaaGreat
open Go Go.Ev Go.Proofs
theorem RY (x:Bool):dU x/\ eZ x=true:=by
 obtain ⟨b1,b2⟩:=Y6
 obtain ⟨c1,c2⟩:=V3
 obtain ⟨d1',d2'⟩:=V2
 obtain ⟨e1,e2⟩:=adt
 obtain ⟨f1,f2⟩:=aaZ
 obtain ⟨g1,g2⟩:=Da l0 (by decide)
 rw [G1] at g2
 obtain ⟨i1,i2⟩:=adu
 have s1:=qi [1,0] [1,0] (by decide)
 have s2:=qi [0,1] [0,1] (by decide)
 have s1':=s1.2.2 rfl
 have s2':=s2.2.2 rfl
 unfold dU eZ aA ai
 dsimp only
 rw [afk,afl]
 refine ⟨⟨b1,c1,d1',?_⟩,?_⟩
 ·rw [b2]
  intro _ _
  refine ⟨e1,f1,g1,?_⟩
  rw [g2,e2,f2]
  refine ⟨s1.1,fun _=>⟨by decide,by decide,by decide,fun _=>⟨by decide,by decide,by decide,fun _ _ _ _=>⟨s2.1,fun _ _ _=>⟨by decide,by decide,by decide,fun _ _=>i1⟩⟩⟩⟩⟩
 ·rw [c2,d2',b2]
  dsimp only
  rw [e2,f2,g2]
  dsimp only
  rw [s1',s2',i2]
  rfl
end Go.Proofs.YtbjfokijjefoeaaGreat
