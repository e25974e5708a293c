/- Plain laws: rows of patches: right, in order. -/
import Derived.Test.YtbjfokijjefoeaaGreatAd
import Derived.Test.YtbjfokijjefoeaaGreatBb
import Derived.Test.YtbjfokijjefoeaaGreatAm
noncomputable section
set_option linter.unusedSectionVars false
set_option linter.unusedVariables false
set_option linter.unusedSimpArgs false
namespace Go.Proofs.YtbjfokijjefoeaaGreat
open Go Go.Ev Go.Proofs
abbrev zP:JW:=([],[],0,0)
def U8 (w h pad:Int):Prop:=kF w/\ kF h/\ 1<=pad/\ pad<=8
theorem A5 (w h pad:Int):lH (w,h,pad)=true↔U8 w h pad:=by
 unfold lH
 dsimp only
 have m1:=lG w h
 have m2:=lG (bG w h) pad
 have m3:=gJ w h
 unfold U8 kF
 by_cases c1:bG (bG w h) pad>=1
 ·rw [if_pos c1]
  by_cases c2:bp w h<=256
  ·rw [if_pos c2,decide_eq_true_eq];omega
  ·rw [if_neg c2];exact ⟨fun q=>(by cases q),fun q=>absurd q (by omega)⟩
 ·rw [if_neg c1];exact ⟨fun q=>(by cases q),fun q=>absurd q (by omega)⟩
def yn (m:List (Int×Bool)) (s:List Int):Prop:= ∀x:Int,fQ (k:=yi) m x false=true↔x∈s
theorem yn.nil:yn [] []:=fun x=>by simp [fQ,nW]
theorem yn.put {m:List (Int×Bool)} {s:List Int} (h:yn m s) (x:Int):yn (kV (k:=yi) m x true) (s++ [x]):=by
 have key: ∀(m:List (Int×Bool)) (y:Int),fQ (k:=yi) (kV (k:=yi) m x true) y false=if y=x then true else fQ (k:=yi) m y false:=by
  intro m
  induction m with
  |nil=>
   intro y
   by_cases e:y=x
   ·subst e;simp [kV,fQ,nW,p8]
   ·simp only [kV,fQ,nW,p8]
    rw [show (y==x)=false from by simp [e],if_neg e]
  |cons p r ih=>
   intro y
   simp only [kV]
   by_cases e1:x=p.1
   ·have:p8 yi x p.1=true:=by simp [p8,e1]
    rw [this]
    by_cases e:y=x
    ·subst e;simp [fQ,nW,p8]
    ·simp only [fQ,nW,p8]
     rw [show (y==x)=false from by simp [e],show (y==p.1)=false from by simp [<- e1,e],if_neg e]
   ·have:p8 yi x p.1=false:=by simp [p8,e1]
    rw [this]
    by_cases e2:y=p.1
    ·have e: ¬y=x:=by omega
     simp [fQ,nW,p8,e2,show¬p.1=x by omega]
    ·have:=ih y
     simp only [fQ,nW,p8] at this ⊢
     rw [show ((y==p.1)=false) from by simp [e2]]
     exact this
 intro y
 rw [key]
 by_cases e:y=x
 ·simp [e]
 ·rw [if_neg e,h y];simp [e]
abbrev oU:Type:=List JW
def cW (l:oU):List Int:=l.flatMap Prod.fst
structure JX (l:oU):Prop where
 all: ∀p∈l,dO p
 once:(cW l).Nodup
theorem pR (l:oU) (p:JW):cW (l++ [p])=cW l++p.1:=by simp [cW]
theorem Z8 (l:oU) (m:List (Int×Bool)) (s:List Int) (hm:yn m s) (hs:s.Nodup) (t:List Int) (ht:t.length<4611686018427387904) (z:Int):
  TR (gp l) (nJ l) (m,z,t,(t.length:Int),0) fun r=>(r= .inl ()/\ ¬(s++t).Nodup)\/ (∃m',r= .inr (m',z)/\ yn m' (s++t)/\ (s++t).Nodup):=by
 refine aZ t.length (fun i st=> ∃m',st=(m',z,t,(t.length:Int),(i:Int))/\ yn m' (s++t.take i)/\ (s++t.take i).Nodup) _ (fun i st hi hj=> ?_) (fun st hj=> ?_) ⟨m,rfl,by simpa using hm,by simpa using hs⟩
 ·obtain ⟨m',rfl,hM,hN⟩:=hj
  have hsn:s++t.take (i+1)=(s++t.take i)++ [t.getD i 0]:=by rw [b9 hi 0,List.append_assoc]
  refine ⟨?_,?_⟩
  ·unfold nJ
   intro _
   dsimp only
   rw [Int.toNat_natCast]
   omega
  ·unfold gp ai
   dsimp only
   rw [if_pos (by omega),Int.toNat_natCast]
   by_cases hc:fQ (k:=yi) m' (t.getD i 0) false=true
   ·rw [if_pos hc]
    refine .inr ⟨_,rfl,.inl ⟨rfl,fun zq=> ?_⟩⟩
    have hmem:=(hM _).1 hc
    have:t=t.take i++(t.getD i 0::t.drop (i+1)):=by
     have:=List.take_append_drop i t
     rw [List.drop_eq_getElem_cons hi] at this
     rw [List.getD_eq_getElem?_getD,List.getElem?_eq_getElem hi]
     exact this.symm
    rw [this,<- List.append_assoc] at zq
    have:=(List.nodup_append.1 zq).2.2 _ hmem _ (List.mem_cons_self ..)
    exact this rfl
   ·rw [if_neg hc]
    refine .inl ⟨_,rfl,_,by rw [fJ hi ht],?_⟩
    ·rw [hsn]
     refine ⟨hM.put _,?_⟩
     rw [List.nodup_append]
     refine ⟨hN,by simp,fun a ha b hb=> ?_⟩
     simp only [List.mem_singleton] at hb
     subst hb
     intro e
     subst e
     exact hc ((hM _).2 ha)
 ·obtain ⟨m',rfl,hM,hN⟩:=hj
  rw [List.take_length] at hM hN
  refine ⟨?_,_,?_,.inr ⟨m',rfl,hM,hN⟩⟩
  ·unfold nJ
   intro q
   dsimp only at q;omega
  ·unfold gp
   dsimp only
   rw [if_neg (by omega)]
theorem Ls (l:oU) (hl:l.length<4611686018427387904):uA l/\ (uz l=true↔JX l):=by
 have key:TR (eG l) (jV l) ([],0) fun r=>(r= .inl ()/\ ¬JX l)\/ (r= .inr ()/\ JX l):=by
  refine aZ l.length (fun i st=> ∃m,st=(m,(i:Int))/\ yn m (cW (l.take i))/\ JX (l.take i)) _ (fun i st hi hj=> ?_) (fun st hj=> ?_) ⟨[],rfl,yn.nil,⟨by simp,by simp [cW]⟩⟩
  ·obtain ⟨m,rfl,hM,hR⟩:=hj
   have hmem:l.getD i zP∈l:=bZ hi _
   have hsn:=b9 hi zP
   have htr:cW (l.take (i+1))=cW (l.take i)++(l.getD i zP).1:=by rw [hsn,pR]
   have hsub: ∀ {P:Prop},(JX l->P)->JX l->P:=fun h=>h
   obtain ⟨f1,f2⟩:=nr (l.getD i zP)
   cases hf:QM (l.getD i zP) with
   |false=>
    refine ⟨?_,.inr ⟨.inl (),?_,.inl ⟨rfl,fun q=> ?_⟩⟩⟩
    ·unfold jV aA
     intro _
     dsimp only
     rw [Int.toNat_natCast]
     exact ⟨by omega,hi,hi,f1,fun q=>absurd (by rw [show QM (l.getD i ([],[],0,0))=false from hf];rfl) q⟩
    ·unfold eG ai
     dsimp only
     rw [if_pos (by omega),Int.toNat_natCast,show QM (l.getD i ([],[],0,0))=false from hf]
     rfl
    ·have:=f2.2 (q.all _ hmem);rw [hf] at this;cases this
   |true=>
    have hp:=f2.1 hf
    have hlen:(l.getD i zP).1.length<4611686018427387904:=by have:=hp.len;omega
    have hin:=Z8 l m _ hM hR.once (l.getD i zP).1 hlen (i:Int)
    refine ⟨?_,?_⟩
    ·unfold jV aA
     intro _
     dsimp only
     rw [Int.toNat_natCast]
     exact ⟨by omega,hi,hi,f1,fun q=>hin.1⟩
    ·have hst:eG l (m,(i:Int))=Sum.elim (fun a=>(Sum.inr (Sum.inl ()))) (fun b=>(Sum.inl (b.1,(az (b.2+(1:Int)))))) (run (gp l) (m,(i:Int),(l.getD i zP).1,(((l.getD i zP).1.length:Nat):Int),0)):=by
      unfold eG ai
      dsimp only
      rw [if_pos (by omega),Int.toNat_natCast,show QM (l.getD i ([],[],0,0))=true from hf]
      rfl
     rcases hin.2 with ⟨e,hn⟩|⟨m',e,hM',hN⟩
     ·rw [hst,e]
      refine .inr ⟨_,rfl,.inl ⟨rfl,fun q=>hn ?_⟩⟩
      rw [<- htr]
      have:cW l=cW (l.take (i+1))++cW (l.drop (i+1)):=by
       unfold cW;rw [<- List.flatMap_append,List.take_append_drop]
      have h2:=q.once
      rw [this] at h2
      exact (List.nodup_append.1 h2).1
     ·rw [hst,e]
      refine .inl ⟨_,rfl,m',?_,by rw [htr];exact hM',⟨fun p eo=> ?_,by rw [htr];exact hN⟩⟩
      ·dsimp only;rw [fJ hi hl]
      ·rw [hsn] at eo
       rcases List.mem_append.1 eo with h|h
       ·exact hR.all p h
       ·simp only [List.mem_singleton] at h
        subst h;exact hp
  ·obtain ⟨m,rfl,hM,hR⟩:=hj
   rw [List.take_length] at hR
   refine ⟨?_,.inr (),?_,.inr ⟨rfl,hR⟩⟩
   ·unfold jV
    intro q
    dsimp only at q;omega
   ·unfold eG
    dsimp only
    rw [if_neg (by omega)]
 refine ⟨key.1,?_⟩
 unfold uz ai
 rcases key.2 with ⟨e,hn⟩|⟨e,hy⟩
 ·rw [e];exact ⟨fun q=>(by cases q),fun q=>absurd q hn⟩
 ·rw [e];exact ⟨fun _=>hy,fun _=>rfl⟩
def Lt (n:Nat):List Int:=(List.range n).map fun (i:Nat)=>(i:Int)
theorem uB (n:Nat):(Lt n).length=n:=by simp [Lt]
theorem aad (l:oU) (hl:l.length<4611686018427387904):CD l (Lt l.length):=
 ⟨by rw [uB];exact hl,fun e he=>by
  obtain ⟨i,hi,rfl⟩:=List.mem_map.1 he
  have:=List.mem_range.1 hi
  show 0<=(i:Int)/\ (i:Int)<(l.length:Int)
  omega,trivial⟩
def Ord (l:oU):List Int:=srt l (Lt l.length)
theorem Da (l:oU) (hm:l.length<=most):dD l/\ fy l=Ord l:=by
 have hml:=Ub
 have hl:l.length<1099511627776:=by omega
 have key:TR (fT l) (ny l) (List.replicate l.length 0,0) fun r=>r=Lt l.length:=by
  refine aZ l.length (fun i st=>st=(Lt i++List.replicate (l.length- i) 0,(i:Int))) _ (fun i st hi hj=> ?_) (fun st hj=> ?_) (by simp [Lt])
  ·subst hj
   refine ⟨?_,.inl ⟨_,?_,rfl⟩⟩
   ·unfold ny
    intro _
    simp only [Int.toNat_natCast,List.length_append,uB,List.length_replicate]
    omega
   ·unfold fT ai
    dsimp only
    rw [List.length_replicate,if_pos (by omega),Int.toNat_natCast,fJ hi (by omega)]
    have:(Lt i++List.replicate (l.length- i) 0).set i (i:Int)=Lt (i+1)++List.replicate (l.length- (i+1)) 0:=by
     rw [List.set_append_right _ _ (by rw [uB];exact Nat.le_refl i),uB,Nat.sub_self,show l.length- i=(l.length- (i+1))+1 by omega,List.replicate_succ]
     simp [Lt,List.range_succ]
    rw [this]
  ·subst hj
   refine ⟨?_,_,?_,rfl⟩
   ·unfold ny
    intro q
    dsimp only at q;rw [List.length_replicate] at q;omega
   ·unfold fT
    dsimp only
    rw [List.length_replicate,if_neg (by omega),Nat.sub_self];simp
 obtain ⟨s1,s2⟩:=aar (aad l (by omega)) (by rw [uB];exact hm)
 refine ⟨?_,?_⟩
 ·unfold dD
  refine ⟨⟨Int.le_refl _,hl⟩,key.1,?_⟩
  unfold aA
  dsimp only
  rw [key.2];exact s1
 ·unfold fy ai
  dsimp only
  rw [key.2];exact s2
theorem A7 (l:oU):(Ord l).Perm (Lt l.length):=aay _ _
theorem eI (l:oU):(Ord l).length=l.length:=by rw [(A7 l).length_eq,uB]
theorem FE (l:oU) (x:Int):x∈Ord l↔0<=x/\ x<(l.length:Int):=by
 rw [(A7 l).mem_iff]
 simp only [Lt,List.mem_map,List.mem_range]
 constructor
 ·rintro ⟨i,hi,rfl⟩;omega
 ·rintro ⟨h1,h2⟩;exact ⟨x.toNat,by omega,by omega⟩
theorem C9 (l:oU):(Ord l).Nodup:=by
 rw [(A7 l).nodup_iff]
 unfold Lt
 refine List.Pairwise.map _ (fun a b h=> ?_) List.nodup_range
 intro e;apply h;omega
theorem Hq (l:oU):(Ord l).Pairwise fun x y=>C1 l y x=false:=by
 have h:=List.pairwise_mergeSort (le:=fun x y=> !C1 l y x) (fun a b c h1 h2=>by
  simp only [Bool.not_eq_true'] at h1 h2 ⊢
  rw [yB] at*;omega) (fun a b=>by
  simp only [Bool.or_eq_true,Bool.not_eq_true']
  rw [yB,yB];omega) (Lt l.length)
 exact h.imp fun h=>by simpa using h
end Go.Proofs.YtbjfokijjefoeaaGreat
namespace Go.Proofs.YtbjfokijjefoeaaGreat
open Go Go.Ev Go.Proofs
abbrev FV:Type:=Int×(Int×Int×oU×List vf)
abbrev zA:FV:=(0,0,0,[],[])
def Ab (p:JW) (pad:Int):Int×Int:=(p.2.2.1+2*pad,p.2.2.2+2*pad)
theorem adp (n:Int):0<=Sz n/\ Sz n<=257:=by unfold Sz;split<;>(try split)<;>omega
theorem dO.adH {p:JW} (h:dO p):(0<=p.2.2.1/\ p.2.2.1<=257)/\ 0<=p.2.2.2/\ p.2.2.2<=257:=by
 rw [h.w,h.h];exact ⟨adp _,adp _⟩
theorem Ly {p:JW} (h:dO p) {pad:Int} (hp:1<=pad/\ pad<=8):Eu (p,pad)=Ab p pad:=by
 have:=h.adH
 unfold Eu Ab
 dsimp only
 rw [aR (n:=2*pad) (by omega) (by omega),aR (n:=p.2.2.1+2*pad) (by omega) (by omega),aR (n:=p.2.2.2+2*pad) (by omega) (by omega)]
theorem acv {p:JW} (h:dO p) {pad:Int} (hp:1<=pad/\ pad<=8) (h1:(Ab p pad).1<=256) (h2:(Ab p pad).2<=256):kF (Ab p pad).1/\ kF (Ab p pad).2:=by
 have:=h.adH
 unfold Ab kF at*
 dsimp only at*
 omega
def ov (l:oU) (pad:Int):List (Int×Int):=(Ord l).map fun i=>Ab (l.getD i.toNat zP) pad
theorem nP (l:oU) (pad:Int):(ov l pad).length=l.length:=by unfold ov;rw [List.length_map,eI]
theorem xE (l:oU) {k:Nat} (hk:k<l.length):0<=(Ord l).getD k 0/\ (Ord l).getD k 0<(l.length:Int):=(FE l _).1 (bZ (by rw [eI];exact hk) 0)
theorem UY (l:oU) (pad:Int) {k:Nat} (hk:k<l.length):(ov l pad).getD k (0,0)=Ab (l.getD ((Ord l).getD k 0).toNat zP) pad:=by
 unfold ov
 have h:k<(Ord l).length:=by rw [eI];exact hk
 rw [List.getD_eq_getElem?_getD,List.getElem?_map,List.getElem?_eq_getElem h,List.getD_eq_getElem?_getD (l:=Ord l),List.getElem?_eq_getElem h];rfl
theorem zE {l:List Int} (h:l.Nodup) {i j:Nat} (hi:i<l.length) (hj:j<l.length) (e:l.getD i 0=l.getD j 0):i=j:=by
 rw [List.getD_eq_getElem?_getD,List.getD_eq_getElem?_getD,List.getElem?_eq_getElem hi,List.getElem?_eq_getElem hj] at e
 exact (List.getElem_inj h).1 e
def Fits (l:List (Int×Int)):Prop:= ∀p∈l,p.1<=256/\ p.2<=256
theorem UZ {l:oU} (hl:JX l) {pad:Int} (hp:1<=pad/\ pad<=8) (hf:Fits (ov l pad)): ∀p∈ov l pad,kF p.1/\ kF p.2:=fun p eo=>by
 obtain ⟨h1,h2⟩:=hf p eo
 unfold ov at eo
 obtain ⟨i,hi,rfl⟩:=List.mem_map.1 eo
 have:=(FE l i).1 hi
 exact acv (hl.all _ (bZ (by omega) _)) hp h1 h2
section
variable (w h pad:Int) (l:oU)
theorem N9 (hl:l.length<1099511627776) (hR:JX l) (hp:1<=pad/\ pad<=8):TR (fI (w,h,pad,l)) (m8 (w,h,pad,l)) (Ord l,[],((Ord l).length:Int),0)
  fun r=>(r= .inl ()/\ ¬Fits (ov l pad))\/ (r= .inr (Ord l,ov l pad)/\ Fits (ov l pad)):=by
 refine aZ l.length (fun i st=>st=(Ord l,(ov l pad).take i,((Ord l).length:Int),(i:Int))/\ Fits ((ov l pad).take i)) _ (fun i st hi hj=> ?_) (fun st hj=> ?_) ⟨rfl,by simp [Fits]⟩
 ·obtain ⟨rfl,hF⟩:=hj
  have hlo:=eI l
  have hls:=nP l pad
  have hg:=xE l hi
  have hin:((Ord l).getD i 0).toNat<l.length:=by omega
  have hq:=Ly (hR.all _ (bZ hin zP)) hp
  have hsz:=UY l pad hi
  refine ⟨?_,?_⟩
  ·unfold m8 aA
   intro _
   dsimp only
   rw [Int.toNat_natCast,hlo]
   exact ⟨by omega,hi,hi,by omega,hin,hin,fun _=>by rw [List.length_take,hls];omega⟩
  ·unfold fI ai
   dsimp only
   rw [hlo,if_pos (by omega),Int.toNat_natCast,show Eu (l.getD ((Ord l).getD i 0).toNat ([],[],0,0),pad)=_ from hq,<- hsz]
   have hm:=gJ ((ov l pad).getD i (0,0)).1 ((ov l pad).getD i (0,0)).2
   have hmem:(ov l pad).getD i (0,0)∈ov l pad:=bZ (by rw [hls];exact hi) _
   by_cases c:bp ((ov l pad).getD i (0,0)).1 ((ov l pad).getD i (0,0)).2>256
   ·rw [if_pos c]
    exact .inr ⟨_,rfl,.inl ⟨rfl,fun q=>by have:=q _ hmem;omega⟩⟩
   ·rw [if_neg c]
    refine .inl ⟨_,rfl,?_,fun p eo=> ?_⟩
    ·rw [fJ hi (by omega),b9 (by rw [hls];exact hi) (0,0)]
    ·rw [b9 (by rw [hls];exact hi) (0,0)] at eo
     rcases List.mem_append.1 eo with eo|eo
     ·exact hF p eo
     ·simp only [List.mem_singleton] at eo
      subst eo;omega
 ·obtain ⟨rfl,hF⟩:=hj
  rw [<- nP l pad,List.take_length] at hF
  refine ⟨?_,_,?_,.inr ⟨rfl,hF⟩⟩
  ·unfold m8
   intro q
   dsimp only at q
   rw [eI] at q;omega
  ·unfold fI
   dsimp only
   rw [eI,if_neg (by omega)]
   have:(ov l pad).take l.length=ov l pad:=by rw [<- nP l pad,List.take_length]
   rw [this]
theorem ab0 {p:JW} (hp:dO p) (z:Int):Hr (p,z)/\ Zt (p,z)=p:=by
 have h1:=hp.len
 have h2:=hp.same
 exact ⟨⟨Vl _ (by dsimp only;omega),J9 _ (by dsimp only;omega)⟩,rfl⟩
theorem Vh (hl:l.length<1099511627776) (hR:JX l) (o:List Int) (q:List vf):TR (eu (w,h,pad,l)) (m9 (w,h,pad,l)) (o,q,[],0) fun r=>r=(o,q,l):=by
 refine aZ l.length (fun i st=>st=(o,q,l.take i,(i:Int))) _ (fun i st hi hj=> ?_) (fun st hj=> ?_) rfl
 ·subst hj
  obtain ⟨p1,p2⟩:=ab0 (hR.all _ (bZ hi zP)) pad
  refine ⟨?_,.inl ⟨_,?_,rfl⟩⟩
  ·unfold m9 aA
   intro _
   dsimp only
   rw [Int.toNat_natCast]
   exact ⟨by omega,hi,hi,p1,by rw [List.length_take];omega⟩
  ·unfold eu ai
   dsimp only
   rw [if_pos (by omega),Int.toNat_natCast,show Zt (l.getD i ([],[],0,0),pad)=_ from p2,fJ hi (by omega),b9 hi zP]
 ·subst hj
  refine ⟨?_,_,?_,rfl⟩
  ·unfold m9
   intro q
   dsimp only at q;omega
  ·unfold eu
   dsimp only
   rw [if_neg (by omega),List.take_length]
def Put (l:oU) (q R:List vf):Prop:=R.length=l.length/\ ∀j,j<l.length->R.getD ((Ord l).getD j 0).toNat zR=q.getD j zR
theorem Vi (hl:l.length<1099511627776) (q:List vf) (hq:q.length=l.length):TR (eA (w,h,pad,l)) (nc (w,h,pad,l)) (q,l,List.replicate l.length zR,Ord l,((Ord l).length:Int),0)
  fun r=>r.1=l/\ Put l q r.2:=by
 refine aZ l.length (fun i st=> ∃acc,st=(q,l,acc,Ord l,((Ord l).length:Int),(i:Int))/\ acc.length=l.length/\ ∀j,j<i->acc.getD ((Ord l).getD j 0).toNat zR=q.getD j zR) _ (fun i st hi hj=> ?_) (fun st hj=> ?_) ⟨_,rfl,by simp,fun j hj=>absurd hj (Nat.not_lt_zero _)⟩
 ·obtain ⟨acc,rfl,ha,hJ⟩:=hj
  have hlo:=eI l
  have hg:=xE l hi
  refine ⟨?_,.inl ⟨_,?_,acc.set ((Ord l).getD i 0).toNat (q.getD i zR),rfl,by simp [ha],fun j hj=> ?_⟩⟩
  ·unfold nc
   intro _
   dsimp only
   rw [Int.toNat_natCast,hlo,hq,ha]
   omega
  ·unfold eA ai
   dsimp only
   rw [hlo,if_pos (by omega),Int.toNat_natCast,fJ hi (by omega)]
  ·rw [List.getD_eq_getElem?_getD,List.getElem?_set]
   by_cases e:((Ord l).getD i 0).toNat=((Ord l).getD j 0).toNat
   ·have hgj:=xE l (k:=j) (by omega)
    have:i=j:=zE (C9 l) (by omega) (by omega) (by omega)
    subst this
    rw [if_pos rfl,if_pos (by omega)];rfl
   ·rw [if_neg e,←List.getD_eq_getElem?_getD]
    have:j≠i:=fun q=>e (by rw [q])
    exact hJ j (by omega)
 ·obtain ⟨acc,rfl,ha,hJ⟩:=hj
  refine ⟨?_,(l,acc),?_,rfl,ha,hJ⟩
  ·unfold nc
   intro q
   dsimp only at q;rw [eI] at q;omega
  ·unfold eA
   dsimp only
   rw [eI,if_neg (by omega)]
def QT (r:FV×Int):Prop:=
 (¬(U8 w h pad/\ JX l)/\ r=(zA,1))\/ (U8 w h pad/\ JX l/\ (Fits (ov l pad)->fC h (List.replicate w.toNat 0) (ov l pad)=none)/\ r=(zA,9))\/
 (U8 w h pad/\ JX l/\ Fits (ov l pad)/\ ∃q R,fC h (List.replicate w.toNat 0) (ov l pad)=some q/\ Put l q R/\ r=((w,h,pad,l,R),0))
theorem Lz (hw:kF w) (hh:kF h):FZ w.toNat h (List.replicate w.toNat 0):=⟨by simp,fun v hv=>by have:=List.eq_of_mem_replicate hv;have:=hh.1;omega⟩
theorem w9 (hm:l.length<=most):fq (w,h,pad,l)/\ QT w h pad l (jH (w,h,pad,l)):=by
 have hml:=Ub
 have hl:l.length<1099511627776:=by omega
 have n1:=A5 w h pad
 obtain ⟨r1,r2⟩:=Ls l (by omega)
 unfold fq jH aA ai
 dsimp only
 cases hn:lH (w,h,pad) with
 |false=>
  refine ⟨fun q=>absurd rfl q,.inl ⟨fun q=> ?_,rfl⟩⟩
  rw [n1.2 q.1] at hn;cases hn
 |true=>
  have hN:=n1.1 hn
  obtain ⟨hw,hh,hp⟩:=hN
  cases hr:uz l with
  |false=>
   refine ⟨fun _=>⟨r1,fun q=>absurd rfl q⟩,.inl ⟨fun q=> ?_,rfl⟩⟩
   rw [r2.2 q.2] at hr;cases hr
  |true=>
   have hR:=r2.1 hr
   obtain ⟨o1,o2⟩:=Da l hm
   rw [o2]
   have hs:=N9 w h pad l hl hR hp
   have hs1:=hs.1
   rcases hs.2 with ⟨e,hF⟩|⟨e,hF⟩
   ·rw [e]
    exact ⟨fun _=>⟨r1,fun _=>⟨o1,hs1,trivial⟩⟩,.inr (.inl ⟨⟨hw,hh,hp⟩,hR,fun q=>absurd q hF,rfl⟩)⟩
   ·rw [e]
    have hin:=UZ hR hp hF
    obtain ⟨k1,k2⟩:=Zu hw hh (ov l pad) (by rw [nP];exact hl) hin
    cases hk:fC h (List.replicate w.toNat 0) (ov l pad) with
    |none=>
     rw [hk] at k2
     have k2:pack (w,h,ov l pad)=([],9):=k2
     refine ⟨fun _=>⟨r1,fun _=>⟨o1,hs1,k1,fun q=> ?_⟩⟩,.inr (.inl ⟨⟨hw,hh,hp⟩,hR,fun _=>hk,?_⟩)⟩
     ·exfalso
      refine q ?_
      show ((pack (w,h,ov l pad)).2 !=(0:Int))=true
      rw [k2];rfl
     ·show (if ((pack (w,h,ov l pad)).2 !=(0:Int))=true then _ else _)=_
      rw [k2];rfl
    |some q=>
     rw [hk] at k2
     have k2:pack (w,h,ov l pad)=(q,0):=k2
     have XC:=hw
     have CZ:=hh
     obtain ⟨w1,w2⟩:=hw
     obtain ⟨h1,h2⟩:=hh
     have hql:q.length=l.length:=by
      have:=(Pf (w:=w.toNat) (h:=h) (by omega) h2 (ov l pad) _ q hin (Lz w h XC CZ) hk).1
      rw [<- nP l pad,<- this,List.length_map]
     have hO:=Vh w h pad l hl hR (Ord l) q
     have hP:=Vi w h pad l hl q hql
     have hO2:run (eu (w,h,pad,l)) (Ord l,q,[],0)=(Ord l,q,l):=hO.2
     refine ⟨fun _=>⟨r1,fun _=>⟨o1,hs1,k1,fun _=> ?_⟩⟩,.inr (.inr ⟨⟨XC,CZ,hp⟩,hR,hF,q,(run (eA (w,h,pad,l)) (q,l,List.replicate l.length zR,Ord l,((Ord l).length:Int),0)).2,hk,hP.2.2,?_⟩)⟩
     ·rw [k2]
      dsimp only
      rw [hO2]
      exact ⟨⟨Int.le_refl _,hl⟩,hO.1,hP.1⟩
     ·show (if ((pack (w,h,ov l pad)).2 !=(0:Int))=true then _ else _)=_
      rw [k2]
      show (_,_)=_
      dsimp only
      rw [hO2]
      have:=hP.2.1
      generalize run (eA (w,h,pad,l)) (q,l,List.replicate l.length zR,Ord l,((Ord l).length:Int),0)=z at this ⊢
      obtain ⟨z1,z2⟩:=z
      dsimp only at this
      subst this;rfl
end
structure pT (a:FV):Prop where
 num:U8 a.1 a.2.1 a.2.2.1
 len:a.2.2.2.2.length=a.2.2.2.1.length
 rgt:JX a.2.2.2.1
 Ab: ∀i,i<a.2.2.2.1.length->(a.2.2.2.2.getD i zR).2.2=Ab (a.2.2.2.1.getD i zP) a.2.2.1
 sh:Mp a.1 a.2.1 a.2.2.2.2
theorem MU (a:FV) (hl:a.2.2.2.1.length<1099511627776) (tw:a.2.2.2.2.length<1099511627776):jw a/\ (GY a=true↔pT a):=by
 obtain ⟨w,h,pad,l,R⟩:=a
 dsimp only at hl tw
 have n1:=A5 w h pad
 obtain ⟨r1,r2⟩:=Ls l (by omega)
 unfold jw GY aA ai
 dsimp only
 cases hn:lH (w,h,pad) with
 |false=>
  refine ⟨fun q=>absurd rfl q,fun q=>(by cases q),fun q=> ?_⟩
  rw [n1.2 q.num] at hn;cases hn
 |true=>
  have hN:=n1.1 hn
  obtain ⟨hw,hh,hp⟩:=hN
  by_cases hlen:R.length=l.length
  rotate_left
  ·have hb:(((R.length:Nat):Int) !=((l.length:Nat):Int))=true:=by simp;omega
   refine ⟨fun _ q=>absurd hb q,?_⟩
   rw [if_neg (by decide),if_pos hb]
   exact ⟨fun q=>(by cases q),fun q=>absurd q.len hlen⟩
  have hb: ¬(((R.length:Nat):Int) !=((l.length:Nat):Int))=true:=by simp;omega
  rw [if_neg (by decide),if_neg hb]
  cases hr:uz l with
  |false=>
   refine ⟨fun _ _=>⟨r1,fun q=>absurd rfl q⟩,fun q=>(by cases q),fun q=> ?_⟩
   rw [r2.2 q.rgt] at hr;cases hr
  |true=>
   have hR:=r2.1 hr
   have key:TR (kJ (w,h,pad,l,R)) (tB (w,h,pad,l,R)) 0 fun r=>(r= .inl ()/\ ¬ ∀i,i<l.length->(R.getD i zR).2.2=Go.Proofs.YtbjfokijjefoeaaGreat.Ab (l.getD i zP) pad)\/ (r= .inr ()/\ ∀i,i<l.length->(R.getD i zR).2.2=Go.Proofs.YtbjfokijjefoeaaGreat.Ab (l.getD i zP) pad):=by
    refine aZ l.length (fun i s=>s=(i:Int)/\ ∀j,j<i->(R.getD j zR).2.2=Go.Proofs.YtbjfokijjefoeaaGreat.Ab (l.getD j zP) pad) _ (fun i s hi hj=> ?_) (fun s hj=> ?_) ⟨rfl,fun j hj=>absurd hj (Nat.not_lt_zero _)⟩
    ·obtain ⟨rfl,hJ⟩:=hj
     have hq:=Ly (hR.all _ (bZ hi zP)) hp
     refine ⟨?_,?_⟩
     ·unfold tB
      intro _
      dsimp only
      rw [Int.toNat_natCast]
      omega
     ·unfold kJ ai
      dsimp only
      rw [if_pos (by omega),Int.toNat_natCast,show Eu (l.getD i ([],[],0,0),pad)=_ from hq]
      by_cases c:(R.getD i zR).2.2=Go.Proofs.YtbjfokijjefoeaaGreat.Ab (l.getD i zP) pad
      ·refine .inl ⟨_,?_,fJ hi (by omega),fun j hj=> ?_⟩
       ·rw [if_neg]
        rw [show (R.getD i (0,0,0,0)).2.2.1=_ from congrArg Prod.fst c,show (R.getD i (0,0,0,0)).2.2.2=_ from congrArg Prod.snd c]
        simp
       ·rcases Nat.lt_or_ge j i with h1|h1
        ·exact hJ j h1
        ·have:j=i:=by omega
         subst this;exact c
      ·refine .inr ⟨.inl (),?_,.inl ⟨rfl,fun q=>c (q i hi)⟩⟩
       rw [if_pos]
       have: ¬((R.getD i zR).2.2.1=(Go.Proofs.YtbjfokijjefoeaaGreat.Ab (l.getD i zP) pad).1/\ (R.getD i zR).2.2.2=(Go.Proofs.YtbjfokijjefoeaaGreat.Ab (l.getD i zP) pad).2):=fun q=>c (Prod.ext q.1 q.2)
       show (!(((R.getD i zR).2.2.1==(Go.Proofs.YtbjfokijjefoeaaGreat.Ab (l.getD i zP) pad).1)&&(((R.getD i zR).2.2.2==(Go.Proofs.YtbjfokijjefoeaaGreat.Ab (l.getD i zP) pad).2)&&true)))=true
       generalize (R.getD i zR).2.2=u at this ⊢
       generalize Go.Proofs.YtbjfokijjefoeaaGreat.Ab (l.getD i zP) pad=v at this ⊢
       cases hb:((u.1==v.1)&&((u.2==v.2)&&true)) with
       |false=>rfl
       |true=>
        simp only [Bool.and_eq_true,beq_iff_eq,and_true] at hb
        exact absurd hb this
    ·obtain ⟨rfl,hJ⟩:=hj
     refine ⟨?_,.inr (),?_,.inr ⟨rfl,hJ⟩⟩
     ·unfold tB
      intro q
      dsimp only at q;omega
     ·unfold kJ
      dsimp only
      rw [if_neg (by omega)]
   have k1:=key.1
   rw [if_neg (by decide)]
   obtain ⟨s1,s2⟩:=aam hw hh R (by omega)
   rcases key.2 with ⟨e,hS⟩|⟨e,hS⟩
   ·rw [e]
    exact ⟨fun _ _=>⟨r1,fun _=>⟨k1,trivial⟩⟩,fun q=>(by cases q),fun q=>absurd q.Ab hS⟩
   ·rw [e]
    refine ⟨fun _ _=>⟨r1,fun _=>⟨k1,s1⟩⟩,?_⟩
    show aal (w,h,R)=true↔_
    rw [s2]
    exact ⟨fun q=>⟨⟨hw,hh,hp⟩,hlen,hR,hS,q⟩,fun q=>q.sh⟩
end Go.Proofs.YtbjfokijjefoeaaGreat
namespace Go.Proofs.YtbjfokijjefoeaaGreat
open Go Go.Ev Go.Proofs
theorem Zb {n:Nat} (h:n<4294967296):(BitVec.toNat ((BitVec.ofInt 64 (n:Int))&&&(BitVec.ofInt 64 (4294967295:Int))))=n:=by
 have e1:(BitVec.ofInt 64 (n:Int)).toNat=n:=by
  rw [BitVec.toNat_ofInt];omega
 have e2:(BitVec.ofInt 64 (4294967295:Int)).toNat=2^32- 1:=by decide
 rw [BitVec.toNat_and,e1,e2,Nat.and_two_pow_sub_one_eq_mod]
 omega
theorem XU {n:Nat} (h:n<4294967296):N8 (1,(n:Int))=(0,(n:Int)):=by
 have f1:Int.fdiv 1 4294967296=0:=by decide
 have f2:Int.fdiv (n:Int) 4294967296=0:=by rw [Int.fdiv_eq_ediv_of_nonneg _ (by decide)];omega
 have l1:(BitVec.toNat ((BitVec.ofInt 64 (1:Int))&&&(BitVec.ofInt 64 (4294967295:Int))))=1:=Zb (n:=1) (by decide)
 have w0:IntKind.wrap IntKind.u64 0=0:=wrap64 (by decide) (by decide)
 have w1':IntKind.wrap IntKind.u64 1=1:=wrap64 (by decide) (by decide)
 have wn:IntKind.wrap IntKind.u64 (n:Int)=(n:Int):=wrap64 (by omega) (by omega)
 have z:(BitVec.toNat ((BitVec.ofInt 64 (0:Int))&&&(BitVec.ofInt 64 (4294967295:Int))))=0:=Zb (n:=0) (by decide)
 unfold N8 R2 ai
 dsimp only
 simp only [f1,f2,Zb h,l1,Int.zero_mul,Int.mul_zero,Int.one_mul,Int.zero_add,Int.add_zero,w0,wn,z,Int.natCast_zero,Int.natCast_one,w1',show Int.fdiv 0 4294967296=0 from by decide]
def rep (c m:Nat) (i:Int):List Int:=List.replicate c i++List.replicate (m- c) 0
theorem acm {c m:Nat} (h:c<=m) (i:Int):(rep c m i).length=m:=by simp only [rep,List.length_append,List.length_replicate];omega
theorem Z5 {c m:Nat} (h:c<=m) (i:Int):jE (rep c m i) c (m- c) ((rep c m i).take c)=rep (c+min c (m- c)) m i/\ qF (m- c) ((rep c m i).take c).length=min c (m- c):=by
 have e1:(rep c m i).take c=List.replicate c i:=by simp [rep]
 have e2:qF (m- c) (List.replicate c i).length=min c (m- c):=by unfold qF;rw [List.length_replicate]
 rw [e1,e2]
 refine ⟨?_,rfl⟩
 unfold jE
 rw [e1,e2]
 unfold rep
 rw [List.take_replicate,show min (min c (m- c)) c=min c (m- c) by omega,List.replicate_append_replicate,List.drop_append,List.length_replicate,List.drop_replicate,List.drop_replicate,show c- (c+min c (m- c))=0 by omega]
 simp only [List.replicate_zero,List.nil_append]
 rw [show m- c- (c+min c (m- c)- c)=m- (c+min c (m- c)) by omega]
theorem P8 (x:List Int×Int) (i:Int) (m:Nat) (hm:m<=1000000000): ∀k c,c+k=m->(0<c\/ k=0)->TR (iu x) (l7 x) (rep c m i,(c:Int)) fun r=>r=List.replicate m i:=by
 intro k
 induction k using Nat.strongRecOn with
 |ind k ih=>
  intro c hc h0
  have hl:=acm (c:=c) (m:=m) (by omega) i
  by_cases hk:k=0
  ·subst hk
   have:c=m:=by omega
   subst this
   refine TR.stop (r:=rep c c i) ?_ ?_ (by simp [rep])
   ·unfold l7
    intro q
    dsimp only at q;rw [hl] at q;omega
   ·unfold iu
    dsimp only
    rw [hl,if_neg (by omega)]
  ·obtain ⟨q1,q2⟩:=Z5 (c:=c) (m:=m) (by omega) i
   refine TR.go (s':=(rep (c+min c (m- c)) m i,((c+min c (m- c):Nat):Int))) ?_ ?_ (ih (k- min c (m- c)) (by omega) _ (by omega) (by omega))
   ·unfold l7
    intro _
    dsimp only
    rw [hl];omega
   ·unfold iu ai
    dsimp only
    rw [hl,if_pos (by omega),Int.toNat_natCast,Nat.add_zero,q1,q2,aR (by omega) (by omega)]
    congr 2
theorem S4 (i:Int) {n:Nat} (hn:n<=1000000000):qY ([i],(n:Int))/\ repeatM ([i],(n:Int))=List.replicate n i:=by
 have e1:IntKind.wrap IntKind.u64 ((([i]:List Int).length:Nat):Int)=1:=wrap64 (by simp) (by simp)
 have e2:IntKind.wrap IntKind.u64 ((n:Nat):Int)=(n:Int):=wrap64 (by omega) (by omega)
 have e3:az ((n:Nat):Int)=(n:Int):=aR (by omega) (by omega)
 have e4:jE (List.replicate n (0:Int)) 0 n [i]=rep (min 1 n) n i/\ qF n 1=min 1 n:=by
  refine ⟨?_,rfl⟩
  unfold jE
  show _++List.take (min 1 n) [i]++List.drop (0+min 1 n) _=_
  cases n with
  |zero=>rfl
  |succ n=>simp [rep,show min 1 (n+1)=1 by omega]
 have key:=P8 ([i],(n:Int)) i n hn (n- min 1 n) (min 1 n) (by omega) (by omega)
 unfold qY repeatM aA ai
 dsimp only
 rw [e1,e2,XU (by omega)]
 dsimp only
 rw [e3,Int.toNat_natCast,List.length_replicate]
 simp only [List.length_cons,List.length_nil,Nat.zero_add]
 rw [e4.1,e4.2]
 refine ⟨⟨fun q=>absurd q (by omega),fun _=>⟨fun q=>absurd q (by omega),fun _=>⟨fun q=>absurd q (by omega),fun _=>⟨⟨⟨by omega,by omega⟩,by omega⟩,key.1⟩⟩⟩⟩,?_⟩
 rw [if_neg (by omega),if_neg (by omega),if_neg (by omega)]
 exact key.2
theorem VX (l:List Int) (hl:l.length<4611686018427387904) (t:Int):zw (l,t)/\ rF (l,t)=match l.findIdx? (fun x=>t==x) with|some i=>(i:Int)|none=> -1:=
 tA l hl (fun x=>t==x) (iW (l,t)) (rG (l,t)) (fun i hi=>by
   unfold rG
   intro h
   simp only [Int.toNat_natCast]
   dsimp only at h ⊢;omega) (fun i x hx=>by
   have hlt:=cD hx
   unfold iW
   rw [if_pos (by dsimp only;omega),Int.toNat_natCast]
   dsimp only
   rw [iM hx]) (by
   unfold iW
   rw [if_neg (by dsimp only;omega)])
def sY (R:List vf) (pad:Int) (i:Nat):Int×Int:=(16*((R.getD i zR).1+pad),16*((R.getD i zR).2.1+pad))
def A2 (l:oU) (R:List vf) (pad:Int) (i:Nat):List T2:=(l.getD i zP).2.1.map (JU fun p=>nY (p,sY R pad i))
def r9 (l:oU) (R:List vf) (pad:Int) (k:Nat):List T2:=(List.range k).flatMap (A2 l R pad)
def CI (l:oU) (k:Nat):List Int:=(List.range k).flatMap fun i=>List.replicate (l.getD i zP).2.1.length (i:Int)
theorem CK (l:oU) (R:List vf) (pad:Int) (k:Nat):r9 l R pad (k+1)=r9 l R pad k++A2 l R pad k:=by simp [r9,List.range_succ]
theorem CJ (l:oU) (k:Nat):CI l (k+1)=CI l k++List.replicate (l.getD k zP).2.1.length (k:Int):=by simp [CI,List.range_succ]
theorem C3 (l:oU) (R:List vf) (pad:Int) (i:Nat):(A2 l R pad i).length=(l.getD i zP).2.1.length:=by simp [A2]
theorem vp {l:oU} (hl:JX l) (R:List vf) (pad:Int): ∀k,k<=l.length->(r9 l R pad k).length=(cW (l.take k)).length/\ (CI l k).length=(cW (l.take k)).length/\ (r9 l R pad k).length<=500*k:=by
 intro k
 induction k with
 |zero=>intro _;simp [r9,CI,cW]
 |succ k ih=>
  intro hk
  have hp:=hl.all _ (bZ (show k<l.length by omega) zP)
  have h1:=hp.len
  have h2:=hp.same
  obtain ⟨i1,i2,i3⟩:=ih (by omega)
  rw [CK,CJ,b9 (show k<l.length by omega) zP,pR]
  simp only [List.length_append,C3,List.length_replicate]
  omega
theorem pT.aeA {a:FV} (h:pT a) {i:Nat} (hi:i<a.2.2.2.1.length):Mn a.1 a.2.1 (a.2.2.2.2.getD i zR):=(h.sh i (by rw [h.len];exact hi)).1
theorem pT.way {a:FV} (h:pT a) {i:Nat} (hi:i<a.2.2.2.1.length):0<=(sY a.2.2.2.2 a.2.2.1 i).1/\ (sY a.2.2.2.2 a.2.2.1 i).1<=65536/\ 0<=(sY a.2.2.2.2 a.2.2.1 i).2/\ (sY a.2.2.2.2 a.2.2.1 i).2<=65536:=by
 obtain ⟨⟨r1,r2⟩,⟨r3,r4⟩,r5,r6⟩:=h.aeA hi
 obtain ⟨⟨w1,w2⟩,⟨h1,h2⟩,p1,p2⟩:=h.num
 unfold sY
 dsimp only
 omega
theorem Fk (a:FV) (hl:a.2.2.2.1.length<=1000000) (tw:a.2.2.2.2.length<1099511627776):pU a/\ ((¬pT a/\ allM a=([],[],1))\/
  (pT a/\ allM a=(r9 a.2.2.2.1 a.2.2.2.2 a.2.2.1 a.2.2.2.1.length,CI a.2.2.2.1 a.2.2.2.1.length,0))):=by
 obtain ⟨i1,i2⟩:=MU a (by omega) tw
 unfold pU allM aA ai
 cases hb:GY a with
 |false=>
  refine ⟨⟨i1,fun q=>absurd rfl q⟩,.inl ⟨fun q=> ?_,rfl⟩⟩
  rw [i2.2 q] at hb;cases hb
 |true=>
  have hA:=i2.1 hb
  have hR:=hA.rgt
  have key:TR (k7 a) (qy a) ([],[],0) fun r=>r= .inr (r9 a.2.2.2.1 a.2.2.2.2 a.2.2.1 a.2.2.2.1.length,CI a.2.2.2.1 a.2.2.2.1.length):=by
   refine aZ a.2.2.2.1.length (fun i st=>st=(r9 a.2.2.2.1 a.2.2.2.2 a.2.2.1 i,CI a.2.2.2.1 i,(i:Int))) _ (fun i st hi hj=> ?_) (fun st hj=> ?_) rfl
   ·subst hj
    have hp:=hR.all _ (bZ hi zP)
    have hlen:=hA.len
    obtain ⟨⟨r1,r2⟩,⟨r3,r4⟩,r5,r6⟩:=hA.aeA hi
    obtain ⟨⟨w1,w2⟩,⟨h1,h2⟩,p1,p2⟩:=hA.num
    have aeb:=hA.way hi
    have e1:az ((a.2.2.2.2.getD i zR).1+a.2.2.1)=(a.2.2.2.2.getD i zR).1+a.2.2.1:=aR (by omega) (by omega)
    have e2:az ((a.2.2.2.2.getD i zR).2.1+a.2.2.1)=(a.2.2.2.2.getD i zR).2.1+a.2.2.1:=aR (by omega) (by omega)
    have e3:az (16*((a.2.2.2.2.getD i zR).1+a.2.2.1))=16*((a.2.2.2.2.getD i zR).1+a.2.2.1):=aR (by omega) (by omega)
    have e4:az (16*((a.2.2.2.2.getD i zR).2.1+a.2.2.1))=16*((a.2.2.2.2.getD i zR).2.1+a.2.2.1):=aR (by omega) (by omega)
    have hm:=CW (a.2.2.2.1.getD i zP) (sY a.2.2.2.2 a.2.2.1 i)
    have hmv:Ay (a.2.2.2.1.getD i zP,sY a.2.2.2.2 a.2.2.1 i)=(A2 a.2.2.2.1 a.2.2.2.2 a.2.2.1 i,0):=by
     rcases hm.2 with ⟨q,_⟩|⟨_,q,_⟩|⟨_,_,q⟩
     ·exact absurd hp q
     ·exact absurd aeb q
     ·exact q
    have Yf:(a.2.2.2.1.getD i zP,az ((16:Int)*(az ((a.2.2.2.2.getD i zR).1+a.2.2.1))),az ((16:Int)*(az ((a.2.2.2.2.getD i zR).2.1+a.2.2.1))))=(a.2.2.2.1.getD i zP,sY a.2.2.2.2 a.2.2.1 i):=by rw [e1,e2,e3,e4];rfl
    have hml:=C3 a.2.2.2.1 a.2.2.2.2 a.2.2.1 i
    have hps:=hp.same
    have yy:=hp.len
    obtain ⟨t1,t2,t3⟩:=vp hR a.2.2.2.2 a.2.2.1 i (by omega)
    obtain ⟨q1,q2⟩:=S4 (i:Int) (n:=(A2 a.2.2.2.1 a.2.2.2.2 a.2.2.1 i).length) (by omega)
    refine ⟨?_,.inl ⟨_,?_,rfl⟩⟩
    ·unfold qy aA
     intro _
     dsimp only
     rw [Int.toNat_natCast,show (a.2.2.2.1.getD i ([],[],0,0),az ((16:Int)*(az ((a.2.2.2.2.getD i (0,0,0,0)).1+a.2.2.1))),az ((16:Int)*(az ((a.2.2.2.2.getD i (0,0,0,0)).2.1+a.2.2.1))))=_ from Yf,hmv]
     exact ⟨by omega,hi,hi,by omega,by omega,by omega,by omega,by omega,by omega,by omega,by omega,hm.1,fun _=>⟨by dsimp only;omega,q1,by dsimp only;rw [q2,List.length_replicate];omega⟩⟩
    ·unfold k7 ai
     dsimp only
     rw [if_pos (by omega),Int.toNat_natCast,show (a.2.2.2.1.getD i ([],[],0,0),az ((16:Int)*(az ((a.2.2.2.2.getD i (0,0,0,0)).1+a.2.2.1))),az ((16:Int)*(az ((a.2.2.2.2.getD i (0,0,0,0)).2.1+a.2.2.1))))=_ from Yf,hmv]
     dsimp only
     rw [if_neg (by decide),q2,fJ hi (by omega),CK,CJ,hml]
   ·subst hj
    refine ⟨?_,_,?_,rfl⟩
    ·unfold qy
     intro q
     dsimp only at q;omega
    ·unfold k7
     dsimp only
     rw [if_neg (by omega)]
  refine ⟨⟨i1,fun _=>key.1⟩,.inr ⟨hA,?_⟩⟩
  dsimp only
  rw [if_neg (by decide),key.2];rfl
theorem MK {l:List Int} {t:Int} {k:Nat} (h:l.findIdx? (fun x=>t==x)=some k):k<l.length/\ l.getD k 0=t:=by
 rw [List.findIdx?_eq_some_iff_getElem] at h
 obtain ⟨h1,h2,_⟩:=h
 refine ⟨h1,?_⟩
 rw [List.getD_eq_getElem?_getD,List.getElem?_eq_getElem h1]
 exact (by simpa using h2:t=l[k]).symm
theorem MJ {l:List Int} {t:Int} (h:l.findIdx? (fun x=>t==x)=none):t∉l:=fun hm=>by
 rw [List.findIdx?_eq_none_iff] at h
 have:=h t hm
 simp at this
def U7 (a:FV) (T:List T2) (t:Int) (r:T2×Bool):Prop:=
 (∃k,k<(cW a.2.2.2.1).length/\ (cW a.2.2.2.1).getD k 0=t/\ r=(T.getD k zT,true))\/ (t∉cW a.2.2.2.1/\ r=(zT,false))
theorem Ou (a:FV) (t:Int) (hl:a.2.2.2.1.length<=1000000) (tw:a.2.2.2.2.length<1099511627776):pN (a,t)/\ ((¬pT a/\ vL (a,t)=(zT,false))\/
  (pT a/\ U7 a (r9 a.2.2.2.1 a.2.2.2.2 a.2.2.1 a.2.2.2.1.length) t (vL (a,t)))):=by
 obtain ⟨i1,i2⟩:=Fk a hl tw
 unfold pN vL aA ai
 dsimp only
 rcases i2 with ⟨hn,e⟩|⟨hA,e⟩
 ·rw [e]
  exact ⟨⟨i1,fun q=>absurd rfl q⟩,.inl ⟨hn,rfl⟩⟩
 ·rw [e]
  have hR:=hA.rgt
  generalize hT:r9 a.2.2.2.1 a.2.2.2.2 a.2.2.1 a.2.2.2.1.length=T
  have hTl:T.length=(cW a.2.2.2.1).length/\ T.length<=500*a.2.2.2.1.length:=by
   obtain ⟨t1,t2,t3⟩:=vp hR a.2.2.2.2 a.2.2.1 a.2.2.2.1.length (Nat.le_refl _)
   rw [hT] at t1 t3
   rw [List.take_length] at t1
   exact ⟨t1,t3⟩
  have key:TR (iA (a,t)) (lf (a,t)) (T,0,0) fun r=>(∃k,k<(cW a.2.2.2.1).length/\ (cW a.2.2.2.1).getD k 0=t/\ r= .inl ((T.getD k zT).1.1,(T.getD k zT).1.2,(T.getD k zT).2.1.1,(T.getD k zT).2.1.2,(T.getD k zT).2.2.1,(T.getD k zT).2.2.2))\/ (t∉cW a.2.2.2.1/\ r= .inr ()):=by
   refine aZ a.2.2.2.1.length (fun i st=>st=(T,((cW (a.2.2.2.1.take i)).length:Int),(i:Int))/\ t∉cW (a.2.2.2.1.take i)) _ (fun i st hi hj=> ?_) (fun st hj=> ?_) ⟨rfl,by simp [cW]⟩
   ·obtain ⟨rfl,hN⟩:=hj
    have hp:=hR.all _ (bZ hi zP)
    have yy:=hp.len
    obtain ⟨x1,x2⟩:=VX (a.2.2.2.1.getD i zP).1 (by omega) t
    have GM:cW a.2.2.2.1=cW (a.2.2.2.1.take i)++((a.2.2.2.1.getD i zP).1++cW (a.2.2.2.1.drop (i+1))):=by
     have h:=List.take_append_drop i a.2.2.2.1
     rw [List.drop_eq_getElem_cons hi] at h
     have h2:=(congrArg cW h).symm
     rw [List.getD_eq_getElem?_getD,List.getElem?_eq_getElem hi]
     rw [h2]
     simp only [cW,List.flatMap_append,List.flatMap_cons,Option.getD_some]
    have hlen:=congrArg List.length GM
    simp only [List.length_append] at hlen
    cases hx:(a.2.2.2.1.getD i zP).1.findIdx? (fun x=>t==x) with
    |some k=>
     rw [hx] at x2
     have x2:rF ((a.2.2.2.1.getD i zP).1,t)=(k:Int):=x2
     obtain ⟨k1,k2⟩:=MK hx
     have ew:az (((cW (a.2.2.2.1.take i)).length:Int)+(k:Int))=(((cW (a.2.2.2.1.take i)).length+k:Nat):Int):=by rw [aR (by omega) (by omega)];omega
     refine ⟨?_,.inr ⟨_,?_,.inl ⟨(cW (a.2.2.2.1.take i)).length+k,by omega,?_,rfl⟩⟩⟩
     ·unfold lf aA
      intro _
      dsimp only
      rw [Int.toNat_natCast,show rF ((a.2.2.2.1.getD i ([],[],0,0)).1,t)=_ from x2,ew,Int.toNat_natCast]
      exact ⟨by omega,hi,hi,x1,fun _=>by omega⟩
     ·unfold iA ai
      dsimp only
      rw [if_pos (by omega),Int.toNat_natCast,show rF ((a.2.2.2.1.getD i ([],[],0,0)).1,t)=_ from x2,if_pos (by omega),ew,Int.toNat_natCast]
     ·rw [GM,List.getD_eq_getElem?_getD,List.getElem?_append_right (by omega),Nat.add_sub_cancel_left,List.getElem?_append_left k1,←List.getD_eq_getElem?_getD]
      exact k2
    |none=>
     rw [hx] at x2
     have x2:rF ((a.2.2.2.1.getD i zP).1,t)= -1:=x2
     have hnm:=MJ hx
     refine ⟨?_,.inl ⟨_,?_,rfl,?_⟩⟩
     ·unfold lf aA
      intro _
      dsimp only
      rw [Int.toNat_natCast,show rF ((a.2.2.2.1.getD i ([],[],0,0)).1,t)=_ from x2]
      exact ⟨by omega,hi,hi,x1,fun q=>absurd q (by omega)⟩
     ·unfold iA ai
      dsimp only
      have ew2:az (((cW (a.2.2.2.1.take i)).length:Int)+(((a.2.2.2.1.getD i zP).1.length:Nat):Int))=(((cW (a.2.2.2.1.take (i+1))).length:Nat):Int):=by
       rw [b9 hi zP,pR,List.length_append,aR (n:=((cW (a.2.2.2.1.take i)).length:Int)+(((a.2.2.2.1.getD i zP).1.length:Nat):Int)) (by omega) (by omega)];omega
      rw [if_pos (by omega),Int.toNat_natCast,show rF ((a.2.2.2.1.getD i ([],[],0,0)).1,t)=_ from x2,if_neg (by omega),fJ hi (by omega)]
      rw [show az (((cW (a.2.2.2.1.take i)).length:Int)+(((a.2.2.2.1.getD i ([],[],0,0)).1.length:Nat):Int))=_ from ew2]
     ·rw [b9 hi zP,pR,List.mem_append]
      exact fun q=>q.elim hN hnm
   ·obtain ⟨rfl,hN⟩:=hj
    rw [List.take_length] at hN
    refine ⟨?_,.inr (),?_,.inr ⟨hN,rfl⟩⟩
    ·unfold lf
     intro q
     dsimp only at q;omega
    ·unfold iA
     dsimp only
     rw [if_neg (by omega)]
  refine ⟨⟨i1,fun _=>key.1⟩,.inr ⟨hA,?_⟩⟩
  dsimp only
  rw [if_neg (by decide)]
  rcases key.2 with ⟨k,k1,k2,e⟩|⟨k1,e⟩
  ·rw [e];exact .inl ⟨k,k1,k2,rfl⟩
  ·rw [e];exact .inr ⟨k1,rfl⟩
end Go.Proofs.YtbjfokijjefoeaaGreat
