/- Plain laws: what is built is right. -/
import Derived.Test.YtaipcbdilkcdbaaVd
import Derived.Test.YtaipcbdilkcdbaaUc
noncomputable section
set_option linter.unusedSectionVars false
set_option linter.unusedVariables false
set_option linter.unusedSimpArgs false
namespace Go.Proofs.Ytaipcbdilkcdbaa
open Go Go.Ev Go.Proofs
theorem wrap64 {n:Int} (h1:0<=n) (h2:n<18446744073709551616):IntKind.wrap IntKind.u64 n=n:=by
 unfold IntKind.wrap
 simp [IntKind.bits,IntKind.signed]
 omega
theorem Pd {n:Nat} (h:n<4294967296):(BitVec.toNat ((BitVec.ofInt 64 (n:Int))&&&(BitVec.ofInt 64 (4294967295:Int))))=n:=by
 have e1:(BitVec.ofInt 64 (n:Int)).toNat=n:=by
  rw [BitVec.toNat_ofInt];omega
 have e2:(BitVec.ofInt 64 (4294967295:Int)).toNat=2^32- 1:=by decide
 rw [BitVec.toNat_and,e1,e2,Nat.and_two_pow_sub_one_eq_mod]
 omega
theorem NM {n:Nat} (h:n<4294967296):FX (1,(n:Int))=(0,(n:Int)):=by
 have f1:Int.fdiv 1 4294967296=0:=by decide
 have f2:Int.fdiv (n:Int) 4294967296=0:=by rw [Int.fdiv_eq_ediv_of_nonneg _ (by decide)];omega
 have l1:(BitVec.toNat ((BitVec.ofInt 64 (1:Int))&&&(BitVec.ofInt 64 (4294967295:Int))))=1:=Pd (n:=1) (by decide)
 have w0:IntKind.wrap IntKind.u64 0=0:=wrap64 (by decide) (by decide)
 have w1':IntKind.wrap IntKind.u64 1=1:=wrap64 (by decide) (by decide)
 have wn:IntKind.wrap IntKind.u64 (n:Int)=(n:Int):=wrap64 (by omega) (by omega)
 have z:(BitVec.toNat ((BitVec.ofInt 64 (0:Int))&&&(BitVec.ofInt 64 (4294967295:Int))))=0:=Pd (n:=0) (by decide)
 unfold FX Js ai
 dsimp only
 simp only [f1,f2,Pd h,l1,Int.zero_mul,Int.mul_zero,Int.one_mul,Int.zero_add,Int.add_zero,w0,wn,z,Int.natCast_zero,Int.natCast_one,w1',show Int.fdiv 0 4294967296=0 from by decide]
def rep (c m:Nat) (i:Int):List Int:=List.replicate c i++List.replicate (m- c) 0
theorem Sx {c m:Nat} (h:c<=m) (i:Int):(rep c m i).length=m:=by simp only [rep,List.length_append,List.length_replicate];omega
theorem P7 {c m:Nat} (h:c<=m) (i:Int):iN (rep c m i) c (m- c) ((rep c m i).take c)=rep (c+min c (m- c)) m i/\ nQ (m- c) ((rep c m i).take c).length=min c (m- c):=by
 have e1:(rep c m i).take c=List.replicate c i:=by simp [rep]
 have e2:nQ (m- c) (List.replicate c i).length=min c (m- c):=by unfold nQ;rw [List.length_replicate]
 rw [e1,e2]
 refine ⟨?_,rfl⟩
 unfold iN
 rw [e1,e2]
 unfold rep
 rw [List.take_replicate,show min (min c (m- c)) c=min c (m- c) by omega,List.replicate_append_replicate,List.drop_append,List.length_replicate,List.drop_replicate,List.drop_replicate,show c- (c+min c (m- c))=0 by omega]
 simp only [List.replicate_zero,List.nil_append]
 rw [show m- c- (c+min c (m- c)- c)=m- (c+min c (m- c)) by omega]
theorem Ht (x:List Int×Int) (i:Int) (m:Nat) (hm:m<=1000000000): ∀k c,c+k=m->(0<c\/ k=0)->TR (ga x) (jW x) (rep c m i,(c:Int)) fun r=>r=List.replicate m i:=by
 intro k
 induction k using Nat.strongRecOn with
 |ind k ih=>
  intro c hc h0
  have hl:=Sx (c:=c) (m:=m) (by omega) i
  by_cases hk:k=0
  ·subst hk
   have:c=m:=by omega
   subst this
   refine TR.stop (r:=rep c c i) ?_ ?_ (by simp [rep])
   ·unfold jW
    intro q
    dsimp only at q;rw [hl] at q;omega
   ·unfold ga
    dsimp only
    rw [hl,if_neg (by omega)]
  ·obtain ⟨q1,q2⟩:=P7 (c:=c) (m:=m) (by omega) i
   refine TR.go (s':=(rep (c+min c (m- c)) m i,((c+min c (m- c):Nat):Int))) ?_ ?_ (ih (k- min c (m- c)) (by omega) _ (by omega) (by omega))
   ·unfold jW
    intro _
    dsimp only
    rw [hl];omega
   ·unfold ga ai
    dsimp only
    rw [hl,if_pos (by omega),Int.toNat_natCast,Nat.add_zero,q1,q2,cC (by omega) (by omega)]
    congr 2
theorem uI (i:Int) {n:Nat} (hn:n<=1000000000):oh ([i],(n:Int))/\ repeatM ([i],(n:Int))=List.replicate n i:=by
 have e1:IntKind.wrap IntKind.u64 ((([i]:List Int).length:Nat):Int)=1:=wrap64 (by simp) (by simp)
 have e2:IntKind.wrap IntKind.u64 ((n:Nat):Int)=(n:Int):=wrap64 (by omega) (by omega)
 have e3:ae ((n:Nat):Int)=(n:Int):=cC (by omega) (by omega)
 have e4:iN (List.replicate n (0:Int)) 0 n [i]=rep (min 1 n) n i/\ nQ n 1=min 1 n:=by
  refine ⟨?_,rfl⟩
  unfold iN
  show _++List.take (min 1 n) [i]++List.drop (0+min 1 n) _=_
  cases n with
  |zero=>rfl
  |succ n=>simp [rep,show min 1 (n+1)=1 by omega]
 have key:=Ht ([i],(n:Int)) i n hn (n- min 1 n) (min 1 n) (by omega) (by omega)
 unfold oh repeatM ay ai
 dsimp only
 rw [e1,e2,NM (by omega)]
 dsimp only
 rw [e3,Int.toNat_natCast,List.length_replicate]
 simp only [List.length_cons,List.length_nil,Nat.zero_add]
 rw [e4.1,e4.2]
 refine ⟨⟨fun q=>absurd q (by omega),fun _=>⟨fun q=>absurd q (by omega),fun _=>⟨fun q=>absurd q (by omega),fun _=>⟨⟨⟨by omega,by omega⟩,by omega⟩,key.1⟩⟩⟩⟩,?_⟩
 rw [if_neg (by omega),if_neg (by omega),if_neg (by omega)]
 exact key.2
theorem Mm (l:List Int) (hl:l.length<4611686018427387904) (t:Int):uu (l,t)/\ Jf (l,t)=match l.findIdx? (fun x=>t==x) with|some i=>(i:Int)|none=> -1:=
 p9 l hl (fun x=>t==x) (gX (l,t)) (oH (l,t)) (fun i hi=>by
   unfold oH
   intro h
   simp only [Int.toNat_natCast]
   dsimp only at h ⊢;omega) (fun i x hx=>by
   have hlt:=kH hx
   unfold gX
   rw [if_pos (by dsimp only;omega),Int.toNat_natCast]
   dsimp only
   rw [sH hx]) (by
   unfold gX
   rw [if_neg (by dsimp only;omega)])
theorem CD (l:List Int) (hl:l.length<4611686018427387904) (t:Int):oC (l,t)/\ (ku (l,t)=true↔t∈l):=by
 obtain ⟨h1,h2⟩:=Mm l hl t
 refine ⟨h1,?_⟩
 unfold ku ai
 rw [h2]
 refine (iff_of_eq (congrArg (fun b:Bool=>b=true) (vo l (fun x=>t==x)))).trans ?_
 rw [List.any_eq_true]
 constructor
 ·rintro ⟨x,hx,e⟩
  have:t=x:=by simpa using e
  rw [this];exact hx
 ·intro h
  exact ⟨t,h,by simp⟩
theorem tu (l:List Bool) (hl:l.length<4611686018427387904) (t:Bool):oB (l,t)/\ (jr (l,t)=true↔t∈l):=by
 have h:=p9 l hl (fun x=>t==x) (gV (l,t)) (oF (l,t)) (fun i hi=>by
   unfold oF
   intro h
   simp only [Int.toNat_natCast]
   dsimp only at h ⊢;omega) (fun i x hx=>by
   have hlt:=kH hx
   unfold gV
   rw [if_pos (by dsimp only;omega),Int.toNat_natCast]
   dsimp only
   rw [sH hx]) (by
   unfold gV
   rw [if_neg (by dsimp only;omega)])
 refine ⟨h.1,?_⟩
 have e:Jb (l,t)=_:=h.2
 unfold jr ai
 rw [e]
 refine (iff_of_eq (congrArg (fun b:Bool=>b=true) (vo l (fun x=>t==x)))).trans ?_
 rw [List.any_eq_true]
 constructor
 ·rintro ⟨x,hx,e⟩
  have:t=x:=by simpa using e
  rw [this];exact hx
 ·intro h
  exact ⟨t,h,by simp⟩
theorem jt (b:qQ) (i:Int):iR (b,i)=true↔b.2.1=0/\ b.2.2.1=0:=by
 unfold iR
 dsimp only
 by_cases h:b.2.1=0
 ·rw [if_pos (by simpa using h)];simp [h]
 ·rw [if_neg (by simpa using h)];simp [h]
theorem dL {α:Type} (l:List α) (i k:Nat) (x d:α) (h:i<l.length):(l.set i x).getD k d=if i=k then x else l.getD k d:=by
 rw [List.getD_eq_getElem?_getD,List.getElem?_set,List.getD_eq_getElem?_getD]
 by_cases e:i=k
 ·rw [if_pos e,if_pos e,if_pos (by omega)];rfl
 ·rw [if_neg e,if_neg e]
section
variable {L:List T3} {pl:List Int} {G:List qQ} {N:List (List Int)} {U:List Int} (h:ye L 0 (-1) pl G N U)
include h
theorem ye.Io {k:Nat} (h1:0<k) (h2:k<G.length): ∃j,j<k/\ U.getD k 0=(j:Int)/\ (∀i∈N.getD k [],i∈N.getD j [])/\ ((G.getD j zB).2.1=(k:Int)\/ (G.getD j zB).2.2.1=(k:Int)):=by
 obtain ⟨j,a,b,c,d⟩:=h.up k h1 h2
 exact ⟨j,a,by rw [b];omega,c,d.imp (fun d=>by rw [d];omega) fun d=>by rw [d];omega⟩
theorem ye.Dq {k:Nat} (h2:k<G.length):((G.getD k zB).2.1=0/\ (G.getD k zB).2.2.1=0/\ (G.getD k zB).2.2.2=N.getD k []/\ (N.getD k []).length<=2)\/
  (∃r:Nat,(G.getD k zB).2.1=((k+1:Nat):Int)/\ (G.getD k zB).2.2.1=(r:Int)/\ k+1<r/\ r<G.length/\ (G.getD k zB).2.2.2= []/\ U.getD (k+1) 0=(k:Int)/\ U.getD r 0=(k:Int)/\ (N.getD (k+1) []++N.getD r []).Perm (N.getD k [])/\ 2<(N.getD k []).length/\ (N.getD (k+1) []).length<=((N.getD k []).length+1) / 2/\ (N.getD r []).length<=((N.getD k []).length+1) / 2):=by
 rcases h.kind k h2 with a|⟨r,a1,a2,a3,a4,a5,a6,a7,a8⟩
 ·exact .inl a
 ·exact .inr ⟨r,by rw [a1];omega,by rw [a2];omega,a3,a4,a5,by rw [a6];omega,by rw [a7];omega,a8⟩
theorem Fu (hl:G.length<1099511627776) (Io:List Int) (XL:Io=List.replicate G.length (-1)):
  TR (aU G) (bw G) (Io,0) fun r=> ∃up,r= .inr up/\ up.length=G.length/\ ∀k,k<G.length->up.getD k 0=U.getD k 0:=by
 refine fU G.length (fun i s=> ∃up,s=(up,(i:Int))/\ up.length=G.length/\ ∀k,k<G.length->up.getD k 0=if 0<k/\ U.getD k 0<(i:Int) then U.getD k 0 else-1) _ (fun i s hi hj=> ?_) (fun s hj=> ?_) ⟨Io,rfl,by rw [XL];simp,fun k hk=> ?_⟩
 ·obtain ⟨up,rfl,hlen,zz⟩:=hj
  have hc:ae (((i:Nat):Int)+1)=((i+1:Nat):Int):=CB hi (by omega)
  rcases h.Dq hi with ⟨a1,a2,a3,a4⟩|⟨r,a1,a2,a3,a4,a5,a6,a7,a8⟩
  ·have jK:iR (G.getD i zB,(i:Int))=true:=(jt _ _).2 ⟨a1,a2⟩
   refine ⟨?_,.inl ⟨_,?_,up,rfl,hlen,fun k hk=> ?_⟩⟩
   ·unfold bw ay
    intro _
    dsimp only
    rw [Int.toNat_natCast,show iR (G.getD i (((0,(0,0)),(0,(0,0))),(0,(0,[]))),(i:Int))=true from jK]
    exact ⟨by omega,hi,hi,fun q=>absurd rfl q⟩
   ·unfold aU ai
    dsimp only
    rw [if_pos (by omega),Int.toNat_natCast,show iR (G.getD i (((0,(0,0)),(0,(0,0))),(0,(0,[]))),(i:Int))=true from jK,if_pos rfl,hc]
   ·rw [zz k hk]
    by_cases A2:0<k
    ·obtain ⟨j,j1,j2,_,j4⟩:=h.Io A2 hk
     have YL:j≠i:=by
      rintro rfl
      rw [a1,a2] at j4
      rcases j4 with e|e<;>omega
     rw [j2]
     by_cases c:j<i
     ·rw [if_pos ⟨A2,by omega⟩,if_pos ⟨A2,by omega⟩]
     ·rw [if_neg (by omega),if_neg (by omega)]
    ·rw [if_neg (by omega),if_neg (by omega)]
  ·have jK: ¬iR (G.getD i zB,(i:Int))=true:=fun q=>by
    have:=((jt _ _).1 q).1
    rw [a1] at this;omega
   have u1:=zz (i+1) (by omega)
   have u2:=zz r a4
   rw [a6,if_neg (by omega)] at u1
   rw [a7,if_neg (by omega)] at u2
   have OD:iR (G.getD i (((0,(0,0)),(0,(0,0))),(0,(0,[]))),(i:Int))=false:=by
    cases e:iR (G.getD i (((0,(0,0)),(0,(0,0))),(0,(0,[]))),(i:Int)) with
    |false=>rfl
    |true=>exact absurd e jK
   have b1:(G.getD i ((((0:Int),((0:Int),(0:Int))),((0:Int),((0:Int),(0:Int)))),((0:Int),((0:Int),([]:List Int))))).2.1=((i+1:Nat):Int):=a1
   have b2:(G.getD i ((((0:Int),((0:Int),(0:Int))),((0:Int),((0:Int),(0:Int)))),((0:Int),((0:Int),([]:List Int))))).2.2.1=(r:Int):=a2
   have b5:(G.getD i ((((0:Int),((0:Int),(0:Int))),((0:Int),((0:Int),(0:Int)))),((0:Int),((0:Int),([]:List Int))))).2.2.2= []:=a5
   have hls:(up.set (i+1) (i:Int)).length=up.length:=List.length_set
   refine ⟨?_,.inl ⟨((up.set (i+1) (i:Int)).set r (i:Int),((i+1:Nat):Int)),?_,_,rfl,by simp [hlen],fun k hk=> ?_⟩⟩
   ·unfold bw ay
    intro _
    dsimp only
    rw [Int.toNat_natCast,OD,b1,b2,b5,Int.toNat_natCast,Int.toNat_natCast]
    exact ⟨by omega,hi,hi,fun _ _ _ _ _=>⟨by omega,by omega,by omega,fun _=>⟨by omega,by omega,by omega,fun _=>⟨by omega,by omega,by omega,by omega,by omega,by omega⟩⟩⟩⟩
   ·unfold aU ai
    dsimp only
    rw [if_pos (by omega),Int.toNat_natCast,OD,b1,b2,b5,hc,Int.toNat_natCast,Int.toNat_natCast,u1,u2,if_neg (by decide),if_neg (by decide),if_neg (by simp),if_neg (by omega),if_neg (by omega),if_neg (by decide),if_neg (by decide)]
   ·rw [dL _ _ _ _ _ (by omega),dL _ _ _ _ _ (by omega),zz k hk]
    by_cases e2:r=k
    ·subst e2
     rw [if_pos rfl,a7,if_pos ⟨by omega,by omega⟩]
    ·rw [if_neg e2]
     by_cases e1:i+1=k
     ·subst e1
      rw [if_pos rfl,a6,if_pos ⟨by omega,by omega⟩]
     ·rw [if_neg e1]
      by_cases A2:0<k
      ·obtain ⟨j,j1,j2,_,j4⟩:=h.Io A2 hk
       have YL:j≠i:=by
        rintro rfl
        rw [a1,a2] at j4
        rcases j4 with e|e<;>omega
       rw [j2]
       by_cases c:j<i
       ·rw [if_pos ⟨A2,by omega⟩,if_pos ⟨A2,by omega⟩]
       ·rw [if_neg (by omega),if_neg (by omega)]
      ·rw [if_neg (by omega),if_neg (by omega)]
 ·obtain ⟨up,rfl,hlen,zz⟩:=hj
  refine ⟨?_,.inr up,?_,up,rfl,hlen,fun k hk=> ?_⟩
  ·unfold bw
   intro q
   dsimp only at q;omega
  ·unfold aU
   dsimp only
   rw [if_neg (by omega)]
  ·rw [zz k hk]
   by_cases A2:0<k
   ·obtain ⟨j,j1,j2,_,_⟩:=h.Io A2 hk
    rw [if_pos ⟨A2,by omega⟩]
   ·have:k=0:=by omega
    subst this
    rw [if_neg (by omega),h.u0]
 ·rw [XL,List.getD_eq_getElem?_getD,List.getElem?_replicate,if_pos hk]
  by_cases A2:0<k
  ·obtain ⟨j,j1,j2,_,_⟩:=h.Io A2 hk
   rw [if_neg (by omega)];rfl
  ·rw [if_neg (by omega)];rfl
theorem yP (hl:G.length<1000000):cM G/\ ∃up,fy G=(up,true)/\ up.length=G.length/\ ∀k,k<G.length->up.getD k 0=U.getD k 0:=by
 obtain ⟨r1,r2⟩:=uI (-1) (n:=G.length) (by omega)
 have key:=Fu h (by omega) _ rfl
 have hpos:=h.pos
 unfold cM fy ay ai
 rw [r2]
 obtain ⟨up,e,hlen,zz⟩:=key.2
 dsimp only
 rw [e]
 obtain ⟨c1,c2⟩:=CD (up.drop 1) (by rw [List.length_drop];omega) (-1)
 have hno:ku (up.drop 1,-1)=false:=by
  cases hb:ku (up.drop 1,-1) with
  |false=>rfl
  |true=>
   have:=c2.1 hb
   obtain ⟨k,hk,e2⟩:=List.mem_iff_getElem.1 this
   rw [List.length_drop] at hk
   rw [List.getElem_drop] at e2
   obtain ⟨j,_,j2,_,_⟩:=h.Io (k:=1+k) (by omega) (by omega)
   have h3:=zz (1+k) (by omega)
   rw [List.getD_eq_getElem?_getD,List.getElem?_eq_getElem (by omega),Option.getD_some,e2,j2] at h3
   omega
 refine ⟨⟨r1,key.1,fun _=>⟨by omega,c1⟩⟩,up,?_,hlen,zz⟩
 show (if ((G.length:Nat):Int)>0 then (up,!ku (up.drop 1,-1)) else (up,false))=_
 rw [if_pos (by omega),hno];rfl
end
end Go.Proofs.Ytaipcbdilkcdbaa
namespace Go.Proofs.Ytaipcbdilkcdbaa
open Go Go.Ev Go.Proofs
theorem vx (b:B3) (p:P3):rC (b,p)/\ (CH (b,p)=true↔((FN b.1/\ FN b.2)/\ Ig b.1 b.2)/\ Ig b.1 p/\ Ig p b.2):=by
 obtain ⟨s1,s2⟩:=uJ b
 refine ⟨s1,?_⟩
 unfold CH ai
 dsimp only
 by_cases h:kR b=true
 ·rw [if_pos h,Gl]
  exact ⟨fun q=>⟨s2.1 h,q⟩,fun q=>q.2⟩
 ·rw [if_neg h]
  exact ⟨fun q=>(by cases q),fun q=>absurd (s2.2 q.1) h⟩
theorem Gm (b:qQ) (i:Int) (t:T3):AT ((b,i),t)/\ ((∀p∈Qy t,CH (b.1,p)=true)->IM ((b,i),t)=true):=by
 refine ⟨⟨(vx _ _).1,fun _=>⟨(vx _ _).1,fun _=>(vx _ _).1⟩⟩,fun h=> ?_⟩
 unfold IM ai
 dsimp only
 rw [h t.1 (by simp [Qy]),if_pos rfl,h t.2.1 (by simp [Qy]),if_pos rfl,h t.2.2 (by simp [Qy])]
section
variable {L:List T3} {pl:List Int} {G:List qQ} {N:List (List Int)} {U:List Int} (h:ye L 0 (-1) pl G N U) (hi:Ae L pl) (hs:Ns L) (hn:pl.length<=1000)
include h hi hs hn
theorem ye.has (hN: ∀k,k<G.length->(N.getD k []).length<=1000) {k:Nat} (hk:k<G.length) {i:Int} (hin:i∈N.getD k []): ∀p∈Qy (L.getD i.toNat zT),CH ((G.getD k zB).1,p)=true:=by
 intro p hp
 have hIn:Ae L (N.getD k []):=fun i hi'=>hi i (h.sub k hk i hi')
 have hne:N.getD k []≠ []:=List.ne_nil_of_mem hin
 have hB:=Ka hs hIn (by have:=hN k hk;omega) hne
 rw [h.box k hk]
 have hpt:p∈kf L (N.getD k []):=List.mem_flatMap.2 ⟨i,hin,hp⟩
 exact (vx _ _).2.2 ⟨hB.is (Hg hs hIn),hB.low p hpt,hB.high p hpt⟩
theorem O3 (hN: ∀k,k<G.length->(N.getD k []).length<=1000) {up:List Int} (Nw:up.length=G.length) (zz: ∀k,k<G.length->up.getD k 0=U.getD k 0) (sn:List Bool) (a b c d e:Int) (ls:List Int) {i:Int} (hin:0<=i/\ i<(L.length:Int)):
  ∀n k:Nat,k<n->k<G.length->i∈N.getD k []->
  TR (eP (G,L)) (ia (G,L)) (up,(sn,(a,(i,((k:Int),(b,(ls,(c,d)))))))) fun r=>r= .inr (up,(sn,(a,(b,(ls,(c,d)))))):=by
 intro n
 induction n with
 |zero=>intro k hk;omega
 |succ n ih=>
  intro k hkn hk hmem
  obtain ⟨n1,n2⟩:=Gm (G.getD k zB) (k:Int) (L.getD i.toNat zT)
  have n3:=n2 (h.has hi hs hn hN hk hmem)
  have hu:=zz k hk
  have Vx:IM ((G.getD k ((((0:Int),((0:Int),(0:Int))),((0:Int),((0:Int),(0:Int)))),((0:Int),((0:Int),([]:List Int)))),(k:Int)),L.getD i.toNat (((0:Int),((0:Int),(0:Int))),(((0:Int),((0:Int),(0:Int))),((0:Int),((0:Int),(0:Int))))))=true:=n3
  refine TR.go (s':=(up,(sn,(a,(i,(up.getD k 0,(b,(ls,(c,d))))))))) ?_ ?_ ?_
  ·unfold ia ay
   intro _
   dsimp only
   rw [Int.toNat_natCast]
   exact ⟨by omega,hk,hk,hin,by omega,by omega,n1,fun _=>⟨by omega,by omega,by omega⟩⟩
  ·unfold eP ai
   dsimp only
   rw [if_pos (by omega),Int.toNat_natCast,Vx,if_neg (by decide)]
  ·rcases Nat.eq_zero_or_pos k with e0|e0
   ·subst e0
    rw [hu,h.u0]
    refine TR.stop (r:= .inr (up,(sn,(a,(b,(ls,(c,d))))))) ?_ ?_ rfl
    ·unfold ia
     intro q
     dsimp only at q;omega
    ·unfold eP
     dsimp only
     rw [if_neg (by decide)]
   ·obtain ⟨j,j1,j2,j3,_⟩:=h.Io e0 hk
    rw [hu,j2]
    exact ih j (by omega) (by omega) (j3 i hmem)
def Sn (L:List T3) (S:List Int) (sn:List Bool):Prop:=sn.length=L.length/\ ∀j:Nat,j<L.length->(sn.getD j false=true↔(j:Int)∈S)
theorem RG (hN: ∀k,k<G.length->(N.getD k []).length<=1000) {up:List Int} (Nw:up.length=G.length) (zz: ∀k,k<G.length->up.getD k 0=U.getD k 0) (nE:pl.Nodup) {k:Nat} (hk:k<G.length) {S:List Int} (hS:(S++(G.getD k zB).2.2.2).Nodup) (hsub: ∀i∈(G.getD k zB).2.2.2,i∈N.getD k []) (hlen:(G.getD k zB).2.2.2.length<=1000) {sn:List Bool} (Y3:Sn L S sn):
  TR (c8 (G,L)) (fb (G,L)) (up,(sn,((k:Int),((k:Int),((G.getD k zB).2.2.2,((((G.getD k zB).2.2.2.length:Nat):Int),0)))))) fun r=> ∃s7,r= .inr (up,(s7,(k:Int)))/\ Sn L (S++(G.getD k zB).2.2.2) s7:=by
 generalize hT:(G.getD k zB).2.2.2=T at*
 refine fU T.length (fun j s=> ∃s7,s=(up,(s7,((k:Int),((k:Int),(T,(((T.length:Nat):Int),(j:Int)))))))/\ Sn L (S++T.take j) s7) _ (fun j s hj hJ=> ?_) (fun s hJ=> ?_) ⟨sn,rfl,by simpa using Y3⟩
 ·obtain ⟨s7,rfl,hl,hm⟩:=hJ
  have hmem:=hsub _ (sG hj 0)
  have hin:=hi _ (h.sub k hk _ hmem)
  generalize hp:T.getD j 0=p at*
  have Wv:p.toNat<L.length:=by omega
  have Nu:((p.toNat:Nat):Int)=p:=by omega
  have hno: ¬s7.getD p.toNat false=true:=fun q=>by
   have h1:=(hm p.toNat Wv).1 q
   rw [Nu] at h1
   have h2:(S++T.take j++ [p]).Nodup:=by
    have:S++T=(S++T.take j++ [p])++T.drop (j+1):=by
     rw [<- hp,List.append_assoc S,<- gG hj 0,List.append_assoc,List.take_append_drop]
    rw [this] at hS
    exact (List.nodup_append.1 hS).1
   rw [List.nodup_append] at h2
   exact h2.2.2 p h1 p (by simp) rfl
  have hchain:=O3 h hi hs hn hN Nw zz (s7.set p.toNat true) (k:Int) (k:Int) ((T.length:Nat):Int) (j:Int) 0 T hin (k+1) k (by omega) hk hmem
  refine ⟨?_,.inl ⟨(up,(s7.set p.toNat true,((k:Int),((k:Int),(T,(((T.length:Nat):Int),((j+1:Nat):Int))))))),?_,_,rfl,by simp [hl],fun q hq=> ?_⟩⟩
  ·unfold fb ay
   intro _
   dsimp only
   rw [Int.toNat_natCast,hp]
   exact ⟨by omega,hj,hj,fun _ _=>⟨by omega,by omega,by omega,fun _=>⟨by omega,by omega,by omega,hchain.1⟩⟩⟩
  ·unfold c8 ai
   dsimp only
   rw [if_pos (by omega),Int.toNat_natCast,hp,if_neg (by omega),if_neg (by omega),if_neg hno,hchain.2]
   show Sum.inl (up,(s7.set p.toNat true,((k:Int),((k:Int),(T,(((T.length:Nat):Int),ae ((j:Int)+1)))))))=_
   rw [CB hj (by omega)]
  ·rw [dL _ _ _ _ _ (by omega),gG hj 0,hp]
   by_cases e:p.toNat=q
   ·rw [if_pos e]
    subst e
    simp [Nu]
   ·rw [if_neg e,hm q hq]
    have hne: ¬(q:Int)=p:=fun e'=>e (by omega)
    simp [hne]
 ·obtain ⟨s7,rfl,hJ⟩:=hJ
  rw [List.take_length] at hJ
  refine ⟨?_,_,?_,s7,rfl,hJ⟩
  ·unfold fb
   intro q
   dsimp only at q;omega
  ·unfold c8
   dsimp only
   rw [if_neg (by omega)]
theorem Uu (hN: ∀k,k<G.length->(N.getD k []).length<=1000) (hG:G.length<=10000) {up:List Int} (Nw:up.length=G.length) (zz: ∀k,k<G.length->up.getD k 0=U.getD k 0) (nE:pl.Nodup):
  TR (dR (G,L)) (hO (G,L)) (up,(List.replicate L.length false,0)) fun r=> ∃sn,r= .inr sn/\ Sn L (G.flatMap fun b=>b.2.2.2) sn:=by
 have E0:(G.flatMap fun b=>b.2.2.2).Nodup:=h.Nm.nodup_iff.2 nE
 refine fU G.length (fun i s=> ∃sn,s=(up,(sn,(i:Int)))/\ Sn L ((G.take i).flatMap fun b=>b.2.2.2) sn) _ (fun i s hk hJ=> ?_) (fun s hJ=> ?_) ⟨_,rfl,by simp,fun j hj=> ?_⟩
 ·obtain ⟨sn,rfl,hS⟩:=hJ
  have hsp:(G.flatMap fun b=>b.2.2.2)=((G.take i).flatMap fun b=>b.2.2.2)++(G.getD i zB).2.2.2++((G.drop (i+1)).flatMap fun b=>b.2.2.2):=by
   have h1:=List.take_append_drop (i+1) G
   rw [gG hk zB] at h1
   have h2:=congrArg (fun l:List qQ=>l.flatMap fun b=>b.2.2.2) h1
   simp only [List.flatMap_append,List.flatMap_cons,List.flatMap_nil,List.append_nil] at h2
   exact h2.symm
  have hS2:(((G.take i).flatMap fun b=>b.2.2.2)++(G.getD i zB).2.2.2).Nodup:=by
   rw [hsp] at E0
   exact (List.nodup_append.1 E0).1
  have hsub:(∀p∈(G.getD i zB).2.2.2,p∈N.getD i [])/\ (G.getD i zB).2.2.2.length<=1000:=by
   rcases h.Dq hk with ⟨_,_,a3,a4⟩|⟨_,_,_,_,_,a5,_⟩
   ·rw [a3];exact ⟨fun p hp=>hp,by omega⟩
   ·rw [a5];exact ⟨fun p hp=>(by cases hp),by simp⟩
  have key:=RG h hi hs hn hN Nw zz nE hk hS2 hsub.1 hsub.2 hS
  obtain ⟨s7,e,Vl⟩:=key.2
  refine ⟨?_,.inl ⟨(up,(s7,((i+1:Nat):Int))),?_,s7,rfl,?_⟩⟩
  ·unfold hO
   intro _
   dsimp only
   rw [Int.toNat_natCast]
   exact ⟨by omega,hk,hk,key.1⟩
  ·unfold dR ai
   dsimp only
   rw [if_pos (by omega),Int.toNat_natCast]
   refine Eq.trans (congrArg (fun r=>Sum.elim (fun a=>Sum.inr (Sum.inl ())) (fun b=>Sum.inl (b.1,(b.2.1,(ae (b.2.2+(1:Int)))))) r) e) ?_
   show Sum.inl (up,(s7,ae ((i:Int)+1)))=_
   rw [CB hk (by omega)]
  ·rw [gG hk zB]
   simpa using Vl
 ·obtain ⟨sn,rfl,hS⟩:=hJ
  rw [List.take_length] at hS
  refine ⟨?_,.inr sn,?_,sn,rfl,hS⟩
  ·unfold hO
   intro q
   dsimp only at q;omega
  ·unfold dR
   dsimp only
   rw [if_neg (by omega)]
 ·rw [List.getD_eq_getElem?_getD,List.getElem?_replicate,if_pos hj];simp
end
theorem jD.small {L:List T3} {s:Nat} {par:Int} {pl:List Int} {G:List qQ} {N:List (List Int)} {U:List Int} (h:jD L s par pl G N U): ∀x∈N,x.length<=pl.length:=by
 induction h with
 |leaf s par pl hl=>intro x hx;simp only [List.mem_singleton] at hx;subst hx;omega
 |fork s par pl a b A B NA NB UA UB h2 hp ha hb he hA hB Ij Ik=>
  intro x hx
  simp only [List.mem_cons,List.mem_append] at hx
  rcases hx with rfl|hx|hx
  ·omega
  ·have:=Ij x hx;omega
  ·have:=Ik x hx;omega
theorem Ky {L:List T3} {pl:List Int} {G:List qQ} {N:List (List Int)} {U:List Int} (ht:jD L 0 (-1) pl G N U) (hi:Ae L pl) (hs:Ns L) (hn:pl.length<=1000) (hL:L.length<=1000) (hG:G.length<=10000) (nE:pl.Nodup) (hall: ∀j:Nat,j<L.length->(j:Int)∈pl):fN (G,L)/\ E6 (G,L)=true:=by
 have h:=ht.facts
 have hN: ∀k,k<G.length->(N.getD k []).length<=1000:=fun k hk=>by
  have:=ht.small _ (sG (show k<N.length by rw [h.n1];exact hk) [])
  omega
 obtain ⟨p1,up,p2,Nw,zz⟩:=yP h (by omega)
 have key:=Uu h hi hs hn hN hG Nw zz nE
 obtain ⟨sn,e,hl,hm⟩:=key.2
 obtain ⟨c1,c2⟩:=tu sn (by omega) false
 have hno:jr (sn,false)=false:=by
  cases hb:jr (sn,false) with
  |false=>rfl
  |true=>
   have:=c2.1 hb
   obtain ⟨j,hj,e2⟩:=List.mem_iff_getElem.1 this
   have h3:=(hm j (by omega)).2 (h.Nm.mem_iff.2 (hall j (by omega)))
   rw [List.getD_eq_getElem?_getD,List.getElem?_eq_getElem hj,Option.getD_some,e2] at h3
   cases h3
 unfold fN E6 ay ai
 dsimp only
 rw [p2]
 dsimp only
 rw [if_neg (by decide),e]
 refine ⟨⟨p1,fun _=>⟨⟨by omega,by omega⟩,key.1,c1⟩⟩,?_⟩
 show (!jr (sn,false))=true
 rw [hno];rfl
end Go.Proofs.Ytaipcbdilkcdbaa
