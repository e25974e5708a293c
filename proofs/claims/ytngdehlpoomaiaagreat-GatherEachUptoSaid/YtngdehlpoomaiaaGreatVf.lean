/- Plain laws: what is built is right. -/
import Derived.Test.YtngdehlpoomaiaaGreatVd
import Derived.Test.YtngdehlpoomaiaaGreatUc
noncomputable section
set_option linter.unusedSectionVars false
set_option linter.unusedVariables false
set_option linter.unusedSimpArgs false
namespace Go.Proofs.YtngdehlpoomaiaaGreat
open Go Go.Ev Go.Proofs
theorem wrap64 {n:Int} (h1:0<=n) (h2:n<18446744073709551616):IntKind.wrap IntKind.u64 n=n:=by
 unfold IntKind.wrap
 simp [IntKind.bits,IntKind.signed]
 omega
theorem aaF {n:Nat} (h:n<4294967296):(BitVec.toNat ((BitVec.ofInt 64 (n:Int))&&&(BitVec.ofInt 64 (4294967295:Int))))=n:=by
 have e1:(BitVec.ofInt 64 (n:Int)).toNat=n:=by
  rw [BitVec.toNat_ofInt];omega
 have e2:(BitVec.ofInt 64 (4294967295:Int)).toNat=2^32- 1:=by decide
 rw [BitVec.toNat_and,e1,e2,Nat.and_two_pow_sub_one_eq_mod]
 omega
theorem YC {n:Nat} (h:n<4294967296):NF (1,(n:Int))=(0,(n:Int)):=by
 have f1:Int.fdiv 1 4294967296=0:=by decide
 have f2:Int.fdiv (n:Int) 4294967296=0:=by rw [Int.fdiv_eq_ediv_of_nonneg _ (by decide)];omega
 have l1:(BitVec.toNat ((BitVec.ofInt 64 (1:Int))&&&(BitVec.ofInt 64 (4294967295:Int))))=1:=aaF (n:=1) (by decide)
 have w0:IntKind.wrap IntKind.u64 0=0:=wrap64 (by decide) (by decide)
 have w1':IntKind.wrap IntKind.u64 1=1:=wrap64 (by decide) (by decide)
 have wn:IntKind.wrap IntKind.u64 (n:Int)=(n:Int):=wrap64 (by omega) (by omega)
 have z:(BitVec.toNat ((BitVec.ofInt 64 (0:Int))&&&(BitVec.ofInt 64 (4294967295:Int))))=0:=aaF (n:=0) (by decide)
 unfold NF Sj aq
 dsimp only
 simp only [f1,f2,aaF h,l1,Int.zero_mul,Int.mul_zero,Int.one_mul,Int.zero_add,Int.add_zero,w0,wn,z,Int.natCast_zero,Int.natCast_one,w1',show Int.fdiv 0 4294967296=0 from by decide]
def rep (c m:Nat) (i:Int):List Int:=List.replicate c i++List.replicate (m- c) 0
theorem ae0 {c m:Nat} (h:c<=m) (i:Int):(rep c m i).length=m:=by simp only [rep,List.length_append,List.length_replicate];omega
theorem abk {c m:Nat} (h:c<=m) (i:Int):iX (rep c m i) c (m- c) ((rep c m i).take c)=rep (c+min c (m- c)) m i/\ pG (m- c) ((rep c m i).take c).length=min c (m- c):=by
 have e1:(rep c m i).take c=List.replicate c i:=by simp [rep]
 have e2:pG (m- c) (List.replicate c i).length=min c (m- c):=by unfold pG;rw [List.length_replicate]
 rw [e1,e2]
 refine ⟨?_,rfl⟩
 unfold iX
 rw [e1,e2]
 unfold rep
 rw [List.take_replicate,show min (min c (m- c)) c=min c (m- c) by omega,List.replicate_append_replicate,List.drop_append,List.length_replicate,List.drop_replicate,List.drop_replicate,show c- (c+min c (m- c))=0 by omega]
 simp only [List.replicate_zero,List.nil_append]
 rw [show m- c- (c+min c (m- c)- c)=m- (c+min c (m- c)) by omega]
theorem Pt (x:List Int×Int) (i:Int) (m:Nat) (hm:m<=1000000000): ∀k c,c+k=m->(0<c\/ k=0)->TR (gq x) (ko x) (rep c m i,(c:Int)) fun r=>r=List.replicate m i:=by
 intro k
 induction k using Nat.strongRecOn with
 |ind k ih=>
  intro c hc h0
  have hl:=ae0 (c:=c) (m:=m) (by omega) i
  by_cases hk:k=0
  ·subst hk
   have:c=m:=by omega
   subst this
   refine TR.stop (r:=rep c c i) ?_ ?_ (by simp [rep])
   ·unfold ko
    intro q
    dsimp only at q;rw [hl] at q;omega
   ·unfold gq
    dsimp only
    rw [hl,if_neg (by omega)]
  ·obtain ⟨q1,q2⟩:=abk (c:=c) (m:=m) (by omega) i
   refine TR.go (s':=(rep (c+min c (m- c)) m i,((c+min c (m- c):Nat):Int))) ?_ ?_ (ih (k- min c (m- c)) (by omega) _ (by omega) (by omega))
   ·unfold ko
    intro _
    dsimp only
    rw [hl];omega
   ·unfold gq aq
    dsimp only
    rw [hl,if_pos (by omega),Int.toNat_natCast,Nat.add_zero,q1,q2,aF (by omega) (by omega)]
    congr 2
theorem SG (i:Int) {n:Nat} (hn:n<=1000000000):p9 ([i],(n:Int))/\ repeatM ([i],(n:Int))=List.replicate n i:=by
 have e1:IntKind.wrap IntKind.u64 ((([i]:List Int).length:Nat):Int)=1:=wrap64 (by simp) (by simp)
 have e2:IntKind.wrap IntKind.u64 ((n:Nat):Int)=(n:Int):=wrap64 (by omega) (by omega)
 have e3:av ((n:Nat):Int)=(n:Int):=aF (by omega) (by omega)
 have e4:iX (List.replicate n (0:Int)) 0 n [i]=rep (min 1 n) n i/\ pG n 1=min 1 n:=by
  refine ⟨?_,rfl⟩
  unfold iX
  show _++List.take (min 1 n) [i]++List.drop (0+min 1 n) _=_
  cases n with
  |zero=>rfl
  |succ n=>simp [rep,show min 1 (n+1)=1 by omega]
 have key:=Pt ([i],(n:Int)) i n hn (n- min 1 n) (min 1 n) (by omega) (by omega)
 unfold p9 repeatM aC aq
 dsimp only
 rw [e1,e2,YC (by omega)]
 dsimp only
 rw [e3,Int.toNat_natCast,List.length_replicate]
 simp only [List.length_cons,List.length_nil,Nat.zero_add]
 rw [e4.1,e4.2]
 refine ⟨⟨fun q=>absurd q (by omega),fun _=>⟨fun q=>absurd q (by omega),fun _=>⟨fun q=>absurd q (by omega),fun _=>⟨⟨⟨by omega,by omega⟩,by omega⟩,key.1⟩⟩⟩⟩,?_⟩
 rw [if_neg (by omega),if_neg (by omega),if_neg (by omega)]
 exact key.2
theorem Wx (l:List Int) (hl:l.length<4611686018427387904) (t:Int):yb (l,t)/\ RX (l,t)=match l.findIdx? (fun x=>t==x) with|some i=>(i:Int)|none=> -1:=
 oB l hl (fun x=>t==x) (iA (l,t)) (qp (l,t)) (fun i hi=>by
   unfold qp
   intro h
   simp only [Int.toNat_natCast]
   dsimp only at h ⊢;omega) (fun i x hx=>by
   have hlt:=c6 hx
   unfold iA
   rw [if_pos (by dsimp only;omega),Int.toNat_natCast]
   dsimp only
   rw [iS hx]) (by
   unfold iA
   rw [if_neg (by dsimp only;omega)])
theorem Ip (l:List Int) (hl:l.length<4611686018427387904) (t:Int):qj (l,t)/\ (kX (l,t)=true↔t∈l):=by
 obtain ⟨h1,h2⟩:=Wx l hl t
 refine ⟨h1,?_⟩
 unfold kX aq
 rw [h2]
 refine (iff_of_eq (congrArg (fun b:Bool=>b=true) (uk l (fun x=>t==x)))).trans ?_
 rw [List.any_eq_true]
 constructor
 ·rintro ⟨x,hx,e⟩
  have:t=x:=by simpa using e
  rw [this];exact hx
 ·intro h
  exact ⟨t,h,by simp⟩
theorem Io (l:List Bool) (hl:l.length<4611686018427387904) (t:Bool):qh (l,t)/\ (kV (l,t)=true↔t∈l):=by
 have h:=oB l hl (fun x=>t==x) (iy (l,t)) (qn (l,t)) (fun i hi=>by
   unfold qn
   intro h
   simp only [Int.toNat_natCast]
   dsimp only at h ⊢;omega) (fun i x hx=>by
   have hlt:=c6 hx
   unfold iy
   rw [if_pos (by dsimp only;omega),Int.toNat_natCast]
   dsimp only
   rw [iS hx]) (by
   unfold iy
   rw [if_neg (by dsimp only;omega)])
 refine ⟨h.1,?_⟩
 have e:RS (l,t)=_:=h.2
 unfold kV aq
 rw [e]
 refine (iff_of_eq (congrArg (fun b:Bool=>b=true) (uk l (fun x=>t==x)))).trans ?_
 rw [List.any_eq_true]
 constructor
 ·rintro ⟨x,hx,e⟩
  have:t=x:=by simpa using e
  rw [this];exact hx
 ·intro h
  exact ⟨t,h,by simp⟩
theorem JR (b:vQ) (i:Int):uS (b,i)=true↔b.2.1=0/\ b.2.2.1=0:=by
 unfold uS
 dsimp only
 by_cases h:b.2.1=0
 ·rw [if_pos (by simpa using h)];simp [h]
 ·rw [if_neg (by simpa using h)];simp [h]
theorem MN {α:Type} (l:List α) (i k:Nat) (x d:α) (h:i<l.length):(l.set i x).getD k d=if i=k then x else l.getD k d:=by
 rw [List.getD_eq_getElem?_getD,List.getElem?_set,List.getD_eq_getElem?_getD]
 by_cases e:i=k
 ·rw [if_pos e,if_pos e,if_pos (by omega)];rfl
 ·rw [if_neg e,if_neg e]
section
variable {L:List T3} {pl:List Int} {G:List vQ} {N:List (List Int)} {U:List Int} (h:IU L 0 (-1) pl G N U)
include h
theorem IU.up0 {k:Nat} (h1:0<k) (h2:k<G.length): ∃j,j<k/\ U.getD k 0=(j:Int)/\ (∀i∈N.getD k [],i∈N.getD j [])/\ ((G.getD j zB).2.1=(k:Int)\/ (G.getD j zB).2.2.1=(k:Int)):=by
 obtain ⟨j,a,b,c,d⟩:=h.up k h1 h2
 exact ⟨j,a,by rw [b];omega,c,d.imp (fun d=>by rw [d];omega) fun d=>by rw [d];omega⟩
theorem IU.af0 {k:Nat} (h2:k<G.length):((G.getD k zB).2.1=0/\ (G.getD k zB).2.2.1=0/\ (G.getD k zB).2.2.2=N.getD k []/\ (N.getD k []).length<=2)\/
  (∃r:Nat,(G.getD k zB).2.1=((k+1:Nat):Int)/\ (G.getD k zB).2.2.1=(r:Int)/\ k+1<r/\ r<G.length/\ (G.getD k zB).2.2.2= []/\ U.getD (k+1) 0=(k:Int)/\ U.getD r 0=(k:Int)/\ (N.getD (k+1) []++N.getD r []).Perm (N.getD k [])/\ 2<(N.getD k []).length/\ (N.getD (k+1) []).length<=((N.getD k []).length+1) / 2/\ (N.getD r []).length<=((N.getD k []).length+1) / 2):=by
 rcases h.kind k h2 with a|⟨r,a1,a2,a3,a4,a5,a6,a7,a8⟩
 ·exact .inl a
 ·exact .inr ⟨r,by rw [a1];omega,by rw [a2];omega,a3,a4,a5,by rw [a6];omega,by rw [a7];omega,a8⟩
theorem MA (hl:G.length<1099511627776) (up0:List Int) (hu0:up0=List.replicate G.length (-1)):
  TR (c7 G) (gl G) (up0,0) fun r=> ∃up,r= .inr up/\ up.length=G.length/\ ∀k,k<G.length->up.getD k 0=U.getD k 0:=by
 refine eH G.length (fun i s=> ∃up,s=(up,(i:Int))/\ up.length=G.length/\ ∀k,k<G.length->up.getD k 0=if 0<k/\ U.getD k 0<(i:Int) then U.getD k 0 else-1) _ (fun i s hi hj=> ?_) (fun s hj=> ?_) ⟨up0,rfl,by rw [hu0];simp,fun k hk=> ?_⟩
 ·obtain ⟨up,rfl,hlen,IA⟩:=hj
  have hc:av (((i:Nat):Int)+1)=((i+1:Nat):Int):=VD hi (by omega)
  rcases h.af0 hi with ⟨a1,a2,a3,a4⟩|⟨r,a1,a2,a3,a4,a5,a6,a7,a8⟩
  ·have TU:uS (G.getD i zB,(i:Int))=true:=(JR _ _).2 ⟨a1,a2⟩
   refine ⟨?_,.inl ⟨_,?_,up,rfl,hlen,fun k hk=> ?_⟩⟩
   ·unfold gl aC
    intro _
    dsimp only
    rw [Int.toNat_natCast,show uS (G.getD i (((0,0,0),0,0,0),0,0,[]),(i:Int))=true from TU]
    exact ⟨by omega,hi,hi,fun q=>absurd rfl q⟩
   ·unfold c7 aq
    dsimp only
    rw [if_pos (by omega),Int.toNat_natCast,show uS (G.getD i (((0,0,0),0,0,0),0,0,[]),(i:Int))=true from TU,if_pos rfl,hc]
   ·rw [IA k hk]
    by_cases Nc:0<k
    ·obtain ⟨j,j1,j2,_,j4⟩:=h.up0 Nc hk
     have hji:j≠i:=by
      rintro rfl
      rw [a1,a2] at j4
      rcases j4 with e|e<;>omega
     rw [j2]
     by_cases c:j<i
     ·rw [if_pos ⟨Nc,by omega⟩,if_pos ⟨Nc,by omega⟩]
     ·rw [if_neg (by omega),if_neg (by omega)]
    ·rw [if_neg (by omega),if_neg (by omega)]
  ·have TU: ¬uS (G.getD i zB,(i:Int))=true:=fun q=>by
    have:=((JR _ _).1 q).1
    rw [a1] at this;omega
   have u1:=IA (i+1) (by omega)
   have u2:=IA r a4
   rw [a6,if_neg (by omega)] at u1
   rw [a7,if_neg (by omega)] at u2
   have ZV:uS (G.getD i (((0,0,0),0,0,0),0,0,[]),(i:Int))=false:=by
    cases e:uS (G.getD i (((0,0,0),0,0,0),0,0,[]),(i:Int)) with
    |false=>rfl
    |true=>exact absurd e TU
   have b1:(G.getD i ((((0:Int),(0:Int),(0:Int)),(0:Int),(0:Int),(0:Int)),(0:Int),(0:Int),([]:List Int))).2.1=((i+1:Nat):Int):=a1
   have b2:(G.getD i ((((0:Int),(0:Int),(0:Int)),(0:Int),(0:Int),(0:Int)),(0:Int),(0:Int),([]:List Int))).2.2.1=(r:Int):=a2
   have b5:(G.getD i ((((0:Int),(0:Int),(0:Int)),(0:Int),(0:Int),(0:Int)),(0:Int),(0:Int),([]:List Int))).2.2.2= []:=a5
   have hls:(up.set (i+1) (i:Int)).length=up.length:=List.length_set
   refine ⟨?_,.inl ⟨((up.set (i+1) (i:Int)).set r (i:Int),((i+1:Nat):Int)),?_,_,rfl,by simp [hlen],fun k hk=> ?_⟩⟩
   ·unfold gl aC
    intro _
    dsimp only
    rw [Int.toNat_natCast,ZV,b1,b2,b5,Int.toNat_natCast,Int.toNat_natCast]
    exact ⟨by omega,hi,hi,fun _ _ _ _ _=>⟨by omega,by omega,by omega,fun _=>⟨by omega,by omega,by omega,fun _=>⟨by omega,by omega,by omega,by omega,by omega,by omega⟩⟩⟩⟩
   ·unfold c7 aq
    dsimp only
    rw [if_pos (by omega),Int.toNat_natCast,ZV,b1,b2,b5,hc,Int.toNat_natCast,Int.toNat_natCast,u1,u2,if_neg (by decide),if_neg (by decide),if_neg (by simp),if_neg (by omega),if_neg (by omega),if_neg (by decide),if_neg (by decide)]
   ·rw [MN _ _ _ _ _ (by omega),MN _ _ _ _ _ (by omega),IA k hk]
    by_cases e2:r=k
    ·subst e2
     rw [if_pos rfl,a7,if_pos ⟨by omega,by omega⟩]
    ·rw [if_neg e2]
     by_cases e1:i+1=k
     ·subst e1
      rw [if_pos rfl,a6,if_pos ⟨by omega,by omega⟩]
     ·rw [if_neg e1]
      by_cases Nc:0<k
      ·obtain ⟨j,j1,j2,_,j4⟩:=h.up0 Nc hk
       have hji:j≠i:=by
        rintro rfl
        rw [a1,a2] at j4
        rcases j4 with e|e<;>omega
       rw [j2]
       by_cases c:j<i
       ·rw [if_pos ⟨Nc,by omega⟩,if_pos ⟨Nc,by omega⟩]
       ·rw [if_neg (by omega),if_neg (by omega)]
      ·rw [if_neg (by omega),if_neg (by omega)]
 ·obtain ⟨up,rfl,hlen,IA⟩:=hj
  refine ⟨?_,.inr up,?_,up,rfl,hlen,fun k hk=> ?_⟩
  ·unfold gl
   intro q
   dsimp only at q;omega
  ·unfold c7
   dsimp only
   rw [if_neg (by omega)]
  ·rw [IA k hk]
   by_cases Nc:0<k
   ·obtain ⟨j,j1,j2,_,_⟩:=h.up0 Nc hk
    rw [if_pos ⟨Nc,by omega⟩]
   ·have:k=0:=by omega
    subst this
    rw [if_neg (by omega),h.u0]
 ·rw [hu0,List.getD_eq_getElem?_getD,List.getElem?_replicate,if_pos hk]
  by_cases Nc:0<k
  ·obtain ⟨j,j1,j2,_,_⟩:=h.up0 Nc hk
   rw [if_neg (by omega)];rfl
  ·rw [if_neg (by omega)];rfl
theorem Pd (hl:G.length<1000000):nk G/\ ∃up,ve G=(up,true)/\ up.length=G.length/\ ∀k,k<G.length->up.getD k 0=U.getD k 0:=by
 obtain ⟨r1,r2⟩:=SG (-1) (n:=G.length) (by omega)
 have key:=MA h (by omega) _ rfl
 have hpos:=h.pos
 unfold nk ve aC aq
 rw [r2]
 obtain ⟨up,e,hlen,IA⟩:=key.2
 dsimp only
 rw [e]
 obtain ⟨c1,c2⟩:=Ip (up.drop 1) (by rw [List.length_drop];omega) (-1)
 have hno:kX (up.drop 1,-1)=false:=by
  cases hb:kX (up.drop 1,-1) with
  |false=>rfl
  |true=>
   have:=c2.1 hb
   obtain ⟨k,hk,e2⟩:=List.mem_iff_getElem.1 this
   rw [List.length_drop] at hk
   rw [List.getElem_drop] at e2
   obtain ⟨j,_,j2,_,_⟩:=h.up0 (k:=1+k) (by omega) (by omega)
   have h3:=IA (1+k) (by omega)
   rw [List.getD_eq_getElem?_getD,List.getElem?_eq_getElem (by omega),Option.getD_some,e2,j2] at h3
   omega
 refine ⟨⟨r1,key.1,fun _=>⟨by omega,c1⟩⟩,up,?_,hlen,IA⟩
 show (if ((G.length:Nat):Int)>0 then (up,!kX (up.drop 1,-1)) else (up,false))=_
 rw [if_pos (by omega),hno];rfl
end
end Go.Proofs.YtngdehlpoomaiaaGreat
namespace Go.Proofs.YtngdehlpoomaiaaGreat
open Go Go.Ev Go.Proofs
theorem zv (b:B3) (p:P3):uv (b,p)/\ (Iv (b,p)=true↔((fF b.1/\ fF b.2)/\ Nm b.1 b.2)/\ Nm b.1 p/\ Nm p b.2):=by
 obtain ⟨s1,s2⟩:=yq b
 refine ⟨s1,?_⟩
 unfold Iv aq
 dsimp only
 by_cases h:qy b=true
 ·rw [if_pos h,Oq]
  exact ⟨fun q=>⟨s2.1 h,q⟩,fun q=>q.2⟩
 ·rw [if_neg h]
  exact ⟨fun q=>(by cases q),fun q=>absurd (s2.2 q.1) h⟩
theorem ZB (b:vQ) (i:Int) (t:T3):FB ((b,i),t)/\ ((∀p∈Lb t,Iv (b.1,p)=true)->Wf ((b,i),t)=true):=by
 refine ⟨⟨(zv _ _).1,fun _=>⟨(zv _ _).1,fun _=>(zv _ _).1⟩⟩,fun h=> ?_⟩
 unfold Wf aq
 dsimp only
 rw [h t.1 (by simp [Lb]),if_pos rfl,h t.2.1 (by simp [Lb]),if_pos rfl,h t.2.2 (by simp [Lb])]
section
variable {L:List T3} {pl:List Int} {G:List vQ} {N:List (List Int)} {U:List Int} (h:IU L 0 (-1) pl G N U) (hi:Na L pl) (hs:yQ L) (hn:pl.length<=1000)
include h hi hs hn
theorem IU.has (hN: ∀k,k<G.length->(N.getD k []).length<=1000) {k:Nat} (hk:k<G.length) {i:Int} (hin:i∈N.getD k []): ∀p∈Lb (L.getD i.toNat zT),Iv ((G.getD k zB).1,p)=true:=by
 intro p hp
 have hIn:Na L (N.getD k []):=fun i hi'=>hi i (h.sub k hk i hi')
 have hne:N.getD k []≠ []:=List.ne_nil_of_mem hin
 have hB:=Tv hs hIn (by have:=hN k hk;omega) hne
 rw [h.box k hk]
 have hpt:p∈oI L (N.getD k []):=List.mem_flatMap.2 ⟨i,hin,hp⟩
 exact (zv _ _).2.2 ⟨hB.is (Gn hs hIn),hB.low p hpt,hB.high p hpt⟩
theorem aao (hN: ∀k,k<G.length->(N.getD k []).length<=1000) {up:List Int} (hul:up.length=G.length) (IA: ∀k,k<G.length->up.getD k 0=U.getD k 0) (sn:List Bool) (a b c d e:Int) (ls:List Int) {i:Int} (hin:0<=i/\ i<(L.length:Int)):
  ∀n k:Nat,k<n->k<G.length->i∈N.getD k []->
  TR (mm (G,L)) (r8 (G,L)) (up,sn,a,i,(k:Int),b,ls,c,d) fun r=>r= .inr (up,sn,a,b,ls,c,d):=by
 intro n
 induction n with
 |zero=>intro k hk;omega
 |succ n ih=>
  intro k hkn hk hmem
  obtain ⟨n1,n2⟩:=ZB (G.getD k zB) (k:Int) (L.getD i.toNat zT)
  have n3:=n2 (h.has hi hs hn hN hk hmem)
  have hu:=IA k hk
  have n3':Wf ((G.getD k ((((0:Int),(0:Int),(0:Int)),(0:Int),(0:Int),(0:Int)),(0:Int),(0:Int),([]:List Int)),(k:Int)),L.getD i.toNat (((0:Int),(0:Int),(0:Int)),((0:Int),(0:Int),(0:Int)),(0:Int),(0:Int),(0:Int)))=true:=n3
  refine TR.go (s':=(up,sn,a,i,up.getD k 0,b,ls,c,d)) ?_ ?_ ?_
  ·unfold r8 aC
   intro _
   dsimp only
   rw [Int.toNat_natCast]
   exact ⟨by omega,hk,hk,hin,by omega,by omega,n1,fun _=>⟨by omega,by omega,by omega⟩⟩
  ·unfold mm aq
   dsimp only
   rw [if_pos (by omega),Int.toNat_natCast,n3',if_neg (by decide)]
  ·rcases Nat.eq_zero_or_pos k with e0|e0
   ·subst e0
    rw [hu,h.u0]
    refine TR.stop (r:= .inr (up,sn,a,b,ls,c,d)) ?_ ?_ rfl
    ·unfold r8
     intro q
     dsimp only at q;omega
    ·unfold mm
     dsimp only
     rw [if_neg (by decide)]
   ·obtain ⟨j,j1,j2,j3,_⟩:=h.up0 e0 hk
    rw [hu,j2]
    exact ih j (by omega) (by omega) (j3 i hmem)
def Sn (L:List T3) (S:List Int) (sn:List Bool):Prop:=sn.length=L.length/\ ∀j:Nat,j<L.length->(sn.getD j false=true↔(j:Int)∈S)
theorem aex (hN: ∀k,k<G.length->(N.getD k []).length<=1000) {up:List Int} (hul:up.length=G.length) (IA: ∀k,k<G.length->up.getD k 0=U.getD k 0) (gU:pl.Nodup) {k:Nat} (hk:k<G.length) {S:List Int} (hS:(S++(G.getD k zB).2.2.2).Nodup) (hsub: ∀i∈(G.getD k zB).2.2.2,i∈N.getD k []) (hlen:(G.getD k zB).2.2.2.length<=1000) {sn:List Bool} (hsn:Sn L S sn):
  TR (mh (G,L)) (r7 (G,L)) (up,sn,(k:Int),(k:Int),(G.getD k zB).2.2.2,(((G.getD k zB).2.2.2.length:Nat):Int),0) fun r=> ∃Q0,r= .inr (up,Q0,(k:Int))/\ Sn L (S++(G.getD k zB).2.2.2) Q0:=by
 generalize hT:(G.getD k zB).2.2.2=T at*
 refine eH T.length (fun j s=> ∃Q0,s=(up,Q0,(k:Int),(k:Int),T,((T.length:Nat):Int),(j:Int))/\ Sn L (S++T.take j) Q0) _ (fun j s hj hJ=> ?_) (fun s hJ=> ?_) ⟨sn,rfl,by simpa using hsn⟩
 ·obtain ⟨Q0,rfl,hl,hm⟩:=hJ
  have hmem:=hsub _ (jl hj 0)
  have hin:=hi _ (h.sub k hk _ hmem)
  generalize hp:T.getD j 0=p at*
  have amo:p.toNat<L.length:=by omega
  have hpn:((p.toNat:Nat):Int)=p:=by omega
  have hno: ¬Q0.getD p.toNat false=true:=fun q=>by
   have h1:=(hm p.toNat amo).1 q
   rw [hpn] at h1
   have h2:(S++T.take j++ [p]).Nodup:=by
    have:S++T=(S++T.take j++ [p])++T.drop (j+1):=by
     rw [<- hp,List.append_assoc S,<- eA hj 0,List.append_assoc,List.take_append_drop]
    rw [this] at hS
    exact (List.nodup_append.1 hS).1
   rw [List.nodup_append] at h2
   exact h2.2.2 p h1 p (by simp) rfl
  have hchain:=aao h hi hs hn hN hul IA (Q0.set p.toNat true) (k:Int) (k:Int) ((T.length:Nat):Int) (j:Int) 0 T hin (k+1) k (by omega) hk hmem
  refine ⟨?_,.inl ⟨(up,Q0.set p.toNat true,(k:Int),(k:Int),T,((T.length:Nat):Int),((j+1:Nat):Int)),?_,_,rfl,by simp [hl],fun q hq=> ?_⟩⟩
  ·unfold r7 aC
   intro _
   dsimp only
   rw [Int.toNat_natCast,hp]
   exact ⟨by omega,hj,hj,fun _ _=>⟨by omega,by omega,by omega,fun _=>⟨by omega,by omega,by omega,hchain.1⟩⟩⟩
  ·unfold mh aq
   dsimp only
   rw [if_pos (by omega),Int.toNat_natCast,hp,if_neg (by omega),if_neg (by omega),if_neg hno,hchain.2]
   show Sum.inl (up,Q0.set p.toNat true,(k:Int),(k:Int),T,((T.length:Nat):Int),av ((j:Int)+1))=_
   rw [VD hj (by omega)]
  ·rw [MN _ _ _ _ _ (by omega),eA hj 0,hp]
   by_cases e:p.toNat=q
   ·rw [if_pos e]
    subst e
    simp [hpn]
   ·rw [if_neg e,hm q hq]
    have hne: ¬(q:Int)=p:=fun e'=>e (by omega)
    simp [hne]
 ·obtain ⟨Q0,rfl,hJ⟩:=hJ
  rw [List.take_length] at hJ
  refine ⟨?_,_,?_,Q0,rfl,hJ⟩
  ·unfold r7
   intro q
   dsimp only at q;omega
  ·unfold mh
   dsimp only
   rw [if_neg (by omega)]
theorem ahF (hN: ∀k,k<G.length->(N.getD k []).length<=1000) (hG:G.length<=10000) {up:List Int} (hul:up.length=G.length) (IA: ∀k,k<G.length->up.getD k 0=U.getD k 0) (gU:pl.Nodup):
  TR (jI (G,L)) (rZ (G,L)) (up,List.replicate L.length false,0) fun r=> ∃sn,r= .inr sn/\ Sn L (G.flatMap fun b=>b.2.2.2) sn:=by
 have ajG:(G.flatMap fun b=>b.2.2.2).Nodup:=h.afc.nodup_iff.2 gU
 refine eH G.length (fun i s=> ∃sn,s=(up,sn,(i:Int))/\ Sn L ((G.take i).flatMap fun b=>b.2.2.2) sn) _ (fun i s hk hJ=> ?_) (fun s hJ=> ?_) ⟨_,rfl,by simp,fun j hj=> ?_⟩
 ·obtain ⟨sn,rfl,hS⟩:=hJ
  have hsp:(G.flatMap fun b=>b.2.2.2)=((G.take i).flatMap fun b=>b.2.2.2)++(G.getD i zB).2.2.2++((G.drop (i+1)).flatMap fun b=>b.2.2.2):=by
   have h1:=List.take_append_drop (i+1) G
   rw [eA hk zB] at h1
   have h2:=congrArg (fun l:List vQ=>l.flatMap fun b=>b.2.2.2) h1
   simp only [List.flatMap_append,List.flatMap_cons,List.flatMap_nil,List.append_nil] at h2
   exact h2.symm
  have hS2:(((G.take i).flatMap fun b=>b.2.2.2)++(G.getD i zB).2.2.2).Nodup:=by
   rw [hsp] at ajG
   exact (List.nodup_append.1 ajG).1
  have hsub:(∀p∈(G.getD i zB).2.2.2,p∈N.getD i [])/\ (G.getD i zB).2.2.2.length<=1000:=by
   rcases h.af0 hk with ⟨_,_,a3,a4⟩|⟨_,_,_,_,_,a5,_⟩
   ·rw [a3];exact ⟨fun p hp=>hp,by omega⟩
   ·rw [a5];exact ⟨fun p hp=>(by cases hp),by simp⟩
  have key:=aex h hi hs hn hN hul IA gU hk hS2 hsub.1 hsub.2 hS
  obtain ⟨Q0,e,hS'⟩:=key.2
  refine ⟨?_,.inl ⟨(up,Q0,((i+1:Nat):Int)),?_,Q0,rfl,?_⟩⟩
  ·unfold rZ
   intro _
   dsimp only
   rw [Int.toNat_natCast]
   exact ⟨by omega,hk,hk,key.1⟩
  ·unfold jI aq
   dsimp only
   rw [if_pos (by omega),Int.toNat_natCast]
   refine Eq.trans (congrArg (fun r=>Sum.elim (fun a=>Sum.inr (Sum.inl ())) (fun b=>Sum.inl (b.1,b.2.1,(av (b.2.2+(1:Int))))) r) e) ?_
   show Sum.inl (up,Q0,av ((i:Int)+1))=_
   rw [VD hk (by omega)]
  ·rw [eA hk zB]
   simpa using hS'
 ·obtain ⟨sn,rfl,hS⟩:=hJ
  rw [List.take_length] at hS
  refine ⟨?_,.inr sn,?_,sn,rfl,hS⟩
  ·unfold rZ
   intro q
   dsimp only at q;omega
  ·unfold jI
   dsimp only
   rw [if_neg (by omega)]
 ·rw [List.getD_eq_getElem?_getD,List.getElem?_replicate,if_pos hj];simp
end
theorem jR.small {L:List T3} {s:Nat} {par:Int} {pl:List Int} {G:List vQ} {N:List (List Int)} {U:List Int} (h:jR L s par pl G N U): ∀x∈N,x.length<=pl.length:=by
 induction h with
 |leaf s par pl hl=>intro x hx;simp only [List.mem_singleton] at hx;subst hx;omega
 |fork s par pl a b A B NA NB UA UB h2 hp ha hb he hA hB Nh Ni=>
  intro x hx
  simp only [List.mem_cons,List.mem_append] at hx
  rcases hx with rfl|hx|hx
  ·omega
  ·have:=Nh x hx;omega
  ·have:=Ni x hx;omega
theorem aew {L:List T3} {pl:List Int} {G:List vQ} {N:List (List Int)} {U:List Int} (ht:jR L 0 (-1) pl G N U) (hi:Na L pl) (hs:yQ L) (hn:pl.length<=1000) (hL:L.length<=1000) (hG:G.length<=10000) (gU:pl.Nodup) (hall: ∀j:Nat,j<L.length->(j:Int)∈pl):D6 (G,L)/\ isT (G,L)=true:=by
 have h:=ht.facts
 have hN: ∀k,k<G.length->(N.getD k []).length<=1000:=fun k hk=>by
  have:=ht.small _ (jl (show k<N.length by rw [h.n1];exact hk) [])
  omega
 obtain ⟨p1,up,p2,hul,IA⟩:=Pd h (by omega)
 have key:=ahF h hi hs hn hN hG hul IA gU
 obtain ⟨sn,e,hl,hm⟩:=key.2
 obtain ⟨c1,c2⟩:=Io sn (by omega) false
 have hno:kV (sn,false)=false:=by
  cases hb:kV (sn,false) with
  |false=>rfl
  |true=>
   have:=c2.1 hb
   obtain ⟨j,hj,e2⟩:=List.mem_iff_getElem.1 this
   have h3:=(hm j (by omega)).2 (h.afc.mem_iff.2 (hall j (by omega)))
   rw [List.getD_eq_getElem?_getD,List.getElem?_eq_getElem hj,Option.getD_some,e2] at h3
   cases h3
 unfold D6 isT aC aq
 dsimp only
 rw [p2]
 dsimp only
 rw [if_neg (by decide),e]
 refine ⟨⟨p1,fun _=>⟨⟨by omega,by omega⟩,key.1,c1⟩⟩,?_⟩
 show (!kV (sn,false))=true
 rw [hno];rfl
end Go.Proofs.YtngdehlpoomaiaaGreat
