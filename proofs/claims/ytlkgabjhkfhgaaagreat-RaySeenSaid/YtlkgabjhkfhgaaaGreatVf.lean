/- Plain laws: what is built is right. -/
import Derived.Test.YtlkgabjhkfhgaaaGreatVd
import Derived.Test.YtlkgabjhkfhgaaaGreatUc
noncomputable section
set_option linter.unusedSectionVars false
set_option linter.unusedVariables false
set_option linter.unusedSimpArgs false
namespace Go.Proofs.YtlkgabjhkfhgaaaGreat
open Go Go.Ev Go.Proofs
theorem wrap64 {n:Int} (h1:0<=n) (h2:n<18446744073709551616):IntKind.wrap IntKind.u64 n=n:=by
 unfold IntKind.wrap
 simp [IntKind.bits,IntKind.signed]
 omega
theorem Rv {n:Nat} (h:n<4294967296):(BitVec.toNat ((BitVec.ofInt 64 (n:Int))&&&(BitVec.ofInt 64 (4294967295:Int))))=n:=by
 have e1:(BitVec.ofInt 64 (n:Int)).toNat=n:=by
  rw [BitVec.toNat_ofInt];omega
 have e2:(BitVec.ofInt 64 (4294967295:Int)).toNat=2^32- 1:=by decide
 rw [BitVec.toNat_and,e1,e2,Nat.and_two_pow_sub_one_eq_mod]
 omega
theorem PW {n:Nat} (h:n<4294967296):Hz (1,(n:Int))=(0,(n:Int)):=by
 have f1:Int.fdiv 1 4294967296=0:=by decide
 have f2:Int.fdiv (n:Int) 4294967296=0:=by rw [Int.fdiv_eq_ediv_of_nonneg _ (by decide)];omega
 have l1:(BitVec.toNat ((BitVec.ofInt 64 (1:Int))&&&(BitVec.ofInt 64 (4294967295:Int))))=1:=Rv (n:=1) (by decide)
 have w0:IntKind.wrap IntKind.u64 0=0:=wrap64 (by decide) (by decide)
 have w1':IntKind.wrap IntKind.u64 1=1:=wrap64 (by decide) (by decide)
 have wn:IntKind.wrap IntKind.u64 (n:Int)=(n:Int):=wrap64 (by omega) (by omega)
 have z:(BitVec.toNat ((BitVec.ofInt 64 (0:Int))&&&(BitVec.ofInt 64 (4294967295:Int))))=0:=Rv (n:=0) (by decide)
 unfold Hz K0 ai
 dsimp only
 simp only [f1,f2,Rv h,l1,Int.zero_mul,Int.mul_zero,Int.one_mul,Int.zero_add,Int.add_zero,w0,wn,z,Int.natCast_zero,Int.natCast_one,w1',show Int.fdiv 0 4294967296=0 from by decide]
def rep (c m:Nat) (i:Int):List Int:=List.replicate c i++List.replicate (m- c) 0
theorem Vh {c m:Nat} (h:c<=m) (i:Int):(rep c m i).length=m:=by simp only [rep,List.length_append,List.length_replicate];omega
theorem Sh {c m:Nat} (h:c<=m) (i:Int):iz (rep c m i) c (m- c) ((rep c m i).take c)=rep (c+min c (m- c)) m i/\ nE (m- c) ((rep c m i).take c).length=min c (m- c):=by
 have e1:(rep c m i).take c=List.replicate c i:=by simp [rep]
 have e2:nE (m- c) (List.replicate c i).length=min c (m- c):=by unfold nE;rw [List.length_replicate]
 rw [e1,e2]
 refine ⟨?_,rfl⟩
 unfold iz
 rw [e1,e2]
 unfold rep
 rw [List.take_replicate,show min (min c (m- c)) c=min c (m- c) by omega,List.replicate_append_replicate,List.drop_append,List.length_replicate,List.drop_replicate,List.drop_replicate,show c- (c+min c (m- c))=0 by omega]
 simp only [List.replicate_zero,List.nil_append]
 rw [show m- c- (c+min c (m- c)- c)=m- (c+min c (m- c)) by omega]
theorem IZ (x:List Int×Int) (i:Int) (m:Nat) (hm:m<=1000000000): ∀k c,c+k=m->(0<c\/ k=0)->TR (fY x) (jK x) (rep c m i,(c:Int)) fun r=>r=List.replicate m i:=by
 intro k
 induction k using Nat.strongRecOn with
 |ind k ih=>
  intro c hc h0
  have hl:=Vh (c:=c) (m:=m) (by omega) i
  by_cases hk:k=0
  ·subst hk
   have:c=m:=by omega
   subst this
   refine TR.stop (r:=rep c c i) ?_ ?_ (by simp [rep])
   ·unfold jK
    intro q
    dsimp only at q;rw [hl] at q;omega
   ·unfold fY
    dsimp only
    rw [hl,if_neg (by omega)]
  ·obtain ⟨q1,q2⟩:=Sh (c:=c) (m:=m) (by omega) i
   refine TR.go (s':=(rep (c+min c (m- c)) m i,((c+min c (m- c):Nat):Int))) ?_ ?_ (ih (k- min c (m- c)) (by omega) _ (by omega) (by omega))
   ·unfold jK
    intro _
    dsimp only
    rw [hl];omega
   ·unfold fY ai
    dsimp only
    rw [hl,if_pos (by omega),Int.toNat_natCast,Nat.add_zero,q1,q2,aL (by omega) (by omega)]
    congr 2
theorem Li (i:Int) {n:Nat} (hn:n<=1000000000):nQ ([i],(n:Int))/\ repeatM ([i],(n:Int))=List.replicate n i:=by
 have e1:IntKind.wrap IntKind.u64 ((([i]:List Int).length:Nat):Int)=1:=wrap64 (by simp) (by simp)
 have e2:IntKind.wrap IntKind.u64 ((n:Nat):Int)=(n:Int):=wrap64 (by omega) (by omega)
 have e3:ae ((n:Nat):Int)=(n:Int):=aL (by omega) (by omega)
 have e4:iz (List.replicate n (0:Int)) 0 n [i]=rep (min 1 n) n i/\ nE n 1=min 1 n:=by
  refine ⟨?_,rfl⟩
  unfold iz
  show _++List.take (min 1 n) [i]++List.drop (0+min 1 n) _=_
  cases n with
  |zero=>rfl
  |succ n=>simp [rep,show min 1 (n+1)=1 by omega]
 have key:=IZ ([i],(n:Int)) i n hn (n- min 1 n) (min 1 n) (by omega) (by omega)
 unfold nQ repeatM az ai
 dsimp only
 rw [e1,e2,PW (by omega)]
 dsimp only
 rw [e3,Int.toNat_natCast,List.length_replicate]
 simp only [List.length_cons,List.length_nil,Nat.zero_add]
 rw [e4.1,e4.2]
 refine ⟨⟨fun q=>absurd q (by omega),fun _=>⟨fun q=>absurd q (by omega),fun _=>⟨fun q=>absurd q (by omega),fun _=>⟨⟨⟨by omega,by omega⟩,by omega⟩,key.1⟩⟩⟩⟩,?_⟩
 rw [if_neg (by omega),if_neg (by omega),if_neg (by omega)]
 exact key.2
theorem Od (l:List Int) (hl:l.length<4611686018427387904) (t:Int):ux (l,t)/\ KF (l,t)=match l.findIdx? (fun x=>t==x) with|some i=>(i:Int)|none=> -1:=
 mP l hl (fun x=>t==x) (gQ (l,t)) (om (l,t)) (fun i hi=>by
   unfold om
   intro h
   simp only [Int.toNat_natCast]
   dsimp only at h ⊢;omega) (fun i x hx=>by
   have hlt:=eu hx
   unfold gQ
   rw [if_pos (by dsimp only;omega),Int.toNat_natCast]
   dsimp only
   rw [jw hx]) (by
   unfold gQ
   rw [if_neg (by dsimp only;omega)])
theorem Ds (l:List Int) (hl:l.length<4611686018427387904) (t:Int):n7 (l,t)/\ (j5 (l,t)=true↔t∈l):=by
 obtain ⟨h1,h2⟩:=Od l hl t
 refine ⟨h1,?_⟩
 unfold j5 ai
 rw [h2]
 refine (iff_of_eq (congrArg (fun b:Bool=>b=true) (qY l (fun x=>t==x)))).trans ?_
 rw [List.any_eq_true]
 constructor
 ·rintro ⟨x,hx,e⟩
  have:t=x:=by simpa using e
  rw [this];exact hx
 ·intro h
  exact ⟨t,h,by simp⟩
theorem Dr (l:List Bool) (hl:l.length<4611686018427387904) (t:Bool):nZ (l,t)/\ (jZ (l,t)=true↔t∈l):=by
 have h:=mP l hl (fun x=>t==x) (gO (l,t)) (oe (l,t)) (fun i hi=>by
   unfold oe
   intro h
   simp only [Int.toNat_natCast]
   dsimp only at h ⊢;omega) (fun i x hx=>by
   have hlt:=eu hx
   unfold gO
   rw [if_pos (by dsimp only;omega),Int.toNat_natCast]
   dsimp only
   rw [jw hx]) (by
   unfold gO
   rw [if_neg (by dsimp only;omega)])
 refine ⟨h.1,?_⟩
 have e:KB (l,t)=_:=h.2
 unfold jZ ai
 rw [e]
 refine (iff_of_eq (congrArg (fun b:Bool=>b=true) (qY l (fun x=>t==x)))).trans ?_
 rw [List.any_eq_true]
 constructor
 ·rintro ⟨x,hx,e⟩
  have:t=x:=by simpa using e
  rw [this];exact hx
 ·intro h
  exact ⟨t,h,by simp⟩
theorem EA (b:u6) (i:Int):rK (b,i)=true↔b.2.1=0/\ b.2.2.1=0:=by
 unfold rK
 dsimp only
 by_cases h:b.2.1=0
 ·rw [if_pos (by simpa using h)];simp [h]
 ·rw [if_neg (by simpa using h)];simp [h]
theorem GN {α:Type} (l:List α) (i k:Nat) (x d:α) (h:i<l.length):(l.set i x).getD k d=if i=k then x else l.getD k d:=by
 rw [List.getD_eq_getElem?_getD,List.getElem?_set,List.getD_eq_getElem?_getD]
 by_cases e:i=k
 ·rw [if_pos e,if_pos e,if_pos (by omega)];rfl
 ·rw [if_neg e,if_neg e]
section
variable {L:List T3} {pl:List Int} {G:List u6} {N:List (List Int)} {U:List Int} (h:DP L 0 (-1) pl G N U)
include h
theorem DP.Tg {k:Nat} (h1:0<k) (h2:k<G.length): ∃j,j<k/\ U.getD k 0=(j:Int)/\ (∀i∈N.getD k [],i∈N.getD j [])/\ ((G.getD j zB).2.1=(k:Int)\/ (G.getD j zB).2.2.1=(k:Int)):=by
 obtain ⟨j,a,b,c,d⟩:=h.up k h1 h2
 exact ⟨j,a,by rw [b];omega,c,d.imp (fun d=>by rw [d];omega) fun d=>by rw [d];omega⟩
theorem DP.V4 {k:Nat} (h2:k<G.length):((G.getD k zB).2.1=0/\ (G.getD k zB).2.2.1=0/\ (G.getD k zB).2.2.2=N.getD k []/\ (N.getD k []).length<=2)\/
  (∃r:Nat,(G.getD k zB).2.1=((k+1:Nat):Int)/\ (G.getD k zB).2.2.1=(r:Int)/\ k+1<r/\ r<G.length/\ (G.getD k zB).2.2.2= []/\ U.getD (k+1) 0=(k:Int)/\ U.getD r 0=(k:Int)/\ (N.getD (k+1) []++N.getD r []).Perm (N.getD k [])/\ 2<(N.getD k []).length/\ (N.getD (k+1) []).length<=((N.getD k []).length+1) / 2/\ (N.getD r []).length<=((N.getD k []).length+1) / 2):=by
 rcases h.kind k h2 with a|⟨r,a1,a2,a3,a4,a5,a6,a7,a8⟩
 ·exact .inl a
 ·exact .inr ⟨r,by rw [a1];omega,by rw [a2];omega,a3,a4,a5,by rw [a6];omega,by rw [a7];omega,a8⟩
theorem GG (hl:G.length<1099511627776) (Tg:List Int) (hu0:Tg=List.replicate G.length (-1)):
  TR (cZ G) (fW G) (Tg,0) fun r=> ∃up,r= .inr up/\ up.length=G.length/\ ∀k,k<G.length->up.getD k 0=U.getD k 0:=by
 refine gN G.length (fun i s=> ∃up,s=(up,(i:Int))/\ up.length=G.length/\ ∀k,k<G.length->up.getD k 0=if 0<k/\ U.getD k 0<(i:Int) then U.getD k 0 else-1) _ (fun i s hi hj=> ?_) (fun s hj=> ?_) ⟨Tg,rfl,by rw [hu0];simp,fun k hk=> ?_⟩
 ·obtain ⟨up,rfl,hlen,DC⟩:=hj
  have hc:ae (((i:Nat):Int)+1)=((i+1:Nat):Int):=Nu hi (by omega)
  rcases h.V4 hi with ⟨a1,a2,a3,a4⟩|⟨r,a1,a2,a3,a4,a5,a6,a7,a8⟩
  ·have L7:rK (G.getD i zB,(i:Int))=true:=(EA _ _).2 ⟨a1,a2⟩
   refine ⟨?_,.inl ⟨_,?_,up,rfl,hlen,fun k hk=> ?_⟩⟩
   ·unfold fW az
    intro _
    dsimp only
    rw [Int.toNat_natCast,show rK (G.getD i (((0,(0,0)),(0,(0,0))),(0,(0,[]))),(i:Int))=true from L7]
    exact ⟨by omega,hi,hi,fun q=>absurd rfl q⟩
   ·unfold cZ ai
    dsimp only
    rw [if_pos (by omega),Int.toNat_natCast,show rK (G.getD i (((0,(0,0)),(0,(0,0))),(0,(0,[]))),(i:Int))=true from L7,if_pos rfl,hc]
   ·rw [DC k hk]
    by_cases G9:0<k
    ·obtain ⟨j,j1,j2,_,j4⟩:=h.Tg G9 hk
     have hji:j≠i:=by
      rintro rfl
      rw [a1,a2] at j4
      rcases j4 with e|e<;>omega
     rw [j2]
     by_cases c:j<i
     ·rw [if_pos ⟨G9,by omega⟩,if_pos ⟨G9,by omega⟩]
     ·rw [if_neg (by omega),if_neg (by omega)]
    ·rw [if_neg (by omega),if_neg (by omega)]
  ·have L7: ¬rK (G.getD i zB,(i:Int))=true:=fun q=>by
    have:=((EA _ _).1 q).1
    rw [a1] at this;omega
   have u1:=DC (i+1) (by omega)
   have u2:=DC r a4
   rw [a6,if_neg (by omega)] at u1
   rw [a7,if_neg (by omega)] at u2
   have QK:rK (G.getD i (((0,(0,0)),(0,(0,0))),(0,(0,[]))),(i:Int))=false:=by
    cases e:rK (G.getD i (((0,(0,0)),(0,(0,0))),(0,(0,[]))),(i:Int)) with
    |false=>rfl
    |true=>exact absurd e L7
   have b1:(G.getD i ((((0:Int),((0:Int),(0:Int))),((0:Int),((0:Int),(0:Int)))),((0:Int),((0:Int),([]:List Int))))).2.1=((i+1:Nat):Int):=a1
   have b2:(G.getD i ((((0:Int),((0:Int),(0:Int))),((0:Int),((0:Int),(0:Int)))),((0:Int),((0:Int),([]:List Int))))).2.2.1=(r:Int):=a2
   have b5:(G.getD i ((((0:Int),((0:Int),(0:Int))),((0:Int),((0:Int),(0:Int)))),((0:Int),((0:Int),([]:List Int))))).2.2.2= []:=a5
   have hls:(up.set (i+1) (i:Int)).length=up.length:=List.length_set
   refine ⟨?_,.inl ⟨((up.set (i+1) (i:Int)).set r (i:Int),((i+1:Nat):Int)),?_,_,rfl,by simp [hlen],fun k hk=> ?_⟩⟩
   ·unfold fW az
    intro _
    dsimp only
    rw [Int.toNat_natCast,QK,b1,b2,b5,Int.toNat_natCast,Int.toNat_natCast]
    exact ⟨by omega,hi,hi,fun _ _ _ _ _=>⟨by omega,by omega,by omega,fun _=>⟨by omega,by omega,by omega,fun _=>⟨by omega,by omega,by omega,by omega,by omega,by omega⟩⟩⟩⟩
   ·unfold cZ ai
    dsimp only
    rw [if_pos (by omega),Int.toNat_natCast,QK,b1,b2,b5,hc,Int.toNat_natCast,Int.toNat_natCast,u1,u2,if_neg (by decide),if_neg (by decide),if_neg (by simp),if_neg (by omega),if_neg (by omega),if_neg (by decide),if_neg (by decide)]
   ·rw [GN _ _ _ _ _ (by omega),GN _ _ _ _ _ (by omega),DC k hk]
    by_cases e2:r=k
    ·subst e2
     rw [if_pos rfl,a7,if_pos ⟨by omega,by omega⟩]
    ·rw [if_neg e2]
     by_cases e1:i+1=k
     ·subst e1
      rw [if_pos rfl,a6,if_pos ⟨by omega,by omega⟩]
     ·rw [if_neg e1]
      by_cases G9:0<k
      ·obtain ⟨j,j1,j2,_,j4⟩:=h.Tg G9 hk
       have hji:j≠i:=by
        rintro rfl
        rw [a1,a2] at j4
        rcases j4 with e|e<;>omega
       rw [j2]
       by_cases c:j<i
       ·rw [if_pos ⟨G9,by omega⟩,if_pos ⟨G9,by omega⟩]
       ·rw [if_neg (by omega),if_neg (by omega)]
      ·rw [if_neg (by omega),if_neg (by omega)]
 ·obtain ⟨up,rfl,hlen,DC⟩:=hj
  refine ⟨?_,.inr up,?_,up,rfl,hlen,fun k hk=> ?_⟩
  ·unfold fW
   intro q
   dsimp only at q;omega
  ·unfold cZ
   dsimp only
   rw [if_neg (by omega)]
  ·rw [DC k hk]
   by_cases G9:0<k
   ·obtain ⟨j,j1,j2,_,_⟩:=h.Tg G9 hk
    rw [if_pos ⟨G9,by omega⟩]
   ·have:k=0:=by omega
    subst this
    rw [if_neg (by omega),h.u0]
 ·rw [hu0,List.getD_eq_getElem?_getD,List.getElem?_replicate,if_pos hk]
  by_cases G9:0<k
  ·obtain ⟨j,j1,j2,_,_⟩:=h.Tg G9 hk
   rw [if_neg (by omega)];rfl
  ·rw [if_neg (by omega)];rfl
theorem IK (hl:G.length<1000000):mg G/\ ∃up,rU G=(up,true)/\ up.length=G.length/\ ∀k,k<G.length->up.getD k 0=U.getD k 0:=by
 obtain ⟨r1,r2⟩:=Li (-1) (n:=G.length) (by omega)
 have key:=GG h (by omega) _ rfl
 have hpos:=h.pos
 unfold mg rU az ai
 rw [r2]
 obtain ⟨up,e,hlen,DC⟩:=key.2
 dsimp only
 rw [e]
 obtain ⟨c1,c2⟩:=Ds (up.drop 1) (by rw [List.length_drop];omega) (-1)
 have hno:j5 (up.drop 1,-1)=false:=by
  cases hb:j5 (up.drop 1,-1) with
  |false=>rfl
  |true=>
   have:=c2.1 hb
   obtain ⟨k,hk,e2⟩:=List.mem_iff_getElem.1 this
   rw [List.length_drop] at hk
   rw [List.getElem_drop] at e2
   obtain ⟨j,_,j2,_,_⟩:=h.Tg (k:=1+k) (by omega) (by omega)
   have h3:=DC (1+k) (by omega)
   rw [List.getD_eq_getElem?_getD,List.getElem?_eq_getElem (by omega),Option.getD_some,e2,j2] at h3
   omega
 refine ⟨⟨r1,key.1,fun _=>⟨by omega,c1⟩⟩,up,?_,hlen,DC⟩
 show (if ((G.length:Nat):Int)>0 then (up,!j5 (up.drop 1,-1)) else (up,false))=_
 rw [if_pos (by omega),hno];rfl
end
end Go.Proofs.YtlkgabjhkfhgaaaGreat
namespace Go.Proofs.YtlkgabjhkfhgaaaGreat
open Go Go.Ev Go.Proofs
theorem vz (b:B3) (p:P3):rf (b,p)/\ (Dx (b,p)=true↔((fq b.1/\ fq b.2)/\ Hq b.1 b.2)/\ Hq b.1 p/\ Hq p b.2):=by
 obtain ⟨s1,s2⟩:=uK b
 refine ⟨s1,?_⟩
 unfold Dx ai
 dsimp only
 by_cases h:ov b=true
 ·rw [if_pos h,Ie]
  exact ⟨fun q=>⟨s2.1 h,q⟩,fun q=>q.2⟩
 ·rw [if_neg h]
  exact ⟨fun q=>(by cases q),fun q=>absurd (s2.2 q.1) h⟩
theorem Qw (b:u6) (i:Int) (t:T3):A9 ((b,i),t)/\ ((∀p∈C5 t,Dx (b.1,p)=true)->NY ((b,i),t)=true):=by
 refine ⟨⟨(vz _ _).1,fun _=>⟨(vz _ _).1,fun _=>(vz _ _).1⟩⟩,fun h=> ?_⟩
 unfold NY ai
 dsimp only
 rw [h t.1 (by simp [C5]),if_pos rfl,h t.2.1 (by simp [C5]),if_pos rfl,h t.2.2 (by simp [C5])]
section
variable {L:List T3} {pl:List Int} {G:List u6} {N:List (List Int)} {U:List Int} (h:DP L 0 (-1) pl G N U) (hi:G6 L pl) (hs:xC L) (hn:pl.length<=1000)
include h hi hs hn
theorem DP.has (hN: ∀k,k<G.length->(N.getD k []).length<=1000) {k:Nat} (hk:k<G.length) {i:Int} (hin:i∈N.getD k []): ∀p∈C5 (L.getD i.toNat zT),Dx ((G.getD k zB).1,p)=true:=by
 intro p hp
 have hIn:G6 L (N.getD k []):=fun i hi'=>hi i (h.sub k hk i hi')
 have hne:N.getD k []≠ []:=List.ne_nil_of_mem hin
 have hB:=LQ hs hIn (by have:=hN k hk;omega) hne
 rw [h.box k hk]
 have hpt:p∈mY L (N.getD k []):=List.mem_flatMap.2 ⟨i,hin,hp⟩
 exact (vz _ _).2.2 ⟨hB.is (Cb hs hIn),hB.low p hpt,hB.high p hpt⟩
theorem Rj (hN: ∀k,k<G.length->(N.getD k []).length<=1000) {up:List Int} (Ya:up.length=G.length) (DC: ∀k,k<G.length->up.getD k 0=U.getD k 0) (sn:List Bool) (a b c d e:Int) (ls:List Int) {i:Int} (hin:0<=i/\ i<(L.length:Int)):
  ∀n k:Nat,k<n->k<G.length->i∈N.getD k []->
  TR (lu (G,L)) (pU (G,L)) (up,(sn,(a,(i,((k:Int),(b,(ls,(c,d)))))))) fun r=>r= .inr (up,(sn,(a,(b,(ls,(c,d)))))):=by
 intro n
 induction n with
 |zero=>intro k hk;omega
 |succ n ih=>
  intro k hkn hk hmem
  obtain ⟨n1,n2⟩:=Qw (G.getD k zB) (k:Int) (L.getD i.toNat zT)
  have n3:=n2 (h.has hi hs hn hN hk hmem)
  have hu:=DC k hk
  have Yb:NY ((G.getD k ((((0:Int),((0:Int),(0:Int))),((0:Int),((0:Int),(0:Int)))),((0:Int),((0:Int),([]:List Int)))),(k:Int)),L.getD i.toNat (((0:Int),((0:Int),(0:Int))),(((0:Int),((0:Int),(0:Int))),((0:Int),((0:Int),(0:Int))))))=true:=n3
  refine TR.go (s':=(up,(sn,(a,(i,(up.getD k 0,(b,(ls,(c,d))))))))) ?_ ?_ ?_
  ·unfold pU az
   intro _
   dsimp only
   rw [Int.toNat_natCast]
   exact ⟨by omega,hk,hk,hin,by omega,by omega,n1,fun _=>⟨by omega,by omega,by omega⟩⟩
  ·unfold lu ai
   dsimp only
   rw [if_pos (by omega),Int.toNat_natCast,Yb,if_neg (by decide)]
  ·rcases Nat.eq_zero_or_pos k with e0|e0
   ·subst e0
    rw [hu,h.u0]
    refine TR.stop (r:= .inr (up,(sn,(a,(b,(ls,(c,d))))))) ?_ ?_ rfl
    ·unfold pU
     intro q
     dsimp only at q;omega
    ·unfold lu
     dsimp only
     rw [if_neg (by decide)]
   ·obtain ⟨j,j1,j2,j3,_⟩:=h.Tg e0 hk
    rw [hu,j2]
    exact ih j (by omega) (by omega) (j3 i hmem)
def Sn (L:List T3) (S:List Int) (sn:List Bool):Prop:=sn.length=L.length/\ ∀j:Nat,j<L.length->(sn.getD j false=true↔(j:Int)∈S)
theorem Um (hN: ∀k,k<G.length->(N.getD k []).length<=1000) {up:List Int} (Ya:up.length=G.length) (DC: ∀k,k<G.length->up.getD k 0=U.getD k 0) (ke:pl.Nodup) {k:Nat} (hk:k<G.length) {S:List Int} (hS:(S++(G.getD k zB).2.2.2).Nodup) (hsub: ∀i∈(G.getD k zB).2.2.2,i∈N.getD k []) (hlen:(G.getD k zB).2.2.2.length<=1000) {sn:List Bool} (hsn:Sn L S sn):
  TR (lq (G,L)) (pT (G,L)) (up,(sn,((k:Int),((k:Int),((G.getD k zB).2.2.2,((((G.getD k zB).2.2.2.length:Nat):Int),0)))))) fun r=> ∃JX,r= .inr (up,(JX,(k:Int)))/\ Sn L (S++(G.getD k zB).2.2.2) JX:=by
 generalize hT:(G.getD k zB).2.2.2=T at*
 refine gN T.length (fun j s=> ∃JX,s=(up,(JX,((k:Int),((k:Int),(T,(((T.length:Nat):Int),(j:Int)))))))/\ Sn L (S++T.take j) JX) _ (fun j s hj hJ=> ?_) (fun s hJ=> ?_) ⟨sn,rfl,by simpa using hsn⟩
 ·obtain ⟨JX,rfl,hl,hm⟩:=hJ
  have hmem:=hsub _ (l8 hj 0)
  have hin:=hi _ (h.sub k hk _ hmem)
  generalize hp:T.getD j 0=p at*
  have abv:p.toNat<L.length:=by omega
  have Y2:((p.toNat:Nat):Int)=p:=by omega
  have hno: ¬JX.getD p.toNat false=true:=fun q=>by
   have h1:=(hm p.toNat abv).1 q
   rw [Y2] at h1
   have h2:(S++T.take j++ [p]).Nodup:=by
    have:S++T=(S++T.take j++ [p])++T.drop (j+1):=by
     rw [<- hp,List.append_assoc S,<- jl hj 0,List.append_assoc,List.take_append_drop]
    rw [this] at hS
    exact (List.nodup_append.1 hS).1
   rw [List.nodup_append] at h2
   exact h2.2.2 p h1 p (by simp) rfl
  have hchain:=Rj h hi hs hn hN Ya DC (JX.set p.toNat true) (k:Int) (k:Int) ((T.length:Nat):Int) (j:Int) 0 T hin (k+1) k (by omega) hk hmem
  refine ⟨?_,.inl ⟨(up,(JX.set p.toNat true,((k:Int),((k:Int),(T,(((T.length:Nat):Int),((j+1:Nat):Int))))))),?_,_,rfl,by simp [hl],fun q hq=> ?_⟩⟩
  ·unfold pT az
   intro _
   dsimp only
   rw [Int.toNat_natCast,hp]
   exact ⟨by omega,hj,hj,fun _ _=>⟨by omega,by omega,by omega,fun _=>⟨by omega,by omega,by omega,hchain.1⟩⟩⟩
  ·unfold lq ai
   dsimp only
   rw [if_pos (by omega),Int.toNat_natCast,hp,if_neg (by omega),if_neg (by omega),if_neg hno,hchain.2]
   show Sum.inl (up,(JX.set p.toNat true,((k:Int),((k:Int),(T,(((T.length:Nat):Int),ae ((j:Int)+1)))))))=_
   rw [Nu hj (by omega)]
  ·rw [GN _ _ _ _ _ (by omega),jl hj 0,hp]
   by_cases e:p.toNat=q
   ·rw [if_pos e]
    subst e
    simp [Y2]
   ·rw [if_neg e,hm q hq]
    have hne: ¬(q:Int)=p:=fun e'=>e (by omega)
    simp [hne]
 ·obtain ⟨JX,rfl,hJ⟩:=hJ
  rw [List.take_length] at hJ
  refine ⟨?_,_,?_,JX,rfl,hJ⟩
  ·unfold pT
   intro q
   dsimp only at q;omega
  ·unfold lq
   dsimp only
   rw [if_neg (by omega)]
theorem Xf (hN: ∀k,k<G.length->(N.getD k []).length<=1000) (hG:G.length<=10000) {up:List Int} (Ya:up.length=G.length) (DC: ∀k,k<G.length->up.getD k 0=U.getD k 0) (ke:pl.Nodup):
  TR (jc (G,L)) (pS (G,L)) (up,(List.replicate L.length false,0)) fun r=> ∃sn,r= .inr sn/\ Sn L (G.flatMap fun b=>b.2.2.2) sn:=by
 have YY:(G.flatMap fun b=>b.2.2.2).Nodup:=h.Vu.nodup_iff.2 ke
 refine gN G.length (fun i s=> ∃sn,s=(up,(sn,(i:Int)))/\ Sn L ((G.take i).flatMap fun b=>b.2.2.2) sn) _ (fun i s hk hJ=> ?_) (fun s hJ=> ?_) ⟨_,rfl,by simp,fun j hj=> ?_⟩
 ·obtain ⟨sn,rfl,hS⟩:=hJ
  have hsp:(G.flatMap fun b=>b.2.2.2)=((G.take i).flatMap fun b=>b.2.2.2)++(G.getD i zB).2.2.2++((G.drop (i+1)).flatMap fun b=>b.2.2.2):=by
   have h1:=List.take_append_drop (i+1) G
   rw [jl hk zB] at h1
   have h2:=congrArg (fun l:List u6=>l.flatMap fun b=>b.2.2.2) h1
   simp only [List.flatMap_append,List.flatMap_cons,List.flatMap_nil,List.append_nil] at h2
   exact h2.symm
  have hS2:(((G.take i).flatMap fun b=>b.2.2.2)++(G.getD i zB).2.2.2).Nodup:=by
   rw [hsp] at YY
   exact (List.nodup_append.1 YY).1
  have hsub:(∀p∈(G.getD i zB).2.2.2,p∈N.getD i [])/\ (G.getD i zB).2.2.2.length<=1000:=by
   rcases h.V4 hk with ⟨_,_,a3,a4⟩|⟨_,_,_,_,_,a5,_⟩
   ·rw [a3];exact ⟨fun p hp=>hp,by omega⟩
   ·rw [a5];exact ⟨fun p hp=>(by cases hp),by simp⟩
  have key:=Um h hi hs hn hN Ya DC ke hk hS2 hsub.1 hsub.2 hS
  obtain ⟨JX,e,ZW⟩:=key.2
  refine ⟨?_,.inl ⟨(up,(JX,((i+1:Nat):Int))),?_,JX,rfl,?_⟩⟩
  ·unfold pS
   intro _
   dsimp only
   rw [Int.toNat_natCast]
   exact ⟨by omega,hk,hk,key.1⟩
  ·unfold jc ai
   dsimp only
   rw [if_pos (by omega),Int.toNat_natCast]
   refine Eq.trans (congrArg (fun r=>Sum.elim (fun a=>Sum.inr (Sum.inl ())) (fun b=>Sum.inl (b.1,(b.2.1,(ae (b.2.2+(1:Int)))))) r) e) ?_
   show Sum.inl (up,(JX,ae ((i:Int)+1)))=_
   rw [Nu hk (by omega)]
  ·rw [jl hk zB]
   simpa using ZW
 ·obtain ⟨sn,rfl,hS⟩:=hJ
  rw [List.take_length] at hS
  refine ⟨?_,.inr sn,?_,sn,rfl,hS⟩
  ·unfold pS
   intro q
   dsimp only at q;omega
  ·unfold jc
   dsimp only
   rw [if_neg (by omega)]
 ·rw [List.getD_eq_getElem?_getD,List.getElem?_replicate,if_pos hj];simp
end
theorem iU.small {L:List T3} {s:Nat} {par:Int} {pl:List Int} {G:List u6} {N:List (List Int)} {U:List Int} (h:iU L s par pl G N U): ∀x∈N,x.length<=pl.length:=by
 induction h with
 |leaf s par pl hl=>intro x hx;simp only [List.mem_singleton] at hx;subst hx;omega
 |fork s par pl a b A B NA NB UA UB h2 hp ha hb he hA hB Hg Hh=>
  intro x hx
  simp only [List.mem_cons,List.mem_append] at hx
  rcases hx with rfl|hx|hx
  ·omega
  ·have:=Hg x hx;omega
  ·have:=Hh x hx;omega
theorem Ul {L:List T3} {pl:List Int} {G:List u6} {N:List (List Int)} {U:List Int} (ht:iU L 0 (-1) pl G N U) (hi:G6 L pl) (hs:xC L) (hn:pl.length<=1000) (hL:L.length<=1000) (hG:G.length<=10000) (ke:pl.Nodup) (hall: ∀j:Nat,j<L.length->(j:Int)∈pl):z9 (G,L)/\ Zj (G,L)=true:=by
 have h:=ht.facts
 have hN: ∀k,k<G.length->(N.getD k []).length<=1000:=fun k hk=>by
  have:=ht.small _ (l8 (show k<N.length by rw [h.n1];exact hk) [])
  omega
 obtain ⟨p1,up,p2,Ya,DC⟩:=IK h (by omega)
 have key:=Xf h hi hs hn hN hG Ya DC ke
 obtain ⟨sn,e,hl,hm⟩:=key.2
 obtain ⟨c1,c2⟩:=Dr sn (by omega) false
 have hno:jZ (sn,false)=false:=by
  cases hb:jZ (sn,false) with
  |false=>rfl
  |true=>
   have:=c2.1 hb
   obtain ⟨j,hj,e2⟩:=List.mem_iff_getElem.1 this
   have h3:=(hm j (by omega)).2 (h.Vu.mem_iff.2 (hall j (by omega)))
   rw [List.getD_eq_getElem?_getD,List.getElem?_eq_getElem hj,Option.getD_some,e2] at h3
   cases h3
 unfold z9 Zj az ai
 dsimp only
 rw [p2]
 dsimp only
 rw [if_neg (by decide),e]
 refine ⟨⟨p1,fun _=>⟨⟨by omega,by omega⟩,key.1,c1⟩⟩,?_⟩
 show (!jZ (sn,false))=true
 rw [hno];rfl
end Go.Proofs.YtlkgabjhkfhgaaaGreat
