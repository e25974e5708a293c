/- Plain laws: what is built is right. -/
import Derived.Test.YtngdehlpoomaiaaGreatVd
import Derived.Test.YtngdehlpoomaiaaGreatUc
noncomputable section
set_option linter.unusedSectionVars false
set_option linter.unusedVariables false
set_option linter.unusedSimpArgs false
namespace Go.Proofs.YtngdehlpoomaiaaGreat
open Go Go.Ev Go.Proofs
theorem wrap64 {n:Int} (h1:0<=n) (h2:n<18446744073709551616):IntKind.wrap IntKind.u64 n=n:=by
 unfold IntKind.wrap
 simp [IntKind.bits,IntKind.signed]
 omega
theorem ai7 {n:Nat} (h:n<4294967296):(BitVec.toNat ((BitVec.ofInt 64 (n:Int))&&&(BitVec.ofInt 64 (4294967295:Int))))=n:=by
 have e1:(BitVec.ofInt 64 (n:Int)).toNat=n:=by
  rw [BitVec.toNat_ofInt];omega
 have e2:(BitVec.ofInt 64 (4294967295:Int)).toNat=2^32- 1:=by decide
 rw [BitVec.toNat_and,e1,e2,Nat.and_two_pow_sub_one_eq_mod]
 omega
theorem ag4 {n:Nat} (h:n<4294967296):U0 (1,(n:Int))=(0,(n:Int)):=by
 have f1:Int.fdiv 1 4294967296=0:=by decide
 have f2:Int.fdiv (n:Int) 4294967296=0:=by rw [Int.fdiv_eq_ediv_of_nonneg _ (by decide)];omega
 have l1:(BitVec.toNat ((BitVec.ofInt 64 (1:Int))&&&(BitVec.ofInt 64 (4294967295:Int))))=1:=ai7 (n:=1) (by decide)
 have w0:IntKind.wrap IntKind.u64 0=0:=wrap64 (by decide) (by decide)
 have w1':IntKind.wrap IntKind.u64 1=1:=wrap64 (by decide) (by decide)
 have wn:IntKind.wrap IntKind.u64 (n:Int)=(n:Int):=wrap64 (by omega) (by omega)
 have z:(BitVec.toNat ((BitVec.ofInt 64 (0:Int))&&&(BitVec.ofInt 64 (4294967295:Int))))=0:=ai7 (n:=0) (by decide)
 unfold U0;dsimp only [ZY,LY,Tr.val,Tr.pre];(try dsimp only [az,ak])
 simp only [f1,f2,ai7 h,l1,Int.zero_mul,Int.mul_zero,Int.one_mul,Int.zero_add,Int.add_zero,w0,wn,z,Int.natCast_zero,Int.natCast_one,w1',show Int.fdiv 0 4294967296=0 from by decide]
def rep (c m:Nat) (i:Int):List Int:=List.replicate c i++List.replicate (m- c) 0
theorem anq {c m:Nat} (h:c<=m) (i:Int):(rep c m i).length=m:=by simp only [rep,List.length_append,List.length_replicate];omega
theorem ajS {c m:Nat} (h:c<=m) (i:Int):ke (rep c m i) c (m- c) ((rep c m i).take c)=rep (c+min c (m- c)) m i/\ tL (m- c) ((rep c m i).take c).length=min c (m- c):=by
 have e1:(rep c m i).take c=List.replicate c i:=by simp [rep]
 have e2:tL (m- c) (List.replicate c i).length=min c (m- c):=by unfold tL;rw [List.length_replicate]
 rw [e1,e2]
 refine ⟨?_,rfl⟩
 unfold ke
 rw [e1,e2]
 unfold rep
 rw [List.take_replicate,show min (min c (m- c)) c=min c (m- c) by omega,List.replicate_append_replicate,List.drop_append,List.length_replicate,List.drop_replicate,List.drop_replicate,show c- (c+min c (m- c))=0 by omega]
 simp only [List.replicate_zero,List.nil_append]
 rw [show m- c- (c+min c (m- c)- c)=m- (c+min c (m- c)) by omega]
theorem Xh (x:List Int×Int) (i:Int) (m:Nat) (hm:m<=1000000000): ∀k c,c+k=m->(0<c\/ k=0)->TR (iJ x) (l8 x) (rep c m i,(c:Int)) fun r=>r=List.replicate m i:=by
 intro k
 induction k using Nat.strongRecOn with
 |ind k ih=>
  intro c hc h0
  have hl:=anq (c:=c) (m:=m) (by omega) i
  by_cases hk:k=0
  ·subst hk
   have:c=m:=by omega
   subst this
   refine TR.stop (r:=rep c c i) ?_ ?_ (by simp [rep])
   ·dsimp only [l8,fA,Tr.val,Tr.pre];(try dsimp only [az,ak])
    intro q
    (try dsimp only at q);rw [hl] at q;omega
   ·dsimp only [iJ,fA,Tr.val,Tr.pre];(try dsimp only [az,ak])
    rw [hl,if_neg (by omega)]
  ·obtain ⟨q1,q2⟩:=ajS (c:=c) (m:=m) (by omega) i
   refine TR.go (s':=(rep (c+min c (m- c)) m i,((c+min c (m- c):Nat):Int))) ?_ ?_ (ih (k- min c (m- c)) (by omega) _ (by omega) (by omega))
   ·dsimp only [l8,fA,Tr.val,Tr.pre];(try dsimp only [az,ak])
    intro _
    try dsimp only
    rw [hl];omega
   ·dsimp only [iJ,fA,Tr.val,Tr.pre];(try dsimp only [az,ak])
    rw [hl,if_pos (by omega),Int.toNat_natCast,Nat.add_zero,q1,q2,ax (by omega) (by omega)]
    congr 2
theorem aaU (i:Int) {n:Nat} (hn:n<=1000000000):sC ([i],(n:Int))/\ repeatM ([i],(n:Int))=List.replicate n i:=by
 have e1:IntKind.wrap IntKind.u64 ((([i]:List Int).length:Nat):Int)=1:=wrap64 (by simp) (by simp)
 have e2:IntKind.wrap IntKind.u64 ((n:Nat):Int)=(n:Int):=wrap64 (by omega) (by omega)
 have e3:au ((n:Nat):Int)=(n:Int):=ax (by omega) (by omega)
 have e4:ke (List.replicate n (0:Int)) 0 n [i]=rep (min 1 n) n i/\ tL n 1=min 1 n:=by
  refine ⟨?_,rfl⟩
  unfold ke
  show _++List.take (min 1 n) [i]++List.drop (0+min 1 n) _=_
  cases n with
  |zero=>rfl
  |succ n=>simp [rep,show min 1 (n+1)=1 by omega]
 have key:=Xh ([i],(n:Int)) i n hn (n- min 1 n) (min 1 n) (by omega) (by omega)
 unfold sC repeatM az ak
 dsimp only
 rw [e1,e2,ag4 (by omega)]
 dsimp only
 rw [e3,Int.toNat_natCast,List.length_replicate]
 simp only [List.length_cons,List.length_nil,Nat.zero_add]
 rw [e4.1,e4.2]
 refine ⟨⟨fun q=>absurd q (by omega),fun _=>⟨fun q=>absurd q (by omega),fun _=>⟨fun q=>absurd q (by omega),fun _=>⟨⟨⟨by omega,by omega⟩,by omega⟩,key.1⟩⟩⟩⟩,?_⟩
 rw [if_neg (by omega),if_neg (by omega),if_neg (by omega)]
 exact key.2
theorem aeF (l:List Int) (hl:l.length<4611686018427387904) (t:Int):B9 (l,t)/\ ZC (l,t)=match l.findIdx? (fun x=>t==x) with|some i=>(i:Int)|none=> -1:=
 qD l hl (fun x=>t==x) (ju (l,t)) (sU (l,t)) (fun i hi=>by
   unfold sU
   intro h
   simp only [Int.toNat_natCast]
   dsimp only at h ⊢;omega) (fun i x hx=>by
   have hlt:=cz hx
   unfold ju
   rw [if_pos (by dsimp only;omega),Int.toNat_natCast]
   dsimp only
   rw [gW hx]) (by
   unfold ju
   rw [if_neg (by dsimp only;omega)])
theorem Oh (l:List Int) (hl:l.length<4611686018427387904) (t:Int):sM (l,t)/\ (mQ (l,t)=true↔t∈l):=by
 obtain ⟨h1,h2⟩:=aeF l hl t
 refine ⟨h1,?_⟩
 unfold mQ ak
 rw [h2]
 refine (iff_of_eq (congrArg (fun b:Bool=>b=true) (xD l (fun x=>t==x)))).trans ?_
 rw [List.any_eq_true]
 constructor
 ·rintro ⟨x,hx,e⟩
  have:t=x:=by simpa using e
  rw [this];exact hx
 ·intro h
  exact ⟨t,h,by simp⟩
theorem Og (l:List Bool) (hl:l.length<4611686018427387904) (t:Bool):sL (l,t)/\ (mO (l,t)=true↔t∈l):=by
 have h:=qD l hl (fun x=>t==x) (jr (l,t)) (sR (l,t)) (fun i hi=>by
   unfold sR
   intro h
   simp only [Int.toNat_natCast]
   dsimp only at h ⊢;omega) (fun i x hx=>by
   have hlt:=cz hx
   unfold jr
   rw [if_pos (by dsimp only;omega),Int.toNat_natCast]
   dsimp only
   rw [gW hx]) (by
   unfold jr
   rw [if_neg (by dsimp only;omega)])
 refine ⟨h.1,?_⟩
 have e:Zy (l,t)=_:=h.2
 unfold mO ak
 rw [e]
 refine (iff_of_eq (congrArg (fun b:Bool=>b=true) (xD l (fun x=>t==x)))).trans ?_
 rw [List.any_eq_true]
 constructor
 ·rintro ⟨x,hx,e⟩
  have:t=x:=by simpa using e
  rw [this];exact hx
 ·intro h
  exact ⟨t,h,by simp⟩
theorem P4 (b:zy) (i:Int):Dz (b,i)=true↔b.2.1=0/\ b.2.2.1=0:=by
 unfold Dz
 dsimp only
 by_cases h:b.2.1=0
 ·rw [if_pos (by simpa using h)];simp [h]
 ·rw [if_neg (by simpa using h)];simp [h]
theorem T8 {α:Type} (l:List α) (i k:Nat) (x d:α) (h:i<l.length):(l.set i x).getD k d=if i=k then x else l.getD k d:=by
 rw [List.getD_eq_getElem?_getD,List.getElem?_set,List.getD_eq_getElem?_getD]
 by_cases e:i=k
 ·rw [if_pos e,if_pos e,if_pos (by omega)];rfl
 ·rw [if_neg e,if_neg e]
section
variable {L:List T3} {pl:List Int} {G:List zy} {N:List (List Int)} {U:List Int} (h:OT L 0 (-1) pl G N U)
include h
theorem OT.up0 {k:Nat} (h1:0<k) (h2:k<G.length): ∃j,j<k/\ U.getD k 0=(j:Int)/\ (∀i∈N.getD k [],i∈N.getD j [])/\ ((G.getD j zB).2.1=(k:Int)\/ (G.getD j zB).2.2.1=(k:Int)):=by
 obtain ⟨j,a,b,c,d⟩:=h.up k h1 h2
 exact ⟨j,a,by rw [b];omega,c,d.imp (fun d=>by rw [d];omega) fun d=>by rw [d];omega⟩
theorem OT.aot {k:Nat} (h2:k<G.length):((G.getD k zB).2.1=0/\ (G.getD k zB).2.2.1=0/\ (G.getD k zB).2.2.2=N.getD k []/\ (N.getD k []).length<=2)\/
  (∃r:Nat,(G.getD k zB).2.1=((k+1:Nat):Int)/\ (G.getD k zB).2.2.1=(r:Int)/\ k+1<r/\ r<G.length/\ (G.getD k zB).2.2.2= []/\ U.getD (k+1) 0=(k:Int)/\ U.getD r 0=(k:Int)/\ (N.getD (k+1) []++N.getD r []).Perm (N.getD k [])/\ 2<(N.getD k []).length/\ (N.getD (k+1) []).length<=((N.getD k []).length+1) / 2/\ (N.getD r []).length<=((N.getD k []).length+1) / 2):=by
 rcases h.kind k h2 with a|⟨r,a1,a2,a3,a4,a5,a6,a7,a8⟩
 ·exact .inl a
 ·exact .inr ⟨r,by rw [a1];omega,by rw [a2];omega,a3,a4,a5,by rw [a6];omega,by rw [a7];omega,a8⟩
theorem Tl (hl:G.length<1099511627776) (up0:List Int) (hu0:up0=List.replicate G.length (-1)):
  TR (dz G) (iE G) (up0,0) fun r=> ∃up,r= .inr up/\ up.length=G.length/\ ∀k,k<G.length->up.getD k 0=U.getD k 0:=by
 refine cu G.length (fun i s=> ∃up,s=(up,(i:Int))/\ up.length=G.length/\ ∀k,k<G.length->up.getD k 0=if 0<k/\ U.getD k 0<(i:Int) then U.getD k 0 else-1) _ (fun i s hi hj=> ?_) (fun s hj=> ?_) ⟨up0,rfl,by rw [hu0];simp,fun k hk=> ?_⟩
 ·obtain ⟨up,rfl,hlen,Oo⟩:=hj
  have hc:au (((i:Nat):Int)+1)=((i+1:Nat):Int):=adQ hi (by omega)
  rcases h.aot hi with ⟨a1,a2,a3,a4⟩|⟨r,a1,a2,a3,a4,a5,a6,a7,a8⟩
  ·have acd:Dz (G.getD i zB,(i:Int))=true:=(P4 _ _).2 ⟨a1,a2⟩
   refine ⟨?_,.inl ⟨_,?_,up,rfl,hlen,fun k hk=> ?_⟩⟩
   ·dsimp only [iE,cU,Tr.val,Tr.pre];(try dsimp only [az,ak])
    intro _
    try dsimp only
    rw [Int.toNat_natCast,show Dz (G.getD i (((0,0,0),0,0,0),0,0,[]),(i:Int))=true from acd]
    exact ⟨by omega,hi,hi,fun q=>absurd rfl q⟩
   ·dsimp only [dz,cU,Tr.val,Tr.pre];(try dsimp only [az,ak])
    rw [if_pos (by omega),Int.toNat_natCast,show Dz (G.getD i (((0,0,0),0,0,0),0,0,[]),(i:Int))=true from acd,if_pos rfl,hc]
   ·rw [Oo k hk]
    by_cases UD:0<k
    ·obtain ⟨j,j1,j2,_,j4⟩:=h.up0 UD hk
     have hji:j≠i:=by
      rintro rfl
      rw [a1,a2] at j4
      rcases j4 with e|e<;>omega
     rw [j2]
     by_cases c:j<i
     ·rw [if_pos ⟨UD,by omega⟩,if_pos ⟨UD,by omega⟩]
     ·rw [if_neg (by omega),if_neg (by omega)]
    ·rw [if_neg (by omega),if_neg (by omega)]
  ·have acd: ¬Dz (G.getD i zB,(i:Int))=true:=fun q=>by
    have:=((P4 _ _).1 q).1
    rw [a1] at this;omega
   have u1:=Oo (i+1) (by omega)
   have u2:=Oo r a4
   rw [a6,if_neg (by omega)] at u1
   rw [a7,if_neg (by omega)] at u2
   have aip:Dz (G.getD i (((0,0,0),0,0,0),0,0,[]),(i:Int))=false:=by
    cases e:Dz (G.getD i (((0,0,0),0,0,0),0,0,[]),(i:Int)) with
    |false=>rfl
    |true=>exact absurd e acd
   have b1:(G.getD i ((((0:Int),(0:Int),(0:Int)),(0:Int),(0:Int),(0:Int)),(0:Int),(0:Int),([]:List Int))).2.1=((i+1:Nat):Int):=a1
   have b2:(G.getD i ((((0:Int),(0:Int),(0:Int)),(0:Int),(0:Int),(0:Int)),(0:Int),(0:Int),([]:List Int))).2.2.1=(r:Int):=a2
   have b5:(G.getD i ((((0:Int),(0:Int),(0:Int)),(0:Int),(0:Int),(0:Int)),(0:Int),(0:Int),([]:List Int))).2.2.2= []:=a5
   have hls:(up.set (i+1) (i:Int)).length=up.length:=List.length_set
   refine ⟨?_,.inl ⟨((up.set (i+1) (i:Int)).set r (i:Int),((i+1:Nat):Int)),?_,_,rfl,by simp [hlen],fun k hk=> ?_⟩⟩
   ·dsimp only [iE,cU,Tr.val,Tr.pre];(try dsimp only [az,ak])
    intro _
    try dsimp only
    rw [Int.toNat_natCast,aip,b1,b2,b5,Int.toNat_natCast,Int.toNat_natCast]
    exact ⟨by omega,hi,hi,fun _ _ _ _ _=>⟨by omega,by omega,by omega,fun _=>⟨by omega,by omega,by omega,fun _=>⟨by omega,by omega,by omega,by omega,by omega,by omega⟩⟩⟩⟩
   ·dsimp only [dz,cU,Tr.val,Tr.pre];(try dsimp only [az,ak])
    rw [if_pos (by omega),Int.toNat_natCast,aip,b1,b2,b5,hc,Int.toNat_natCast,Int.toNat_natCast,u1,u2,if_neg (by decide),if_neg (by decide),if_neg (by simp),if_neg (by omega),if_neg (by omega),if_neg (by decide),if_neg (by decide)]
   ·rw [T8 _ _ _ _ _ (by omega),T8 _ _ _ _ _ (by omega),Oo k hk]
    by_cases e2:r=k
    ·subst e2
     rw [if_pos rfl,a7,if_pos ⟨by omega,by omega⟩]
    ·rw [if_neg e2]
     by_cases e1:i+1=k
     ·subst e1
      rw [if_pos rfl,a6,if_pos ⟨by omega,by omega⟩]
     ·rw [if_neg e1]
      by_cases UD:0<k
      ·obtain ⟨j,j1,j2,_,j4⟩:=h.up0 UD hk
       have hji:j≠i:=by
        rintro rfl
        rw [a1,a2] at j4
        rcases j4 with e|e<;>omega
       rw [j2]
       by_cases c:j<i
       ·rw [if_pos ⟨UD,by omega⟩,if_pos ⟨UD,by omega⟩]
       ·rw [if_neg (by omega),if_neg (by omega)]
      ·rw [if_neg (by omega),if_neg (by omega)]
 ·obtain ⟨up,rfl,hlen,Oo⟩:=hj
  refine ⟨?_,.inr up,?_,up,rfl,hlen,fun k hk=> ?_⟩
  ·dsimp only [iE,cU,Tr.val,Tr.pre];(try dsimp only [az,ak])
   intro q
   (try dsimp only at q);omega
  ·dsimp only [dz,cU,Tr.val,Tr.pre];(try dsimp only [az,ak])
   rw [if_neg (by omega)]
  ·rw [Oo k hk]
   by_cases UD:0<k
   ·obtain ⟨j,j1,j2,_,_⟩:=h.up0 UD hk
    rw [if_pos ⟨UD,by omega⟩]
   ·have:k=0:=by omega
    subst this
    rw [if_neg (by omega),h.u0]
 ·rw [hu0,List.getD_eq_getElem?_getD,List.getElem?_replicate,if_pos hk]
  by_cases UD:0<k
  ·obtain ⟨j,j1,j2,_,_⟩:=h.up0 UD hk
   rw [if_neg (by omega)];rfl
  ·rw [if_neg (by omega)];rfl
theorem Ws (hl:G.length<1000000):pJ G/\ ∃up,yo G=(up,true)/\ up.length=G.length/\ ∀k,k<G.length->up.getD k 0=U.getD k 0:=by
 obtain ⟨r1,r2⟩:=aaU (-1) (n:=G.length) (by omega)
 have key:=Tl h (by omega) _ rfl
 have hpos:=h.pos
 unfold pJ yo az ak
 rw [r2]
 obtain ⟨up,e,hlen,Oo⟩:=key.2
 dsimp only
 rw [e]
 obtain ⟨c1,c2⟩:=Oh (up.drop 1) (by rw [List.length_drop];omega) (-1)
 have hno:mQ (up.drop 1,-1)=false:=by
  cases hb:mQ (up.drop 1,-1) with
  |false=>rfl
  |true=>
   have:=c2.1 hb
   obtain ⟨k,hk,e2⟩:=List.mem_iff_getElem.1 this
   rw [List.length_drop] at hk
   rw [List.getElem_drop] at e2
   obtain ⟨j,_,j2,_,_⟩:=h.up0 (k:=1+k) (by omega) (by omega)
   have h3:=Oo (1+k) (by omega)
   rw [List.getD_eq_getElem?_getD,List.getElem?_eq_getElem (by omega),Option.getD_some,e2,j2] at h3
   omega
 refine ⟨⟨r1,key.1,fun _=>⟨by omega,c1⟩⟩,up,?_,hlen,Oo⟩
 show (if ((G.length:Nat):Int)>0 then (up,!mQ (up.drop 1,-1)) else (up,false))=_
 rw [if_pos (by omega),hno];rfl
end
end Go.Proofs.YtngdehlpoomaiaaGreat
namespace Go.Proofs.YtngdehlpoomaiaaGreat
open Go Go.Ev Go.Proofs
theorem Dk (b:B3) (p:P3):xK (b,p)/\ (Ol (b,p)=true↔((dB b.1/\ dB b.2)/\ UJ b.1 b.2)/\ UJ b.1 p/\ UJ p b.2):=by
 obtain ⟨s1,s2⟩:=Cv b
 refine ⟨s1,?_⟩
 unfold Ol ak
 dsimp only
 by_cases h:ta b=true
 ·rw [if_pos h,VF]
  exact ⟨fun q=>⟨s2.1 h,q⟩,fun q=>q.2⟩
 ·rw [if_neg h]
  exact ⟨fun q=>(by cases q),fun q=>absurd (s2.2 q.1) h⟩
theorem ah3 (b:zy) (i:Int) (t:T3):VG ((b,i),t)/\ ((∀p∈Js t,Ol (b.1,p)=true)->aml ((b,i),t)=true):=by
 refine ⟨⟨(Dk _ _).1,fun _=>⟨(Dk _ _).1,fun _=>(Dk _ _).1⟩⟩,fun h=> ?_⟩
 unfold aml ak
 dsimp only
 rw [h t.1 (by simp [Js]),if_pos rfl,h t.2.1 (by simp [Js]),if_pos rfl,h t.2.2 (by simp [Js])]
section
variable {L:List T3} {pl:List Int} {G:List zy} {N:List (List Int)} {U:List Int} (h:OT L 0 (-1) pl G N U) (hi:Uz L pl) (hs:tF L) (hn:pl.length<=1000)
include h hi hs hn
theorem OT.has (hN: ∀k,k<G.length->(N.getD k []).length<=1000) {k:Nat} (hk:k<G.length) {i:Int} (hin:i∈N.getD k []): ∀p∈Js (L.getD i.toNat zT),Ol ((G.getD k zB).1,p)=true:=by
 intro p hp
 have hIn:Uz L (N.getD k []):=fun i hi'=>hi i (h.sub k hk i hi')
 have hne:N.getD k []≠ []:=List.ne_nil_of_mem hin
 have hB:=abL hs hIn (by have:=hN k hk;omega) hne
 rw [h.box k hk]
 have hpt:p∈qM L (N.getD k []):=List.mem_flatMap.2 ⟨i,hin,hp⟩
 exact (Dk _ _).2.2 ⟨hB.is (Mc hs hIn),hB.low p hpt,hB.high p hpt⟩
theorem aiP (hN: ∀k,k<G.length->(N.getD k []).length<=1000) {up:List Int} (hul:up.length=G.length) (Oo: ∀k,k<G.length->up.getD k 0=U.getD k 0) (sn:List Bool) (a b c d e:Int) (ls:List Int) {i:Int} (hin:0<=i/\ i<(L.length:Int)):
  ∀n k:Nat,k<n->k<G.length->i∈N.getD k []->
  TR (oh (G,L)) (vo (G,L)) (up,sn,a,i,(k:Int),b,ls,c,d) fun r=>r= .inr (up,sn,a,b,ls,c,d):=by
 intro n
 induction n with
 |zero=>intro k hk;omega
 |succ n ih=>
  intro k hkn hk hmem
  obtain ⟨n1,n2⟩:=ah3 (G.getD k zB) (k:Int) (L.getD i.toNat zT)
  have n3:=n2 (h.has hi hs hn hN hk hmem)
  have hu:=Oo k hk
  have n3':aml ((G.getD k ((((0:Int),(0:Int),(0:Int)),(0:Int),(0:Int),(0:Int)),(0:Int),(0:Int),([]:List Int)),(k:Int)),L.getD i.toNat (((0:Int),(0:Int),(0:Int)),((0:Int),(0:Int),(0:Int)),(0:Int),(0:Int),(0:Int)))=true:=n3
  refine TR.go (s':=(up,sn,a,i,up.getD k 0,b,ls,c,d)) ?_ ?_ ?_
  ·dsimp only [vo,om,Tr.val,Tr.pre];(try dsimp only [az,ak])
   intro _
   try dsimp only
   rw [Int.toNat_natCast]
   exact ⟨by omega,hk,hk,hin,by omega,by omega,n1,fun _=>⟨by omega,by omega,by omega⟩⟩
  ·dsimp only [oh,om,Tr.val,Tr.pre];(try dsimp only [az,ak])
   rw [if_pos (by omega),Int.toNat_natCast,n3',if_neg (by decide)]
  ·rcases Nat.eq_zero_or_pos k with e0|e0
   ·subst e0
    rw [hu,h.u0]
    refine TR.stop (r:= .inr (up,sn,a,b,ls,c,d)) ?_ ?_ rfl
    ·dsimp only [vo,om,Tr.val,Tr.pre];(try dsimp only [az,ak])
     intro q
     (try dsimp only at q);omega
    ·dsimp only [oh,om,Tr.val,Tr.pre];(try dsimp only [az,ak])
     rw [if_neg (by decide)]
   ·obtain ⟨j,j1,j2,j3,_⟩:=h.up0 e0 hk
    rw [hu,j2]
    exact ih j (by omega) (by omega) (j3 i hmem)
def Sn (L:List T3) (S:List Int) (sn:List Bool):Prop:=sn.length=L.length/\ ∀j:Nat,j<L.length->(sn.getD j false=true↔(j:Int)∈S)
theorem amS (hN: ∀k,k<G.length->(N.getD k []).length<=1000) {up:List Int} (hul:up.length=G.length) (Oo: ∀k,k<G.length->up.getD k 0=U.getD k 0) (ja:pl.Nodup) {k:Nat} (hk:k<G.length) {S:List Int} (hS:(S++(G.getD k zB).2.2.2).Nodup) (hsub: ∀i∈(G.getD k zB).2.2.2,i∈N.getD k []) (hlen:(G.getD k zB).2.2.2.length<=1000) {sn:List Bool} (hsn:Sn L S sn):
  TR (oe (G,L)) (vn (G,L)) (up,sn,(k:Int),(k:Int),(G.getD k zB).2.2.2,(((G.getD k zB).2.2.2.length:Nat):Int),0) fun r=> ∃YF,r= .inr (up,YF,(k:Int))/\ Sn L (S++(G.getD k zB).2.2.2) YF:=by
 generalize hT:(G.getD k zB).2.2.2=T at*
 refine cu T.length (fun j s=> ∃YF,s=(up,YF,(k:Int),(k:Int),T,((T.length:Nat):Int),(j:Int))/\ Sn L (S++T.take j) YF) _ (fun j s hj hJ=> ?_) (fun s hJ=> ?_) ⟨sn,rfl,by simpa using hsn⟩
 ·obtain ⟨YF,rfl,hl,hm⟩:=hJ
  have hmem:=hsub _ (dW hj 0)
  have hin:=hi _ (h.sub k hk _ hmem)
  generalize hp:T.getD j 0=p at*
  have auY:p.toNat<L.length:=by omega
  have hpn:((p.toNat:Nat):Int)=p:=by omega
  have hno: ¬YF.getD p.toNat false=true:=fun q=>by
   have h1:=(hm p.toNat auY).1 q
   rw [hpn] at h1
   have h2:(S++T.take j++ [p]).Nodup:=by
    have:S++T=(S++T.take j++ [p])++T.drop (j+1):=by
     rw [<- hp,List.append_assoc S,<- bZ hj 0,List.append_assoc,List.take_append_drop]
    rw [this] at hS
    exact (List.nodup_append.1 hS).1
   rw [List.nodup_append] at h2
   exact h2.2.2 p h1 p (by simp) rfl
  have hchain:=aiP h hi hs hn hN hul Oo (YF.set p.toNat true) (k:Int) (k:Int) ((T.length:Nat):Int) (j:Int) 0 T hin (k+1) k (by omega) hk hmem
  refine ⟨?_,.inl ⟨(up,YF.set p.toNat true,(k:Int),(k:Int),T,((T.length:Nat):Int),((j+1:Nat):Int)),?_,_,rfl,by simp [hl],fun q hq=> ?_⟩⟩
  ·unfold vn az
   intro _
   dsimp only
   rw [Int.toNat_natCast,hp]
   exact ⟨by omega,hj,hj,fun _ _=>⟨by omega,by omega,by omega,fun _=>⟨by omega,by omega,by omega,hchain.1⟩⟩⟩
  ·unfold oe ak
   dsimp only
   rw [if_pos (by omega),Int.toNat_natCast,hp,if_neg (by omega),if_neg (by omega),if_neg hno,hchain.2]
   show Sum.inl (up,YF.set p.toNat true,(k:Int),(k:Int),T,((T.length:Nat):Int),au ((j:Int)+1))=_
   rw [adQ hj (by omega)]
  ·rw [T8 _ _ _ _ _ (by omega),bZ hj 0,hp]
   by_cases e:p.toNat=q
   ·rw [if_pos e]
    subst e
    simp [hpn]
   ·rw [if_neg e,hm q hq]
    have hne: ¬(q:Int)=p:=fun e'=>e (by omega)
    simp [hne]
 ·obtain ⟨YF,rfl,hJ⟩:=hJ
  rw [List.take_length] at hJ
  refine ⟨?_,_,?_,YF,rfl,hJ⟩
  ·unfold vn
   intro q
   dsimp only at q;omega
  ·unfold oe
   dsimp only
   rw [if_neg (by omega)]
theorem ap7 (hN: ∀k,k<G.length->(N.getD k []).length<=1000) (hG:G.length<=10000) {up:List Int} (hul:up.length=G.length) (Oo: ∀k,k<G.length->up.getD k 0=U.getD k 0) (ja:pl.Nodup):
  TR (lf (G,L)) (vm (G,L)) (up,List.replicate L.length false,0) fun r=> ∃sn,r= .inr sn/\ Sn L (G.flatMap fun b=>b.2.2.2) sn:=by
 have asa:(G.flatMap fun b=>b.2.2.2).Nodup:=h.anE.nodup_iff.2 ja
 refine cu G.length (fun i s=> ∃sn,s=(up,sn,(i:Int))/\ Sn L ((G.take i).flatMap fun b=>b.2.2.2) sn) _ (fun i s hk hJ=> ?_) (fun s hJ=> ?_) ⟨_,rfl,by simp,fun j hj=> ?_⟩
 ·obtain ⟨sn,rfl,hS⟩:=hJ
  have hsp:(G.flatMap fun b=>b.2.2.2)=((G.take i).flatMap fun b=>b.2.2.2)++(G.getD i zB).2.2.2++((G.drop (i+1)).flatMap fun b=>b.2.2.2):=by
   have h1:=List.take_append_drop (i+1) G
   rw [bZ hk zB] at h1
   have h2:=congrArg (fun l:List zy=>l.flatMap fun b=>b.2.2.2) h1
   simp only [List.flatMap_append,List.flatMap_cons,List.flatMap_nil,List.append_nil] at h2
   exact h2.symm
  have hS2:(((G.take i).flatMap fun b=>b.2.2.2)++(G.getD i zB).2.2.2).Nodup:=by
   rw [hsp] at asa
   exact (List.nodup_append.1 asa).1
  have hsub:(∀p∈(G.getD i zB).2.2.2,p∈N.getD i [])/\ (G.getD i zB).2.2.2.length<=1000:=by
   rcases h.aot hk with ⟨_,_,a3,a4⟩|⟨_,_,_,_,_,a5,_⟩
   ·rw [a3];exact ⟨fun p hp=>hp,by omega⟩
   ·rw [a5];exact ⟨fun p hp=>(by cases hp),by simp⟩
  have key:=amS h hi hs hn hN hul Oo ja hk hS2 hsub.1 hsub.2 hS
  obtain ⟨YF,e,hS'⟩:=key.2
  refine ⟨?_,.inl ⟨(up,YF,((i+1:Nat):Int)),?_,YF,rfl,?_⟩⟩
  ·unfold vm
   intro _
   dsimp only
   rw [Int.toNat_natCast]
   exact ⟨by omega,hk,hk,key.1⟩
  ·unfold lf ak
   dsimp only
   rw [if_pos (by omega),Int.toNat_natCast]
   refine Eq.trans (congrArg (fun r=>Sum.elim (fun a=>Sum.inr (Sum.inl ())) (fun b=>Sum.inl (b.1,b.2.1,(au (b.2.2+(1:Int))))) r) e) ?_
   show Sum.inl (up,YF,au ((i:Int)+1))=_
   rw [adQ hk (by omega)]
  ·rw [bZ hk zB]
   simpa using hS'
 ·obtain ⟨sn,rfl,hS⟩:=hJ
  rw [List.take_length] at hS
  refine ⟨?_,.inr sn,?_,sn,rfl,hS⟩
  ·unfold vm
   intro q
   dsimp only at q;omega
  ·unfold lf
   dsimp only
   rw [if_neg (by omega)]
 ·rw [List.getD_eq_getElem?_getD,List.getElem?_replicate,if_pos hj];simp
end
theorem lE.small {L:List T3} {s:Nat} {par:Int} {pl:List Int} {G:List zy} {N:List (List Int)} {U:List Int} (h:lE L s par pl G N U): ∀x∈N,x.length<=pl.length:=by
 induction h with
 |leaf s par pl hl=>intro x hx;simp only [List.mem_singleton] at hx;subst hx;omega
 |fork s par pl a b A B NA NB UA UB h2 hp ha hb he hA hB UG UH=>
  intro x hx
  simp only [List.mem_cons,List.mem_append] at hx
  rcases hx with rfl|hx|hx
  ·omega
  ·have:=UG x hx;omega
  ·have:=UH x hx;omega
theorem amR {L:List T3} {pl:List Int} {G:List zy} {N:List (List Int)} {U:List Int} (ht:lE L 0 (-1) pl G N U) (hi:Uz L pl) (hs:tF L) (hn:pl.length<=1000) (hL:L.length<=1000) (hG:G.length<=10000) (ja:pl.Nodup) (hall: ∀j:Nat,j<L.length->(j:Int)∈pl):S1 (G,L)/\ isT (G,L)=true:=by
 have h:=ht.facts
 have hN: ∀k,k<G.length->(N.getD k []).length<=1000:=fun k hk=>by
  have:=ht.small _ (dW (show k<N.length by rw [h.n1];exact hk) [])
  omega
 obtain ⟨p1,up,p2,hul,Oo⟩:=Ws h (by omega)
 have key:=ap7 h hi hs hn hN hG hul Oo ja
 obtain ⟨sn,e,hl,hm⟩:=key.2
 obtain ⟨c1,c2⟩:=Og sn (by omega) false
 have hno:mO (sn,false)=false:=by
  cases hb:mO (sn,false) with
  |false=>rfl
  |true=>
   have:=c2.1 hb
   obtain ⟨j,hj,e2⟩:=List.mem_iff_getElem.1 this
   have h3:=(hm j (by omega)).2 (h.anE.mem_iff.2 (hall j (by omega)))
   rw [List.getD_eq_getElem?_getD,List.getElem?_eq_getElem hj,Option.getD_some,e2] at h3
   cases h3
 unfold S1 isT az ak
 dsimp only
 rw [p2]
 dsimp only
 rw [if_neg (by decide),e]
 refine ⟨⟨p1,fun _=>⟨⟨by omega,by omega⟩,key.1,c1⟩⟩,?_⟩
 show (!mO (sn,false))=true
 rw [hno];rfl
end Go.Proofs.YtngdehlpoomaiaaGreat
