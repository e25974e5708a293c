/- Plain laws: places that are split in two; what grows. -/
import Derived.Test.YtngdehlpoomaiaaGreatVa
import Derived.Test.YtngdehlpoomaiaaGreatUb
noncomputable section
set_option linter.unusedSectionVars false
set_option linter.unusedVariables false
set_option linter.unusedSimpArgs false
namespace Go.Proofs.YtngdehlpoomaiaaGreat
open Go Go.Ev Go.Proofs
def Lb (t:T3):List P3:= [t.1,t.2.1,t.2.2]
def oI (L:List T3) (pl:List Int):List P3:=pl.flatMap fun i=>Lb (L.getD i.toNat zT)
def Na (L:List T3) (pl:List Int):Prop:= ∀i∈pl,0<=i/\ i<(L.length:Int)
def yQ (L:List T3):Prop:= ∀t∈L,∀p∈Lb t,fF p
theorem Sz (L:List T3) (pl:List Int) (i:Int):oI L (pl++ [i])=oI L pl++Lb (L.getD i.toNat zT):=by simp [oI]
theorem wL (L:List T3): ∀(pl:List Int),(oI L pl).length=3*pl.length
 | []=>rfl
 |i::r=>by
  have:=wL L r
  simp only [oI,List.flatMap_cons,List.length_append,Lb,List.length_cons,List.length_nil] at this ⊢
  omega
theorem Gn {L:List T3} (hs:yQ L) {pl:List Int} (hi:Na L pl): ∀p∈oI L pl,fF p:=fun p hp=>by
 obtain ⟨i,h1,h2⟩:=List.mem_flatMap.1 hp
 have:=hi i h1
 exact hs _ (jl (by omega) zT) p h2
theorem YE (L:List T3) (pl:List Int) (hi:Na L pl) (hl:pl.length<=1000000):TR (iN (L,pl)) (pq (L,pl)) ([],0) fun r=>r=oI L pl:=by
 refine eH pl.length (fun i s=>s=(oI L (pl.take i),(i:Int))) _ (fun i s h hj=> ?_) (fun s hj=> ?_) rfl
 ·subst hj
  have hin:=hi _ (jl h 0)
  have hlt:(pl.getD i 0).toNat<L.length:=by omega
  have hlen:=wL L (pl.take i)
  rw [List.length_take] at hlen
  refine ⟨?_,.inl ⟨_,?_,rfl⟩⟩
  ·unfold pq
   intro _
   dsimp only
   rw [Int.toNat_natCast]
   exact ⟨by omega,h,h,hin,hlt,hlt,by omega⟩
  ·unfold iN
   dsimp only
   rw [if_pos (by omega),Int.toNat_natCast,VD h (by omega),eA h 0,Sz];rfl
 ·subst hj
  refine ⟨?_,_,?_,rfl⟩
  ·unfold pq
   intro q
   dsimp only at q;omega
  ·unfold iN
   dsimp only
   rw [if_neg (by omega),List.take_length]
theorem EU {L:List T3} {pl:List Int} (hi:Na L pl) (hl:pl.length<=1000000):qK (L,pl)/\ fH (L,pl)=(vl (oI L pl)).1:=by
 have k:=YE L pl hi hl
 have hlen:=wL L pl
 have s:=GH (oI L pl) (by omega)
 unfold qK fH aC aq
 rw [k.2]
 exact ⟨⟨k.1,s.1⟩,rfl⟩
theorem Tv {L:List T3} (hs:yQ L) {pl:List Int} (hi:Na L pl) (hl:pl.length<=1000000) (h0:pl≠ []):Nl (oI L pl) (fH (L,pl)):=by
 have hlen:=wL L pl
 rw [(EU hi hl).2]
 have hne:oI L pl≠ []:=fun e=>by
  have h1:=congrArg List.length e
  have h2:=List.length_pos_iff.2 h0
  rw [hlen] at h1
  simp only [List.length_nil] at h1
  omega
 rcases (GH (oI L pl) (by omega)).2 with ⟨e,_⟩|⟨_,e,_⟩|⟨_,_,e,_⟩
 ·exact absurd e hne
 ·exact absurd (Gn hs hi) e
 ·exact e
theorem OW (b:B3):mq b/\ 0<=(nc b).1/\ (nc b).1<3:=by
 have key:TR (gg b) (j8 b) (b.1.1,b.1.2.1,b.1.2.2,b.2.1,b.2.2.1,b.2.2.2,0,0) fun r=>0<=r/\ r<3:=by
  refine eH 3 (fun k s=> ∃m:Int,s=(b.1.1,b.1.2.1,b.1.2.2,b.2.1,b.2.2.1,b.2.2.2,m,(k:Int))/\ 0<=m/\ m<3) _ (fun k s hk hj=> ?_) (fun s hj=> ?_) ⟨0,rfl,by decide,by decide⟩
  ·obtain ⟨m,rfl,h1,h2⟩:=hj
   have hc:av ((k:Int)+1)=((k+1:Nat):Int):=by rw [aF (by omega) (by omega)];omega
   refine ⟨?_,.inl ?_⟩
   ·unfold j8
    intro _
    dsimp only
    omega
   ·unfold gg
    dsimp only
    rw [if_pos (by omega),hc]
    split
    ·exact ⟨_,rfl,(k:Int),rfl,by omega,by omega⟩
    ·exact ⟨_,rfl,m,rfl,h1,h2⟩
  ·obtain ⟨m,rfl,h1,h2⟩:=hj
   refine ⟨?_,m,?_,h1,h2⟩
   ·unfold j8
    intro q
    dsimp only at q;omega
   ·unfold gg
    dsimp only
    rw [if_neg (by omega)]
 obtain ⟨s1,s2⟩:=yq b
 unfold mq nc aC aq parts
 dsimp only
 cases qy b with
 |false=>exact ⟨⟨s1,fun q=>absurd (by decide) q⟩,(show (0:Int)<=0 by decide),(show (0:Int)<3 by decide)⟩
 |true=>
  rw [if_neg (by decide)]
  exact ⟨⟨s1,fun _=>key.1⟩,key.2.1,key.2.2⟩
theorem NK (x:List Int) (h:x.length<1099511627776):kU x:=by
 unfold kU
 intro b hb
 cases b with
 |false=>exact ⟨rfl,fun _=>by omega⟩
 |true=>
  cases x with
  |nil=>exact ⟨rfl,fun q=>absurd rfl q⟩
  |cons a r=>exact absurd (hb (by simp)) (by decide)
def axs (L:List T3) (pl:List Int):Int:=(nc (fH (L,pl))).1
def IQ (L:List T3) (pl:List Int):List Int:=srt (L,axs L pl) pl
theorem SR {L:List T3} {pl:List Int} (hi:Na L pl) (hm:pl.length<=12):
  jB (L,pl)/\ sV (L,pl)=((IQ L pl).take (pl.length / 2),(IQ L pl).drop (pl.length / 2)):=by
 have hl:pl.length<=1000000:=by omega
 obtain ⟨b1,_⟩:=EU hi hl
 obtain ⟨g1,g2,g3⟩:=OW (fH (L,pl))
 have hf:Bm (L,axs L pl) pl:=⟨by omega,fun e he=>hi e he,g2,g3⟩
 obtain ⟨s1,s2⟩:=abB hf hm
 have Jx:=(Qu (L,axs L pl) pl).length_eq
 have e1:av (Int.tdiv ((pl.length:Nat):Int) 2)=((pl.length / 2:Nat):Int):=by
  rw [Int.tdiv_eq_ediv_of_nonneg (by omega),aF (by omega) (by omega)];omega
 have Ot: ∀x,tS x=x:=fun _=>rfl
 unfold jB sV aC aq
 simp only [Ot]
 have s2':(GK (pl,L,(nc (fH (L,pl))).1)).2.1=IQ L pl:=s2
 have hlen:(IQ L pl).length=pl.length:=Jx
 rw [s2',hlen,e1,Int.toNat_natCast]
 refine ⟨⟨b1,g1,NK pl (by omega),s1,⟨by omega,by omega⟩,⟨by omega,by omega⟩,by omega,by omega⟩,rfl⟩
theorem Xz (L:List T3) (pl:List Int):(IQ L pl).Perm pl:=Qu _ _
end Go.Proofs.YtngdehlpoomaiaaGreat
namespace Go.Proofs.YtngdehlpoomaiaaGreat
open Go Go.Ev Go.Proofs
abbrev zB:vQ:=((z3,z3),0,0,[])
inductive jR (L:List T3):Nat->Int->List Int->List vQ->List (List Int)->List Int->Prop
 |leaf (s:Nat) (par:Int) (pl:List Int):pl.length<=2->jR L s par pl [(fH (L,pl),0,0,pl)] [pl] [par]
 | fork (s:Nat) (par:Int) (pl a b:List Int) (A B:List vQ) (NA NB:List (List Int)) (UA UB:List Int):2<pl.length->(a++b).Perm pl->a.length=pl.length / 2->b.length=pl.length- pl.length / 2->a++b=IQ L pl->
   jR L (s+1) s a A NA UA->jR L (s+1+A.length) s b B NB UB->
   jR L s par pl ((fH (L,pl),((s+1:Nat):Int),((s+1+A.length:Nat):Int),[])::(A++B)) (pl::(NA++NB)) (par::(UA++UB))
theorem gdA {α:Type} {x:α} {A B:List α} {k:Nat} (h:k<A.length) (d:α):(x::(A++B)).getD (1+k) d=A.getD k d:=by
 rw [Nat.add_comm,List.getD_eq_getElem?_getD,List.getElem?_cons_succ,List.getElem?_append_left h,List.getD_eq_getElem?_getD]
theorem gdB {α:Type} {x:α} {A B:List α} (k n:Nat) (hn:A.length=n) (d:α):(x::(A++B)).getD (1+n+k) d=B.getD k d:=by
 subst hn
 rw [show 1+A.length+k=(A.length+k)+1 by omega,List.getD_eq_getElem?_getD,List.getElem?_cons_succ,List.getElem?_append_right (by omega),Nat.add_sub_cancel_left,List.getD_eq_getElem?_getD]
def Ub (b:vQ):Bool:=b.2.1==0
structure IU (L:List T3) (s:Nat) (par:Int) (pl:List Int) (G:List vQ) (N:List (List Int)) (U:List Int):Prop where
 n1:N.length=G.length
 u1:U.length=G.length
 pos:0<G.length
 n0:N.getD 0 []=pl
 u0:U.getD 0 0=par
 box: ∀k,k<G.length->(G.getD k zB).1=fH (L,N.getD k [])
 sub: ∀k,k<G.length-> ∀i∈N.getD k [],i∈pl
 ne:pl≠ []-> ∀k,k<G.length->N.getD k []≠ []
 up: ∀k,0<k->k<G.length-> ∃j,j<k/\ U.getD k 0=((s+j:Nat):Int)/\ (∀i∈N.getD k [],i∈N.getD j [])/\ ((G.getD j zB).2.1=((s+k:Nat):Int)\/ (G.getD j zB).2.2.1=((s+k:Nat):Int))
 kind: ∀k,k<G.length->((G.getD k zB).2.1=0/\ (G.getD k zB).2.2.1=0/\ (G.getD k zB).2.2.2=N.getD k []/\ (N.getD k []).length<=2)\/
  (∃r,(G.getD k zB).2.1=((s+(k+1):Nat):Int)/\ (G.getD k zB).2.2.1=((s+r:Nat):Int)/\ k+1<r/\ r<G.length/\ (G.getD k zB).2.2.2= []/\ U.getD (k+1) 0=((s+k:Nat):Int)/\ U.getD r 0=((s+k:Nat):Int)/\ (N.getD (k+1) []++N.getD r []).Perm (N.getD k [])/\ 2<(N.getD k []).length/\ (N.getD (k+1) []).length<=((N.getD k []).length+1) / 2/\ (N.getD r []).length<=((N.getD k []).length+1) / 2)
 afc:(G.flatMap fun b=>b.2.2.2).Perm pl
 many:G.countP Ub=G.countP (fun b=> !Ub b)+1
theorem jR.facts {L:List T3} {s:Nat} {par:Int} {pl:List Int} {G:List vQ} {N:List (List Int)} {U:List Int} (h:jR L s par pl G N U):IU L s par pl G N U:=by
 induction h with
 |leaf s par pl hl=>
  have h0: ∀k,k<1->k=0:=fun k hk=>by omega
  refine ⟨rfl,rfl,Nat.one_pos,rfl,rfl,fun k hk=> ?_,fun k hk i hi=> ?_,fun hp k hk=> ?_,fun k h1 h2=> ?_,fun k hk=> ?_,by simp,rfl⟩
  ·rw [h0 k hk];rfl
  ·rw [h0 k hk] at hi;exact hi
  ·rw [h0 k hk];exact hp
  ·have:=h0 k h2;omega
  ·rw [h0 k hk];exact .inl ⟨rfl,rfl,rfl,hl⟩
 |fork s par pl a b A B NA NB UA UB h2 hp ha hb he hA hB Nh Ni=>
  have hlen:((fH (L,pl),((s+1:Nat):Int),((s+1+A.length:Nat):Int),[])::(A++B)).length=1+A.length+B.length:=by simp;omega
  have hpa:=Nh.pos
  have hpb:=Ni.pos
  have hna:=Nh.n1
  have hnb:=Ni.n1
  have hua:=Nh.u1
  have hub:=Ni.u1
  have gA: ∀k,k<A.length->((fH (L,pl),((s+1:Nat):Int),((s+1+A.length:Nat):Int),[])::(A++B)).getD (1+k) zB=A.getD k zB:=fun k hk=>gdA hk zB
  have gB: ∀k,((fH (L,pl),((s+1:Nat):Int),((s+1+A.length:Nat):Int),[])::(A++B)).getD (1+A.length+k) zB=B.getD k zB:=fun k=>gdB k _ rfl zB
  have nA: ∀k,k<A.length->(pl::(NA++NB)).getD (1+k) []=NA.getD k []:=fun k hk=>gdA (by omega) []
  have nB: ∀k,(pl::(NA++NB)).getD (1+A.length+k) []=NB.getD k []:=fun k=>gdB k _ hna []
  have uA: ∀k,k<A.length->(par::(UA++UB)).getD (1+k) 0=UA.getD k 0:=fun k hk=>gdA (by omega) 0
  have uB: ∀k,(par::(UA++UB)).getD (1+A.length+k) 0=UB.getD k 0:=fun k=>gdB k _ hua 0
  have g0:((fH (L,pl),((s+1:Nat):Int),((s+1+A.length:Nat):Int),[])::(A++B)).getD 0 zB=(fH (L,pl),((s+1:Nat):Int),((s+1+A.length:Nat):Int),[]):=rfl
  have n0:(pl::(NA++NB)).getD 0 []=pl:=rfl
  generalize hG:((fH (L,pl),((s+1:Nat):Int),((s+1+A.length:Nat):Int),[])::(A++B))=G at*
  generalize hN:(pl::(NA++NB))=N at*
  generalize hU:(par::(UA++UB))=U at*
  have ux: ∀k,k<G.length->k=0\/ (∃q,k=1+q/\ q<A.length)\/ ∃q,k=1+A.length+q/\ q<B.length:=fun k hk=>by
   rcases Nat.eq_zero_or_pos k with e|e
   ·exact .inl e
   ·rcases Nat.lt_or_ge (k- 1) A.length with e2|e2
    ·exact .inr (.inl ⟨k- 1,by omega,e2⟩)
    ·exact .inr (.inr ⟨k- 1- A.length,by omega,by omega⟩)
  have hia: ∀i∈a,i∈pl:=fun i hi=>hp.mem_iff.1 (List.mem_append.2 (.inl hi))
  have hib: ∀i∈b,i∈pl:=fun i hi=>hp.mem_iff.1 (List.mem_append.2 (.inr hi))
  refine ⟨by rw [<- hN,<- hG];simp [hna,hnb],by rw [<- hU,<- hG];simp [hua,hub],by omega,n0,by rw [<- hU];rfl,fun k hk=> ?_,fun k hk i hi=> ?_,fun hne k hk=> ?_,fun k h1 hk=> ?_,fun k hk=> ?_,?_,?_⟩
  ·rcases ux k hk with rfl|⟨q,rfl,hq⟩|⟨q,rfl,hq⟩
   ·rw [g0,n0]
   ·rw [gA q hq,nA q hq];exact Nh.box q hq
   ·rw [gB,nB];exact Ni.box q hq
  ·rcases ux k hk with rfl|⟨q,rfl,hq⟩|⟨q,rfl,hq⟩
   ·rw [n0] at hi;exact hi
   ·rw [nA q hq] at hi;exact hia i (Nh.sub q hq i hi)
   ·rw [nB] at hi;exact hib i (Ni.sub q hq i hi)
  ·rcases ux k hk with rfl|⟨q,rfl,hq⟩|⟨q,rfl,hq⟩
   ·rw [n0];exact hne
   ·rw [nA q hq]
    exact Nh.ne (fun e=>by rw [e] at ha;simp at ha;omega) q hq
   ·rw [nB]
    exact Ni.ne (fun e=>by rw [e] at hb;simp at hb;omega) q hq
  ·rcases ux k hk with rfl|⟨q,rfl,hq⟩|⟨q,rfl,hq⟩
   ·omega
   ·rcases Nat.eq_zero_or_pos q with rfl|Wo
    ·refine ⟨0,by omega,?_,fun i hi=> ?_,.inl ?_⟩
     ·rw [uA 0 hq,Nh.u0];rfl
     ·rw [nA 0 hq,Nh.n0] at hi;rw [n0];exact hia i hi
     ·rw [g0]
    ·obtain ⟨j,j1,j2,j3,j4⟩:=Nh.up q Wo hq
     refine ⟨1+j,by omega,?_,fun i hi=> ?_,?_⟩
     ·rw [uA q hq,j2];omega
     ·rw [nA q hq] at hi;rw [nA j (by omega)];exact j3 i hi
     ·rw [gA j (by omega)]
      exact j4.imp (fun e=>by rw [e];omega) fun e=>by rw [e];omega
   ·rcases Nat.eq_zero_or_pos q with rfl|Wo
    ·refine ⟨0,by omega,?_,fun i hi=> ?_,.inr ?_⟩
     ·rw [uB,Ni.u0];rfl
     ·rw [nB,Ni.n0] at hi;rw [n0];exact hib i hi
     ·rw [g0];dsimp only;omega
    ·obtain ⟨j,j1,j2,j3,j4⟩:=Ni.up q Wo hq
     refine ⟨1+A.length+j,by omega,?_,fun i hi=> ?_,?_⟩
     ·rw [uB,j2];omega
     ·rw [nB] at hi;rw [nB];exact j3 i hi
     ·rw [gB]
      exact j4.imp (fun e=>by rw [e];omega) fun e=>by rw [e];omega
  ·rcases ux k hk with rfl|⟨q,rfl,hq⟩|⟨q,rfl,hq⟩
   ·refine .inr ⟨1+A.length,?_,?_,by omega,by omega,by rw [g0],?_,?_,?_⟩
    ·rw [g0]
    ·rw [g0];dsimp only;omega
    ·have:=uA 0 hpa
     rw [Nh.u0] at this
     exact this
    ·have:=uB 0
     rw [Ni.u0,Nat.add_zero] at this
     exact this
    ·have e1:=nA 0 hpa
     have e2:=nB 0
     rw [Nh.n0,Nat.add_zero] at e1
     rw [Ni.n0,Nat.add_zero] at e2
     rw [show 0+1=1 from rfl,e1,e2,n0];exact ⟨hp,h2,by omega,by omega⟩
   ·rcases Nh.kind q hq with ⟨k1,k2,k3,k4⟩|⟨r,k1,k2,k3,k4,k5,k6,k7,k8⟩
    ·refine .inl ?_
     rw [gA q hq,nA q hq]
     exact ⟨k1,k2,k3,k4⟩
    ·refine .inr ⟨1+r,?_,?_,by omega,by omega,?_,?_,?_,?_⟩
     ·rw [gA q hq,k1];omega
     ·rw [gA q hq,k2];omega
     ·rw [gA q hq];exact k5
     ·rw [show 1+q+1=1+(q+1) by omega,uA (q+1) (by omega),k6];omega
     ·rw [uA r k4,k7];omega
     ·rw [show 1+q+1=1+(q+1) by omega,nA (q+1) (by omega),nA r k4,nA q hq];exact k8
   ·rcases Ni.kind q hq with ⟨k1,k2,k3,k4⟩|⟨r,k1,k2,k3,k4,k5,k6,k7,k8⟩
    ·refine .inl ?_
     rw [gB,nB]
     exact ⟨k1,k2,k3,k4⟩
    ·refine .inr ⟨1+A.length+r,?_,?_,by omega,by omega,?_,?_,?_,?_⟩
     ·rw [gB,k1];omega
     ·rw [gB,k2];omega
     ·rw [gB];exact k5
     ·rw [show 1+A.length+q+1=1+A.length+(q+1) by omega,uB,k6];omega
     ·rw [uB,k7];omega
     ·rw [show 1+A.length+q+1=1+A.length+(q+1) by omega,nB,nB,nB];exact k8
  ·rw [←hG]
   simp only [List.flatMap_cons,List.flatMap_append,List.nil_append]
   exact (Nh.afc.append Ni.afc).trans hp
  ·rw [←hG]
   have m1:=Nh.many
   have m2:=Ni.many
   have hlf:Ub (fH (L,pl),((s+1:Nat):Int),((s+1+A.length:Nat):Int),([]:List Int))=false:=by
    unfold Ub
    dsimp only
    simp
    omega
   rw [List.countP_cons_of_neg (by rw [hlf];decide),List.countP_cons_of_pos (by rw [hlf];rfl),List.countP_append,List.countP_append]
   omega
end Go.Proofs.YtngdehlpoomaiaaGreat
namespace Go.Proofs.YtngdehlpoomaiaaGreat
open Go Go.Ev Go.Proofs
theorem abr {α:Type} (l:List α) (x y:α):(l++ [x]).set l.length y=l++ [y]:=by simp
theorem MO {α:Type} (l r:List α) (x y:α):(l++(x::r)).set l.length y=l++(y::r):=by simp
theorem L3 {α:Type} (l r:List α) (x d:α):(l++(x::r)).getD l.length d=x:=by simp
theorem aeQ (pl:List Int) (x:vQ): [x].length+1<=2*pl.length\/ (pl.length=0/\ [x].length=1):=by
 rcases Nat.eq_zero_or_pos pl.length with e|e
 ·exact .inr ⟨e,rfl⟩
 ·left;simp;omega
def Grown (L:List T3) (pl:List Int) (l r:List vQ):Prop:= ∃G N U,r=l++G/\ (G.length+1<=2*pl.length\/ (pl.length=0/\ G.length=1))/\ ∀par,∃U',U'.tail=U/\ jR L l.length par pl G N U'
def Eu (n:Nat):Prop:= ∀L pl l,Na L pl->pl.length<n->pl.length<=12->l.length+3*pl.length<=100000-> @qT (xm n) (pl,L,l)/\ Grown L pl l (@Fy (xm n) (pl,L,l))
theorem grow_step {n:Nat} (ih:Eu n):Eu (n+1):=by
 intro L pl l hi hn hl hb
 obtain ⟨b1,_⟩:=EU hi (by omega)
 obtain ⟨s1,s2⟩:=SR hi (by omega)
 show @wq (xm n) (pl,L,l)/\ Grown L pl l (@TO (xm n) (pl,L,l))
 unfold wq TO aC aq
 dsimp only
 by_cases h2:((pl.length:Nat):Int)<=2
 ·rw [if_pos h2]
  have hlen:(l++ [(fH (L,pl),(0:Int),(0:Int),([]:List Int))]).length=l.length+1:=by simp
  refine ⟨⟨b1,by omega,fun _=>⟨NK pl (by omega),by rw [hlen];omega,by rw [hlen];omega,by rw [hlen];omega,by rw [hlen];omega⟩,fun q=>absurd h2 q⟩,?_⟩
  refine ⟨[(fH (L,pl),0,0,pl)],[pl],[],?_,aeQ pl _,fun par=>⟨[par],rfl,.leaf _ par pl (by omega)⟩⟩
  have Ot: ∀x,tS x=x:=fun _=>rfl
  rw [Ot,abr,L3 l [] _ _]
 ·rw [if_neg h2,s2]
  dsimp only
  have xq:2<pl.length:=by omega
  have Jx:=Xz L pl
  have Ng:=Jx.length_eq
  have hta:((IQ L pl).take (pl.length / 2)).length=pl.length / 2:=by rw [List.length_take];omega
  have htb:((IQ L pl).drop (pl.length / 2)).length=pl.length- pl.length / 2:=by rw [List.length_drop];omega
  have hia:Na L ((IQ L pl).take (pl.length / 2)):=fun i h=>hi i (Jx.mem_iff.1 (List.mem_of_mem_take h))
  have hib:Na L ((IQ L pl).drop (pl.length / 2)):=fun i h=>hi i (Jx.mem_iff.1 (List.mem_of_mem_drop h))
  have hlen:(l++ [(fH (L,pl),(0:Int),(0:Int),([]:List Int))]).length=l.length+1:=by simp
  obtain ⟨p1,G1,N1,U1,e1,g1,t1⟩:=ih L _ (l++ [(fH (L,pl),(0:Int),(0:Int),([]:List Int))]) hia (by omega) (by omega) (by rw [hlen];omega)
  have Ju:(l++ [(fH (L,pl),(0:Int),(0:Int),([]:List Int))]++G1).length=l.length+1+G1.length:=by rw [List.length_append,hlen]
  obtain ⟨p2,G2,N2,U2,e2,g2,t2⟩:=ih L _ (l++ [(fH (L,pl),(0:Int),(0:Int),([]:List Int))]++G1) hib (by omega) (by omega) (by rw [Ju];omega)
  have e3:l++ [(fH (L,pl),(0:Int),(0:Int),([]:List Int))]++G1++G2=l++((fH (L,pl),(0:Int),(0:Int),([]:List Int))::(G1++G2)):=by simp
  rw [e1,e2,e3,Ju]
  have hw:av (((l.length:Nat):Int)+1)=((l.length+1:Nat):Int):=by rw [aF (by omega) (by omega)];omega
  have TV:(l++((fH (L,pl),(0:Int),(0:Int),([]:List Int))::(G1++G2))).length=l.length+(1+G1.length+G2.length):=by simp;omega
  have TW: ∀y:vQ,(l++(y::(G1++G2))).length=l.length+(1+G1.length+G2.length):=fun y=>by simp;omega
  rw [hw,L3,MO,L3,MO]
  dsimp only
  refine ⟨⟨b1,by omega,fun q=>absurd q h2,fun _=>⟨s1,p1,p2,by rw [TV];omega,by rw [TV];omega,by rw [TV];omega,by rw [TV];omega,by rw [TW];omega,by rw [TW];omega,by rw [TW];omega,by rw [TW];omega⟩⟩,?_⟩
  rw [hlen] at t1
  rw [Ju] at t2
  obtain ⟨UA,_,tA⟩:=t1 ((l.length:Nat):Int)
  obtain ⟨UB,_,tB⟩:=t2 ((l.length:Nat):Int)
  refine ⟨(fH (L,pl),((l.length+1:Nat):Int),((l.length+1+G1.length:Nat):Int),[])::(G1++G2),pl::(N1++N2),UA++UB,rfl,?_,fun par=>⟨par::(UA++UB),rfl,?_⟩⟩
  ·simp only [List.length_cons,List.length_append]
   omega
  ·exact .fork _ par pl _ _ G1 G2 N1 N2 UA UB xq (by rw [List.take_append_drop];exact Jx) hta htb (List.take_append_drop _ _) tA tB
theorem On: ∀n,Eu n
 |0=>fun L pl l _ hn=>absurd hn (Nat.not_lt_zero _)
 |n+1=>grow_step (On n)
theorem Wb {L:List T3} {pl:List Int} (l:List vQ) (hi:Na L pl) (hl:pl.length<=12) (hb:l.length<=1000):BJ (pl,L,l)/\ ∃G N U,Zv (pl,L,l)=l++G/\ (G.length+1<=2*pl.length\/ (pl.length=0/\ G.length=1))/\ jR L l.length (-1) pl G N U:=by
 obtain ⟨h1,G,N,U,h2,h3,h4⟩:=On (pl.length+1) L pl l hi (by omega) hl (by omega)
 obtain ⟨U',_,h5⟩:=h4 (-1)
 exact ⟨h1,G,N,U',h2,h3,h5⟩
end Go.Proofs.YtngdehlpoomaiaaGreat
